/- Set, Drop, Same, SameRow of heads. -/
import Derived.Test.YtbeilgkogbcjjaaDoorHeadSet
import Derived.Test.YtbeilgkogbcjjaaDoorOwnSet
import Derived.Test.YtbeilgkogbcjjaaDoorAppR
set_option linter.unusedVariables false
namespace Go.Proofs.YtbeilgkogbcjjaaDoor
open Go.RowKit

def NoDup (l : List Hd) : Prop := (l.map (·.name)).Nodup
theorem putL_names (l : List Hd) (h : Hd) : (putL l h).map (·.name) = l.map (·.name) := by
  unfold putL
  rw [List.map_map]
  refine List.map_congr_left fun x _ => ?_
  simp only [Function.comp_apply]
  split
  · rename_i e; exact e.symm
  · rfl
theorem hasN_map (l : List Hd) (s : ByteArray) : hasN l s = true ↔ s ∈ l.map (·.name) := by
  rw [hasN_iff, List.mem_map]
theorem setL_nodup {l : List Hd} (h : Hd) (hl : NoDup l) : NoDup (setL l h) := by
  unfold NoDup at *
  unfold setL
  split
  · rw [putL_names]; exact hl
  · rename_i hh
    split
    · rw [List.map_append, List.nodup_append]
      refine ⟨hl, by simp, ?_⟩
      intro a ha b hb
      simp at hb
      subst hb
      intro e
      subst e
      exact hh ((hasN_map l h.name).2 ha)
    · exact hl
theorem nodup_at {l : List Hd} (hl : NoDup l) {i j : Nat} {x y : Hd} (hi : l[i]? = some x) (hj : l[j]? = some y) (e : x.name = y.name) : i = j := by
  have h1 : (l.map (·.name))[i]? = some x.name := by rw [List.getElem?_map, hi]; rfl
  have h2 : (l.map (·.name))[j]? = some x.name := by rw [List.getElem?_map, hj, e]; rfl
  have hlt : i < (l.map (·.name)).length := by rw [List.length_map]; exact get_lt hi
  exact (List.getElem?_inj hlt hl).1 (h1.trans h2.symm)
theorem put_set {l : List Hd} (hl : NoDup l) {k : Nat} {x h : Hd} (hk : l[k]? = some x) (e : x.name = h.name) : putL l h = l.set k h := by
  apply List.ext_getElem?
  intro j
  unfold putL
  rw [List.getElem?_map, List.getElem?_set]
  by_cases hj : k = j
  · subst hj
    rw [hk, if_pos rfl, if_pos (get_lt hk)]
    simp [e]
  · rw [if_neg hj]
    cases hh : l[j]? with
    | none => rfl
    | some y =>
      simp only [Option.map_some]
      rw [if_neg]
      intro e2
      exact hj (nodup_at hl hk hh (e.trans e2.symm))
def setAll (l by_ : List Hd) : List Hd := by_.foldl setL l
theorem setAll_snoc {l b : List Hd} {k : Nat} {h : Hd} (hk : b[k]? = some h) : setAll l (b.take (k + 1)) = setL (setAll l (b.take k)) h := by
  unfold setAll
  rw [List.take_add_one, hk, List.foldl_append]; rfl
theorem setAll_nodup {l : List Hd} (hl : NoDup l) (b : List Hd) : NoDup (setAll l b) := by
  unfold setAll
  induction b generalizing l with
  | nil => exact hl
  | cons h t ih => exact ih (setL_nodup h hl)
theorem setL_le (l : List Hd) (h : Hd) (m : Nat) (hm : 8 ≤ m) (hl : l.length ≤ m) : (setL l h).length ≤ m := by
  unfold setL
  split
  · rw [putL_len]; exact hl
  · split
    · simp; omega
    · exact hl
theorem setAll_le (b : List Hd) (m : Nat) (hm : 8 ≤ m) : ∀ l : List Hd, l.length ≤ m → (setAll l b).length ≤ m := by
  unfold setAll
  induction b with
  | nil => intro l hl; exact hl
  | cons h t ih => intro l hl; exact ih _ (setL_le l h m hm hl)

set_option maxRecDepth 100000 in
set_option maxHeartbeats 4000000 in
theorem hset_any (a : Option Addr) (n c : Nat) (l : List Hd) (a2 : Option Addr) (m c2 : Nat) (b : List Hd) (w : World) (h : Rd hdE w a n l) (hsp : ∀ x, a = some x → x.spot = none) (hn : n ≤ 1000) (hnd : NoDup l) (h2 : Rd hdE w a2 m b) :
    Calls Tryd.prog 39 #[.slice a n c, .slice a2 m c2] w fun e w' => ∃ v, e = .returned v ∧ Own hdE w' w.heap.size 50 v (setAll l b) ∧ Frm noB w w' := by
  have hl := h.1
  have hl2 := h2.1
  have hm := h2.2.1
  obtain ⟨i, hi, hz, hz1, hz2⟩ := info_parts info_hd
  have hmm : ([] : List Hd).length + n ≤ 1000000 := by simp; omega
  have Hh := Lib.hid h
  have Hl := Lib.hid hl
  have Hl2 := Lib.hid hl2
  have H2 := Lib.hid h2
  have Hsp := Lib.hid hsp
  have Hmm := Lib.hid hmm
  have Hnd := Lib.hid hnd
  clear h hl hl2 h2 hsp hmm hnd
  go_enter Tryd.func39, Tryd.ntmps39
  go_wp2_with (at_builtin; refine wpl_appR hdE _ (by rfl) _ _ _ (by rfl) w.heap.size 50 i _ 32 Tryd.underlying23 hi hz hz1 hz2 rfl (by decide) (by omega) (.slice none 0 0) [] (by rfl) (Own.nil _ _ _ _) a n c l (by rfl) Hh.out Hsp.out Hmm.out (Nat.le_refl _) ?_)
  intro v1 w1 ho1 hf1 _
  have hf2 : Frm noB w w1 := hf1.mono (fun i _ hh => by simp [Value.ownBlock] at hh)
  have Ho1 := Lib.hid ho1
  have Hf2 := Lib.hid hf2
  clear ho1 hf2
  clear hf1 hi hz hz1 hz2
  go_wp2_with fail
  go_loopw [5, 13] (fun o i wr => ∃ k : Nat, k ≤ m ∧ i = .int .i64 k ∧ Own hdE wr w.heap.size 50 o (setAll l (b.take k)) ∧ Frm noB w wr) (fun _ i _ => m - (intOf i).toNat)
  case atStart => exact ⟨0, by omega, rfl, Ho1.out, Hf2.out⟩
  case round =>
    obtain ⟨k, hk, rfl, ho, hf⟩ := hrel
    by_cases hlt : k < m
    · obtain ⟨x, hx⟩ := get_of_lt (l := b) (j := k) (by rw [Hl2.out]; exact hlt)
      have hrd2 := H2.out.keep hf
      obtain ⟨b2, off2, rfl, hbl, c0, c1⟩ := hd_rd hrd2 hx
      have hsn := setAll_snoc (l := l) hx
      have hnd1 := setAll_nodup Hnd.out (b.take k)
      have hL : (setAll l (b.take k)).length ≤ 1000 := setAll_le _ _ (by omega) _ (by rw [Hl.out]; exact hn)
      generalize setAll l (b.take k) = L at *
      have fa := (Frm.refl noB wr).alloc (.cells #[.string x.name, .string x.val] 50)
      have ho2 := ho.keep fa
      have hbx := Blk.made wr #[.string x.name, .string x.val] 50
      have hfa := hf.trans fa
      obtain ⟨oa, oc, rfl, hLn, hog⟩ := ho2.shape
      have hord := ho2.rdS
      obtain ⟨nL, hnL⟩ : ∃ nL, nL = L.length := ⟨_, rfl⟩
      rw [← hnL] at hord ho2 ho hLn hog ⊢
      have hL2 : nL ≤ 1000 := by omega
      rcases place_at (l := L) (s := x.name) with ⟨e1, e2, _⟩ | ⟨p, y, e1, hy, hyn, _, e3⟩
      · have hno : hasN L x.name = false := by rw [hasN_pl]; exact decide_eq_false e2
        have Ho := Lib.hid ho
        have Hf := Lib.hid hf
        have Hx := Lib.hid hx
        have Hsn := Lib.hid hsn
        have Hnd1 := Lib.hid hnd1
        have HL := Lib.hid hL
        have Hfa := Lib.hid fa
        have Ho2 := Lib.hid ho2
        have Hbx := Lib.hid hbx
        have Hfa := Lib.hid hfa
        have Hord := Lib.hid hord
        have HnL := Lib.hid hnL
        have Hog := Lib.hid hog
        have He1 := Lib.hid e1
        have Hno := Lib.hid hno
        have Hrd2 := Lib.hid hrd2
        clear ho hf hx hsn hnd1 hL fa ho2 hbx hfa hord hnL hog e1 hno hrd2
        clear e2
        go_wp2_with fail
        refine (place_any oa nL oc L x.name _ Hord.out).mono ?_
        rintro e w2 ⟨rfl, hf3⟩
        rw [He1.out]
        have ho3 := Ho2.out.keep hf3
        have hb3 := Hbx.out.frm hf3 (fun h => h)
        have b0 := (hb3.cell 0).trans (show _ = some (Value.string x.name) from rfl)
        have b1 := (hb3.cell 1).trans (show _ = some (Value.string x.val) from rfl)
        have bl := hb3.lt
        have hf4 := Hfa.out.trans hf3
        have hwz := hf4.size
        by_cases h8 : nL < 8
        · have hse : setL L x = L ++ [x] := by unfold setL; rw [if_neg (by rw [Hno.out]; simp), if_pos (by rw [← HnL.out]; exact h8)]
          have hL6 : L.length ≤ 1000000 := by rw [← HnL.out]; omega
          have h8b : decide ((nL : Int) < 8) = true := decide_eq_true (by omega)
          have Ho3 := Lib.hid ho3
          have Hb3 := Lib.hid hb3
          have Hf4 := Lib.hid hf4
          have Hwz := Lib.hid hwz
          have Hse := Lib.hid hse
          have HL6 := Lib.hid hL6
          clear ho3 hb3 hf4 hwz hse hL6
          clear hf3
          go_wp2_with (at_builtin; refine app_hd _ (by rfl) _ _ (by rfl) w.heap.size _ L (by rfl) Ho3.out x _ (by rfl) _ rfl (by rfl) HL6.out Hwz.out ?_)
          intro v' w3 ho4 _ hf5 _ _
          have hf6 := Hf4.out.new hf5 (fun i hi hh => by have := (Ho3.out.lt i hh.symm).1; omega)
          have Ho4 := Lib.hid ho4
          have Hf6 := Lib.hid hf6
          clear ho4 hf6
          clear hf5
          go_wp2_with fail
          go_roundw
          case rel => exact ⟨k + 1, by omega, by go_num, by rw [Hsn.out, Hse.out]; exact Ho4.out, Hf6.out⟩
          case measure => simp [intOf]; omega
        · have hse : setL L x = L := by unfold setL; rw [if_neg (by rw [Hno.out]; simp), if_neg (by rw [← HnL.out]; exact h8)]
          have h8b : decide ((nL : Int) < 8) = false := decide_eq_false (by omega)
          have Ho3 := Lib.hid ho3
          have Hb3 := Lib.hid hb3
          have Hf4 := Lib.hid hf4
          have Hwz := Lib.hid hwz
          have Hse := Lib.hid hse
          clear ho3 hb3 hf4 hwz hse
          clear hf3
          go_wp2_with fail
          go_roundw
          case rel => exact ⟨k + 1, by omega, by go_num, by rw [Hsn.out, Hse.out]; exact Ho3.out, Hf4.out⟩
          case measure => simp [intOf]; omega
      · have hpn : p < nL := by rw [hnL]; exact get_lt hy
        have hyes : hasN L x.name = true := by rw [hasN_pl, e3]; exact decide_eq_true (get_lt hy)
        have hse : setL L x = L.set p x := by unfold setL; rw [if_pos hyes]; exact put_set hnd1 hy hyn
        obtain ⟨g, rfl, hgb, hgl⟩ := hog (by omega)
        have Ho := Lib.hid ho
        have Hf := Lib.hid hf
        have Hx := Lib.hid hx
        have Hsn := Lib.hid hsn
        have Hnd1 := Lib.hid hnd1
        have HL := Lib.hid hL
        have Hfa := Lib.hid fa
        have Ho2 := Lib.hid ho2
        have Hbx := Lib.hid hbx
        have Hfa := Lib.hid hfa
        have Hord := Lib.hid hord
        have HnL := Lib.hid hnL
        have Hog := Lib.hid hog
        have He1 := Lib.hid e1
        have Hyes := Lib.hid hyes
        have Hrd2 := Lib.hid hrd2
        have Hse := Lib.hid hse
        clear ho hf hx hsn hnd1 hL fa ho2 hbx hfa hord hnL hog e1 hyes hrd2 hse
        clear e3
        go_wp2_with fail
        refine (place_any _ nL oc L x.name _ Hord.out).mono ?_
        rintro e w2 ⟨rfl, hf3⟩
        rw [He1.out]
        have ho3 := Ho2.out.keep hf3
        have hb3 := Hbx.out.frm hf3 (fun h => h)
        have b0 := (hb3.cell 0).trans (show _ = some (Value.string x.name) from rfl)
        have b1 := (hb3.cell 1).trans (show _ = some (Value.string x.val) from rfl)
        have bl := hb3.lt
        have hf4 := Hfa.out.trans hf3
        obtain ⟨d0, d1⟩ := hd_cells ho3 hy
        have fz := ho3.cell? (p * 2 + 1)
        have hgl3 : g < w2.heap.size := (ho3.lt g rfl).2
        have ho4 := ho3.set (p := p) (i := 1) (x := y) (y := x) (u := .string x.val) hy (by decide) (by show hdL x = (hdL y).set 1 _; unfold hdL; rw [hyn]; rfl)
        have hf5 := hf4.setNew (p := ⟨g, p * 2 + 1, none⟩) hgb (.string x.val)
        have ho5 : Own hdE (w2.setCell ⟨g, p * 2 + 1, none⟩ (.string x.val)) w.heap.size 50 (.slice (some ⟨g, 0, none⟩) nL oc) (L.set p x) := ho4
        have Ho3 := Lib.hid ho3
        have Hb3 := Lib.hid hb3
        have Hf4 := Lib.hid hf4
        have Ho4 := Lib.hid ho4
        have Hf5 := Lib.hid hf5
        have Ho5 := Lib.hid ho5
        have Hy := Lib.hid hy
        have Hyn := Lib.hid hyn
        clear ho3 hb3 hf4 ho4 hf5 ho5 hy hyn
        clear hf3
        go_wp2_with fail
        go_roundw
        case rel => exact ⟨k + 1, by omega, by go_num, by rw [Hsn.out, Hse.out]; exact Ho5.out, Hf5.out⟩
        case measure => simp [intOf]; omega
    · obtain rfl : k = m := by omega
      rw [List.take_of_length_le (by rw [Hl2.out]; omega)] at ho
      have Ho := Lib.hid ho
      have Hf := Lib.hid hf
      clear ho hf
      go_wp2_with fail
      go_ret
      exact ⟨_, rfl, Ho.out, Hf.out⟩
end Go.Proofs.YtbeilgkogbcjjaaDoor
