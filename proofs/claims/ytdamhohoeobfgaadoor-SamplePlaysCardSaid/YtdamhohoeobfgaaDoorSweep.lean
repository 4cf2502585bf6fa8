/- slices.DeleteFunc at places. -/
import Derived.Test.YtdamhohoeobfgaaDoorPlace
import Derived.Deep.MidRow
set_option linter.unusedVariables false
set_option linter.unusedSimpArgs false
namespace Go.Proofs.YtdamhohoeobfgaaDoor
open Go.RowKit

theorem wpl_store_pl {w : World} {ops : Array Oper} {rest : List Oper} {o : Oper} {a : Act} {Q : Exit → Act → World → Prop} (hgd : o.guard = none) (x y : Operand) (ho : o.op = .store 66 x y)
    (B p : Nat) (hx : a.eval x = .pointer (some ⟨B, p, none⟩)) (cur : Array Value) (hB : Blk w B cur 66) (u v : Value) (hy : a.eval y = .agg #[u, v]) (hfit : p + 2 ≤ cur.size) (h1 : u.oneCell' = true) (h2 : v.oneCell' = true)
    (h : ∀ w', Blk w' B ((cur.setIfInBounds p u).setIfInBounds (p + 1) v) 66 → Frm (oneB B) w w' → wpList Tryd.prog ops Q rest (a.put o.dst undef) w') : wpList Tryd.prog ops Q (o :: rest) a w := by
  refine wpList_store_mid hgd 66 x y ho B p #[u, v] hx hy (fun j hj => ?_) (by kernel_rfl) (by simp [h1, h2]) ?_
  · have hj2 : j < 2 := hj
    refine ⟨?_, hB.free _⟩
    rw [hB.cell, Array.getElem?_eq_getElem (show p + j < cur.size by omega)]
    rfl
  · have e : w.setCells B p (#[u, v] : Array Value).toList = (w.setCell ⟨B, p, none⟩ u).setCell ⟨B, p + 1, none⟩ v := rfl
    rw [e]
    exact h _ ((hB.set p u).set (p + 1) v) (((Frm.refl _ _).setOne p u).setOne (p + 1) v)
theorem two_at {cur : Array Value} {p : Nat} {u v : Value} (hfit : p + 2 ≤ cur.size) (q : Nat) : ((cur.setIfInBounds p u).setIfInBounds (p + 1) v)[q]? = if q = p then some u else if q = p + 1 then some v else cur[q]? := by
  rw [Array.getElem?_setIfInBounds, Array.getElem?_setIfInBounds]
  by_cases h1 : q = p
  · subst h1
    rw [if_neg (by omega), if_pos rfl, if_pos rfl, if_pos (by omega)]
  · rw [if_neg h1]
    by_cases h2 : q = p + 1
    · subst h2
      rw [if_pos rfl, if_pos rfl, if_pos (by simp; omega)]
    · rw [if_neg (fun e => h2 e.symm), if_neg h2, if_neg (fun e => h1 e.symm)]
theorem filter_take_succ {p : Int × Nat → Bool} {l : List (Int × Nat)} {j : Nat} {x : Int × Nat} (h : l[j]? = some x) : (l.take (j + 1)).filter p = (l.take j).filter p ++ (if p x = true then [x] else []) := by
  have hlt := get_lt h
  rw [List.take_add_one, h, List.filter_append]
  congr 1
  simp only [Option.toList_some, List.filter_cons, List.filter_nil]
structure Swp (cur0 cur : Array Value) (off n j : Nat) (l : List (Int × Nat)) (kept : List (Int × Nat)) : Prop where
  size : cur.size = cur0.size
  a : ∀ (q : Nat) (u : Value), (rowOf plE kept)[q]? = some u → cur[off + q]? = some u
  b : ∀ (q : Nat) (u : Value), j * 2 ≤ q → (rowOf plE l)[q]? = some u → cur[off + q]? = some u
  le : kept.length < j
theorem Swp.skip {cur0 cur : Array Value} {off n j : Nat} {l kept : List (Int × Nat)} (h : Swp cur0 cur off n j l kept) : Swp cur0 cur off n (j + 1) l kept :=
  ⟨h.size, h.a, fun q u hq hu => h.b q u (by omega) hu, by have := h.le; omega⟩
theorem Swp.put {cur0 cur : Array Value} {off n j : Nat} {l kept : List (Int × Nat)} (h : Swp cur0 cur off n j l kept) {x : Int × Nat} (hfit : off + kept.length * 2 + 2 ≤ cur.size) :
    Swp cur0 ((cur.setIfInBounds (off + kept.length * 2) (.int .i64 x.1)).setIfInBounds (off + kept.length * 2 + 1) (.int .i64 (x.2 : Int))) off n (j + 1) l (kept ++ [x]) := by
  have hle := h.le
  have hk : (rowOf plE kept).length = kept.length * 2 := rowOf_len plE kept
  refine ⟨by rw [Array.size_setIfInBounds, Array.size_setIfInBounds]; exact h.size, fun q u hu => ?_, fun q u hq hu => ?_, by rw [List.length_append]; simp only [List.length_cons, List.length_nil]; omega⟩
  · rw [two_at hfit]
    rw [rowOf_app] at hu
    by_cases hq : q < kept.length * 2
    · rw [List.getElem?_append_left (by omega)] at hu
      rw [if_neg (by omega), if_neg (by omega)]
      exact h.a q u hu
    · rw [List.getElem?_append_right (by omega), hk] at hu
      have e : rowOf plE [x] = [.int .i64 x.1, .int .i64 (x.2 : Int)] := rfl
      rw [e] at hu
      have hl := get_lt hu
      simp only [List.length_cons, List.length_nil] at hl
      obtain ⟨m, hm⟩ : ∃ m, m = q - kept.length * 2 := ⟨_, rfl⟩
      rw [← hm] at hu hl
      have hc : m = 0 ∨ m = 1 := by omega
      rcases hc with rfl | rfl
      · rw [if_pos (by omega)]; simpa using hu
      · rw [if_neg (by omega), if_pos (by omega)]; simpa using hu
  · rw [two_at hfit, if_neg (by omega), if_neg (by omega)]
    exact h.b q u (by omega) hu

set_option maxRecDepth 100000 in
set_option maxHeartbeats 4000000 in
theorem sweep_any (cb g off n cap : Nat) (p : Int × Nat → Bool) (l : List (Int × Nat)) (cur : Array Value) (w : World) (hb : Blk w g cur 66) (hcl : ∀ (j : Nat) (u : Value), (rowOf plE l)[j]? = some u → cur[off + j]? = some u)
    (hln : l.length = n) (hnc : n ≤ cap) (hcm : cap ≤ maxLen) (hfit : off + cap * 2 ≤ cur.size)
    (hc : ∀ W x, x ∈ l → Frm (oneB g) w W → Calls Tryd.prog 31 #[.agg #[.int .i64 x.1, .int .i64 (x.2 : Int)], .pointer (some ⟨cb, 0, none⟩)] W fun e w' => e = .returned (.bool (p x)) ∧ Frm noB W w') :
    Calls Tryd.prog 30 #[.slice (some ⟨g, off, none⟩) n cap, (.func (.func 31) #[] #[.pointer (some ⟨cb, 0, none⟩)])] w
      fun e w' => ∃ v, e = .returned v ∧ App plE w' 66 v (l.filter fun x => !p x) ∧ v.ownBlock = some g ∧ Frm (oneB g) w w' := by
  have hnm : n ≤ 9223372036854775807 := by simp only [maxLen] at hcm; omega
  have hap : App plE w 66 (.slice (some ⟨g, off, none⟩) n cap) l := .inr ⟨g, off, cap, cur, by rw [hln], hb, hfit, by omega, hcm, hcl⟩
  obtain ⟨a', c', hv', _, _, hrd, _⟩ := hap.shape
  simp only [Value.slice.injEq] at hv'
  obtain ⟨rfl, hnn, rfl⟩ := hv'
  clear hnn
  rw [hln] at hrd
  have hix := idx_cl cb p _ n cap l w hrd (fun W x hx hf => hc W x hx (hf.mono (fun _ _ h => h.elim)))
  clear hrd
  cases hfi : l.findIdx? p with
  | none =>
    have hm1 : idxL p l = -1 := by unfold idxL; rw [hfi]
    have hkeep : (l.filter fun x => !p x) = l := by
      rw [List.filter_eq_self]
      intro x hx
      rw [List.findIdx?_eq_none_iff] at hfi
      rw [hfi x hx]; rfl
    rw [hm1] at hix
    rw [hkeep]
    have Hb := Lib.hid hb
    have Hcl := Lib.hid hcl
    have Hln := Lib.hid hln
    have Hcm := Lib.hid hcm
    have Hfit := Lib.hid hfit
    have Hc := Lib.hid hc
    have Hap := Lib.hid hap
    have Hix := Lib.hid hix
    have Hfi := Lib.hid hfi
    have Hm1 := Lib.hid hm1
    have Hkeep := Lib.hid hkeep
    clear hb hcl hln hcm hfit hc hap hix hfi hm1 hkeep
    go_enter Tryd.func30, Tryd.ntmps30
    go_wp2_with fail
    refine Hix.out.mono ?_
    rintro e w1 ⟨rfl, hg⟩
    have Hg := Lib.hid hg
    clear hg
    go_wp2_with fail
    go_ret
    exact ⟨_, rfl, Hap.out.keep Hg.out, rfl, Hg.out.mono (fun _ _ h => h.elim)⟩
  | some k =>
    have hm1 : idxL p l = (k : Int) := by unfold idxL; rw [hfi]
    rw [List.findIdx?_eq_some_iff_getElem] at hfi
    obtain ⟨hkl, hpk, hpb⟩ := hfi
    have hkn : k < n := by omega
    have e0 : (l.take (k + 1)).filter (fun x => !p x) = l.take k := by
      rw [filter_take_succ (List.getElem?_eq_getElem hkl)]
      have h1 : (l.take k).filter (fun x => !p x) = l.take k := by
        rw [List.filter_eq_self]
        intro x hx
        obtain ⟨j, hj, he⟩ := List.mem_iff_getElem.1 hx
        rw [List.length_take] at hj
        have := hpb j (by omega)
        rw [List.getElem_take] at he
        rw [he] at this
        simpa using this
      rw [h1, hpk]; simp
    have hst : Swp cur cur off n (k + 1) l ((l.take (k + 1)).filter fun x => !p x) := by
      rw [e0]
      refine ⟨rfl, fun q u hu => ?_, fun q u _ hu => hcl q u hu, by rw [List.length_take]; omega⟩
      refine hcl q u ?_
      have e : rowOf plE l = rowOf plE (l.take k) ++ rowOf plE (l.drop k) := by rw [← rowOf_app, List.take_append_drop]
      rw [e, List.getElem?_append_left (get_lt hu)]
      exact hu
    have hk0 : ((l.take (k + 1)).filter fun x => !p x).length = k := by rw [e0, List.length_take]; omega
    rw [hm1] at hix
    have Hb := Lib.hid hb
    have Hcl := Lib.hid hcl
    have Hln := Lib.hid hln
    have Hcm := Lib.hid hcm
    have Hfit := Lib.hid hfit
    have Hc := Lib.hid hc
    have Hap := Lib.hid hap
    have Hix := Lib.hid hix
    have Hm1 := Lib.hid hm1
    have Hpk := Lib.hid hpk
    have Hpb := Lib.hid hpb
    have He0 := Lib.hid e0
    have Hst := Lib.hid hst
    have Hk0 := Lib.hid hk0
    clear hb hcl hln hcm hfit hc hap hix hm1 hpk hpb e0 hst hk0
    have hneg : ((k : Int) == -1) = false := beq_eq_false_iff_ne.2 (by omega)
    go_enter Tryd.func30, Tryd.ntmps30
    go_wp2_with fail
    refine Hix.out.mono ?_
    rintro e w1 ⟨rfl, hg⟩
    have Hg := Lib.hid hg
    clear hg
    go_wp2_with fail
    go_loopw [5, 6] (fun si sj wr => ∃ i j cur', j ≤ n ∧ i < j ∧ si = .int .i64 (i : Nat) ∧ sj = .int .i64 (j : Nat) ∧ Hid (i = ((l.take j).filter fun x => !p x).length) ∧ Hid (Blk wr g cur' 66) ∧ Hid (Swp cur cur' off n j l ((l.take j).filter fun x => !p x)) ∧ Hid (Frm (oneB g) w wr)) (fun _ sj _ => n - (intOf sj).toNat)
    case atStart => exact ⟨k, k + 1, cur, by omega, by omega, rfl, by go_num, Lib.hid Hk0.out.symm, Lib.hid (Hb.out.frm Hg.out (fun h => h)), Hst, Lib.hid (Hg.out.mono (fun _ _ h => h.elim))⟩
    case round =>
      obtain ⟨i, j, cur', hj, hij, rfl, rfl, hi, hbl, hsw, hf⟩ := hrel
      have hiz : (0 : Int) ≤ (i : Int) := by omega
      have hil : (i : Int) < (n : Int) := by omega
      have hcs := hsw.out.size
      by_cases hlt : j < n
      · obtain ⟨x, hx⟩ := get_of_lt (l := l) (j := j) (by rw [Hln.out]; exact hlt)
        have hltz : (j : Int) < (n : Int) := by omega
        have d0 := (hbl.out.cell (off + j * 2)).trans (hsw.out.b (j * 2) (.int .i64 x.1) (Nat.le_refl _) ((rowOf_get plE l j 0 x hx (show 0 < 2 by omega)).trans rfl))
        have d1 := (hbl.out.cell (off + j * 2 + 1)).trans (hsw.out.b (j * 2 + 1) (.int .i64 (x.2 : Int)) (by omega) ((rowOf_get plE l j 1 x hx (show 1 < 2 by omega)).trans rfl))
        have hgl := hbl.out.lt
        have hfs := filter_take_succ (p := fun x => !p x) hx
        obtain ⟨x1, x2⟩ := x
        dsimp only at d0 d1
        have Hx := Lib.hid hx
        have hmem : i < cap := by omega
        have hfi2 : off + i * 2 + 2 ≤ cur'.size := by have := Hfit.out; omega
        have hcell := fun W hW => Hc.out W (x1, x2) (List.mem_of_getElem? hx) hW
        have Hcell := Lib.hid hcell
        have Hfs := Lib.hid hfs
        clear hcell hfs
        have Hhfi2 := Lib.hid hfi2
        clear hfi2
        clear hx
        go_wp2_with (refine wpl_store_new _ (by rfl) 66 _ _ (by rfl) _ (by rfl) (by rfl) _ _ _ (by rfl) (by kernel_rfl) (by rfl) (by rfl) ?_)
        have HBN := Lib.hid (Blk.made wr #[.int .i64 x1, .int .i64 (x2 : Int)] 66)
        have HA := Lib.hid ((Frm.refl noB wr).alloc (.cells #[.int .i64 x1, .int .i64 (x2 : Int)] 66))
        have hgW := Lib.hid (hf.out.trans ((Frm.refl (oneB g) wr).alloc (.cells #[.int .i64 x1, .int .i64 (x2 : Int)] 66)))
        clear d0 d1
        generalize hWW : wr.alloc (.cells #[.int .i64 x1, .int .i64 (x2 : Int)] 66) = W at *
        obtain ⟨bn, hbn⟩ : ∃ q, q = wr.heap.size := ⟨_, rfl⟩
        rw [← hbn] at HBN ⊢
        have hne : g ≠ bn := by omega
        have HWW := Lib.hid hWW
        have Hbn := Lib.hid hbn
        clear hWW hbn
        refine (Hcell.out _ hgW.out).mono ?_
        rintro e w2 ⟨rfl, hg2⟩
        have HBN2 := Lib.hid (HBN.out.frm hg2 (fun h => h))
        have HBL2 := Lib.hid ((hbl.out.frm HA.out (fun h => h)).frm hg2 (fun h => h))
        have HF2 := Lib.hid (hgW.out.trans (hg2.mono (fun _ _ h => h.elim)))
        clear hg2
        have d0 := (HBN2.out.cell 0).trans (show _ = some (Value.int .i64 x1) from rfl)
        have d1 := (HBN2.out.cell 1).trans (show _ = some (Value.int .i64 (x2 : Int)) from rfl)
        have hl2 := HBN2.out.lt
        cases hpx : p (x1, x2) with
        | true =>
          have e2 := Hfs.out
          rw [hpx] at e2
          simp only [Bool.not_true, Bool.false_eq_true, if_false, List.append_nil] at e2
          have Hpx := Lib.hid hpx
          have He2 := Lib.hid e2
          clear hpx e2
          go_wp2_with fail
          go_roundw
          case rel => exact ⟨i, j + 1, cur', by omega, by omega, rfl, by go_num, Lib.hid (by rw [He2.out]; exact hi.out), HBL2, Lib.hid (by rw [He2.out]; exact hsw.out.skip), HF2⟩
          case measure => simp [intOf]; omega
        | false =>
          have e2 := Hfs.out
          rw [hpx] at e2
          simp only [Bool.not_false, if_true] at e2
          have hput := hsw.out.put (x := (x1, x2)) (by rw [← hi.out]; exact Hhfi2.out)
          rw [← hi.out] at hput
          have bS := HBL2.out
          have Hpx := Lib.hid hpx
          have He2 := Lib.hid e2
          have Hput := Lib.hid hput
          clear hpx e2 hput
          go_wp2_with (refine wpl_store_pl (by rfl) _ _ (by rfl) _ _ (by rfl) _ (by exact bS) _ _ (by rfl) (by exact Hhfi2.out) (by rfl) (by rfl) ?_; intro w3 hb3 hf3; have HB3 := Lib.hid hb3; have HF3 := Lib.hid hf3; clear hb3 hf3 bS)
          go_roundw
          case rel => exact ⟨i + 1, j + 1, _, by omega, by omega, by go_num, by go_num, Lib.hid (by rw [He2.out, List.length_append, ← hi.out]; rfl), HB3, Lib.hid (by rw [He2.out]; exact Hput.out), Lib.hid (HF2.out.trans HF3.out)⟩
          case measure => simp [intOf]; omega
      · have hltz : ¬ (j : Int) < (n : Int) := by omega
        have ejn : j = n := by omega
        subst ejn
        have htk : l.take j = l := List.take_of_length_le (by rw [Hln.out]; exact Nat.le_refl _)
        rw [htk] at hi hsw
        have hic : i ≤ cap := by omega
        have hne : ¬ i = cap := by omega
        obtain ⟨w4, cur4, hrun, hb4, hs4, ha4, hf4⟩ := run_clear (P := Tryd.prog) wr 61 0 66 (.agg #[.int .i64 0, .int .i64 0]) Tryd.underlying61 (fun w => by kernel_rfl) g (off + i * 2) (j - i) (cap - i) cur' hbl.out 2 (by rfl) (by
          intro u hu; simp [Value.cells] at hu; subst hu; rfl) (by rw [hcs]; have := Hfit.out; omega)
        have hicz : (i : Int) ≤ (cap : Int) := by omega
        have hijz : (i : Int) ≤ (j : Int) := by omega
        have Hb4 := Lib.hid hb4
        have Hs4 := Lib.hid hs4
        have Ha4 := Lib.hid ha4
        have Hf4 := Lib.hid hf4
        clear hb4 hs4 ha4 hf4
        go_wp2_with fail
        go_ret
        refine ⟨_, rfl, .inr ⟨g, off, cap, cur4, ?_, Hb4.out, by rw [Hs4.out, hcs]; exact Hfit.out, ?_, Hcm.out, fun q u hu => ?_⟩, rfl, hf.out.trans Hf4.out⟩
        · rw [← hi.out]; rfl
        · rw [← hi.out]; exact hic
        · have hl := get_lt hu
          rw [rowOf_len] at hl
          rw [Ha4.out (off + q) (by rw [← hi.out] at hl; have : q < i * 2 := hl; omega)]
          exact hsw.out.a q u hu
end Go.Proofs.YtdamhohoeobfgaaDoor
