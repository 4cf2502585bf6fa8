/- The walk of the statement TraceForest. -/
import Derived.Test.YtnmcdecdgcnmbaaTwoLogs
import Derived.Outline
set_option linter.unusedVariables false
namespace Go.Proofs.Ytnmcdecdgcnmbaa
open Go.RowKit

theorem cells6 {S : Nat → Prop} {w w' : World} {g o0 o1 o2 o3 o4 o5 : Nat} {v0 v1 v2 v3 v4 v5 : Value} (h : w.cell? ⟨g, o0, none⟩ = some v0 ∧ w.cell? ⟨g, o1, none⟩ = some v1 ∧ w.cell? ⟨g, o2, none⟩ = some v2 ∧ w.cell? ⟨g, o3, none⟩ = some v3 ∧ w.cell? ⟨g, o4, none⟩ = some v4 ∧ w.cell? ⟨g, o5, none⟩ = some v5)
    (f : Frm S w w') (hg : ¬ S g) : w'.cell? ⟨g, o0, none⟩ = some v0 ∧ w'.cell? ⟨g, o1, none⟩ = some v1 ∧ w'.cell? ⟨g, o2, none⟩ = some v2 ∧ w'.cell? ⟨g, o3, none⟩ = some v3 ∧ w'.cell? ⟨g, o4, none⟩ = some v4 ∧ w'.cell? ⟨g, o5, none⟩ = some v5 :=
  ⟨cell_frm f hg h.1, cell_frm f hg h.2.1, cell_frm f hg h.2.2.1, cell_frm f hg h.2.2.2.1, cell_frm f hg h.2.2.2.2.1, cell_frm f hg h.2.2.2.2.2⟩
theorem TreeOk.okAll {T : List Spn} (h : TreeOk T) (r : Int) : forestB (ownL T r) = true := (h.own r).forest
def leafB (T : List Spn) (x : Spn) (j : Nat) : Bool := !((T.take j).any fun y => befL (nm x) (nm y))
theorem leafB_next {T : List Spn} (x : Spn) {j : Nat} {y : Spn} (h : T[j]? = some y) : leafB T x (j + 1) = (leafB T x j && !befL (nm x) (nm y)) := by
  unfold leafB
  rw [List.take_add_one, h, List.any_append]
  simp
theorem erase_at (T : List Spn) (q : Nat) : (T.take (q + 1)).eraseIdx q = (T.take q).eraseIdx q := by
  rw [List.eraseIdx_of_length_le (l := T.take q) (by rw [List.length_take]; omega)]
  rcases Nat.lt_or_ge q T.length with h | h
  · have hl : (T.take q).length = q := by rw [List.length_take]; omega
    rw [List.take_succ_eq_append_getElem h, List.eraseIdx_append_of_length_le (by omega), hl]
    simp
  · rw [List.take_of_length_le h, List.take_of_length_le (by omega), List.eraseIdx_of_length_le h]
theorem erase_other {T : List Spn} {j q : Nat} {y : Spn} (h : T[j]? = some y) (hne : j ≠ q) : (T.take (j + 1)).eraseIdx q = (T.take j).eraseIdx q ++ [y] := by
  have hl : (T.take j).length = j := by have := get_lt h; rw [List.length_take]; omega
  rw [List.take_add_one, h]
  simp only [Option.toList]
  rcases Nat.lt_or_ge q j with hq | hq
  · rw [List.eraseIdx_append_of_lt_length (by omega)]
  · rw [List.eraseIdx_append_of_length_le (by omega), hl, List.eraseIdx_of_length_le (by simp; omega), List.eraseIdx_of_length_le (by omega)]
set_option maxRecDepth 100000 in
set_option maxHeartbeats 4000000 in
theorem traceForest_walk (a0 : Option Addr) (len0 cap0 : Nat) (z0 : List Int) (a1 : Int) (w : World) (w0 : IsRow .i64 w a0 len0 cap0 z0) (w1 : (Lit.int .i64 a1).wf = true) :
    Calls Try.prog 5 #[.slice a0 len0 cap0, .int .i64 a1] w fun e w' => e = .returned (.bool true) ∧ Below w.heap.size w w' := by
  have h0 := w0.ints
  have ba1 := wf_i64 w1
  have hfa : Frm noB w (w.alloc (.cells (logCells none none) 29)) := (Frm.refl _ _).alloc _
  have h0' := h0.frm hfa (fun _ _ h => h)
  have hb1 := Blk.made w (logCells none none) 29
  have hz2 : (w.alloc (.cells (logCells none none) 29)).heap.size = w.heap.size + 1 := by simp
  simp only [logCells] at hfa h0' hz2
  have H0 := Lib.hid h0
  have H0' := Lib.hid h0'
  have Hfa := Lib.hid hfa
  have Hb1 := Lib.hid hb1
  have Hz2 := Lib.hid hz2
  have Hba1 := Lib.hid ba1
  clear h0 h0' hfa hb1 hz2 ba1
  clear w0 w1
  go_enter Try.func5, Try.ntmps5
  go_wp2_with fail
  with_reducible refine (tree_any a0 len0 cap0 _ H0'.out).mono ?_
  rintro e w1 ⟨tv, T, rfl, hown, hok, hT16, hTs, hf1⟩
  have hstart : One w w1 w.heap.size [] (oneB w.heap.size) tv T := by
    have e1 := Hb1.out.frm hf1 (fun h => h)
    have hz := Hz2.out
    have l1 := e1.lt
    refine ⟨.inl ⟨rfl, e1, rfl, fun k hk => by simp only [oneB] at hk; subst hk; exact l1⟩, hown.base (by omega), ?_, fun j hj => by simp only [oneB] at hj; omega, Hfa.out.trans hf1⟩
    intro j hj
    have := (hown.lt j hj).1
    simp only [oneB]
    omega
  obtain ⟨a, c, rfl, hl, hg⟩ := hstart.row.shape
  obtain ⟨n, hn⟩ : ∃ n, n = T.length := ⟨_, rfl⟩
  rw [← hn] at hT16 hl hg hstart ⊢
  have Hstart := Lib.hid hstart
  have Hown := Lib.hid hown
  have Hok := Lib.hid hok
  have HTs := Lib.hid hTs
  have Hf1 := Lib.hid hf1
  have Hn := Lib.hid hn
  have Hg := Lib.hid hg
  clear hstart hown hok hTs hf1 hn hg
  go_wp2_with fail
  go_loopw [4, 7] (fun q i wr => ∃ (k : Nat) (O : Nat → Prop), k ≤ n ∧ q = .bool false ∧ i = .int .i64 k ∧ One w wr w.heap.size (T.take k) O (.slice a n c) T) (fun _ i _ => n - (intOf i).toNat)
  case atStart => exact ⟨0, _, by omega, rfl, rfl, Hstart.out⟩
  case round =>
    obtain ⟨k, O, hk, rfl, rfl, ht⟩ := hrel
    by_cases hlt : k < n
    · obtain ⟨x, hx⟩ := get_of_lt (l := T) (j := k) (by rw [← Hn.out]; exact hlt)
      have hxT := List.mem_of_getElem? hx
      have hxs : x.name.size ≤ 1000000 := by rw [nm_size]; exact Nat.le_trans (HTs.out x hxT) (by omega)
      obtain ⟨g, rfl, _, _⟩ := Hg.out (by omega)
      obtain ⟨c0, c1, c2, c3, c4, c5⟩ := spn_cells ht.row hx
      have hgl : g < wr.heap.size := World.block_lt_of_cell? wr ⟨g, k * 6, none⟩ c0
      have hgood := Hok.out.at hx
      obtain ⟨en, el⟩ := hgood.note
      have hlen : (T.take k).length ≤ 100000 := by rw [List.length_take]; omega
      have hst : T.take (k + 1) = T.take k ++ [x] := by rw [List.take_add_one, hx]; rfl
      have hTk := Hok.out.take (k + 1)
      have hlen1 : (T.take (k + 1)).length ≤ 1000 := by rw [List.length_take]; omega
      have hol := fun r => Nat.le_trans (ownL_len (T.take (k + 1)) r) hlen1
      have hsm : ∀ r, ∀ s ∈ ownL (T.take (k + 1)) r, s.name.size ≤ 1000000 := fun r s hs => by rw [nm_size]; exact Nat.le_trans (HTs.out s (List.mem_of_mem_take (List.mem_filter.1 hs).1)) (by omega)
      have hfo1 := hTk.okAll 1
      have hfo2 := hTk.okAll 2
      have Ht := Lib.hid ht
      have Hx := Lib.hid hx
      have HxT := Lib.hid hxT
      have Hgood := Lib.hid hgood
      have Hen := Lib.hid en
      have Hel := Lib.hid el
      have Hst := Lib.hid hst
      have Hlen := Lib.hid hlen
      have Hlen1 := Lib.hid hlen1
      have HTk := Lib.hid hTk
      have Hol := Lib.hid hol
      have Hsm := Lib.hid hsm
      have Hfo1 := Lib.hid hfo1
      have Hfo2 := Lib.hid hfo2
      clear ht hx hxT hgood en el hst hlen hlen1 hTk hol hsm hfo1 hfo2
      go_wp2_with fail
      refine (note_any w.heap.size x (T.take k) O _ Ht.out.l Hlen.out hxs).mono ?_
      rintro e w2 ⟨O', rfl, hl1, hf2, hO1⟩
      have ht2 := Ht.out.note hl1 hf2 hO1
      rw [Hel.out, ← Hst.out] at ht2
      rw [Hen.out]
      clear c0 c1 c2 c3 c4 c5 hl1 hf2 hO1
      have Ht2 := Lib.hid ht2
      clear ht2
      go_wp2_with fail
      refine (spans_any w.heap.size (T.take (k + 1)) O' 1 _ Ht2.out.l Hlen1.out (WalkArith.wf_i64 (by omega))).mono ?_
      rintro e x1 ⟨v1, rfl, ho1, hg1⟩
      have ht3 := Ht2.out.keep hg1
      obtain ⟨p1, q1, rfl, hrd1⟩ := ho1.rd
      have hon := Hol.out 1
      have Hg1 := Lib.hid hg1
      have Ht3 := Lib.hid ht3
      have Hrd1 := Lib.hid hrd1
      have Hon := Lib.hid hon
      clear hg1 ht3 hrd1 hon
      clear ho1
      go_wp2_with fail
      refine (forest_any p1 _ q1 _ _ Hrd1.out Hon.out (Hsm.out 1)).mono ?_
      rintro e x2 ⟨rfl, hg2⟩
      rw [Hfo1.out]
      have ht4 := Ht3.out.keep hg2
      have Hg2 := Lib.hid hg2
      have Ht4 := Lib.hid ht4
      clear hg2 ht4
      go_wp2_with fail
      refine (spans_any w.heap.size (T.take (k + 1)) O' 2 _ Ht4.out.l Hlen1.out (WalkArith.wf_i64 (by omega))).mono ?_
      rintro e x3 ⟨v3, rfl, ho3, hg3⟩
      have ht5 := Ht4.out.keep hg3
      obtain ⟨p3, q3, rfl, hrd3⟩ := ho3.rd
      have hon2 := Hol.out 2
      have Hg3 := Lib.hid hg3
      have Ht5 := Lib.hid ht5
      have Hrd3 := Lib.hid hrd3
      have Hon2 := Lib.hid hon2
      clear hg3 ht5 hrd3 hon2
      clear ho3
      go_wp2_with fail
      refine (forest_any p3 _ q3 _ _ Hrd3.out Hon2.out (Hsm.out 2)).mono ?_
      rintro e x4 ⟨rfl, hg4⟩
      rw [Hfo2.out]
      have ht6 := Ht5.out.keep hg4
      have Hg4 := Lib.hid hg4
      have Ht6 := Lib.hid ht6
      clear hg4 ht6
      go_wp2_with fail
      go_roundw
      case rel => exact ⟨k + 1, O', by omega, rfl, by go_num, Ht6.out⟩
      case measure => simp [intOf]; omega
    · obtain rfl : k = n := by omega
      rw [List.take_of_length_le (by rw [← Hn.out]; exact Nat.le_refl _)] at ht
      have hrd := ht.row.rdS
      have hT1000 : T.length ≤ 1000 := by rw [← Hn.out]; omega
      have hsm : ∀ s ∈ T, s.name.size ≤ 1000000 := fun s hs => by rw [nm_size]; exact Nat.le_trans (HTs.out s hs) (by omega)
      have hfo := Hok.out.forest
      have Ht := Lib.hid ht
      have Hrd := Lib.hid hrd
      have HT1000 := Lib.hid hT1000
      have Hsm := Lib.hid hsm
      have Hfo := Lib.hid hfo
      clear ht hrd hT1000 hsm hfo
      have hk1000 : k ≤ 1000 := by omega
      go_wp2_with fail
      refine (forest_any a k c T _ Hrd.out hk1000 Hsm.out).mono ?_
      rintro e x1 ⟨rfl, hg1⟩
      rw [Hfo.out]
      have ht1 := Ht.out.keep hg1
      have Hg1 := Lib.hid hg1
      have Ht1 := Lib.hid ht1
      clear hg1 ht1
      go_wp2_with fail
      refine (spans_any w.heap.size T O 1 _ Ht1.out.l HT1000.out (WalkArith.wf_i64 (by omega))).mono ?_
      rintro e x2 ⟨v2, rfl, ho2, hg2⟩
      have ht2 := Ht1.out.keep hg2
      obtain ⟨p2, q2, rfl, _⟩ := ho2.rd
      have hl1 : (ownL T 1).length ≤ 1000 := Nat.le_trans (ownL_len T 1) HT1000.out
      have Hg2 := Lib.hid hg2
      have Ht2 := Lib.hid ht2
      clear hg2 ht2
      clear ho2
      go_wp2_with fail
      refine (spans_any w.heap.size T O 2 _ Ht2.out.l HT1000.out (WalkArith.wf_i64 (by omega))).mono ?_
      rintro e x3 ⟨v3, rfl, ho3, hg3⟩
      have ht3 := Ht2.out.keep hg3
      obtain ⟨p3, q3, rfl, _⟩ := ho3.rd
      have hl2 : (ownL T 2).length ≤ 1000 := Nat.le_trans (ownL_len T 2) HT1000.out
      have hcount : (ownL T 1).length + (ownL T 2).length = k := by rw [Hn.out]; exact Hok.out.count
      generalize (ownL T 1).length = y1 at *
      generalize (ownL T 2).length = y2 at *
      have Hg3 := Lib.hid hg3
      have Ht3 := Lib.hid ht3
      clear hg3 ht3
      clear ho3
      have hne : ((y1 : Int) + (y2 : Int) != (k : Int)) = false := by simp; omega
      by_cases hk0 : k = 0
      · subst hk0
        obtain rfl : y1 = 0 := by omega
        obtain rfl : y2 = 0 := by omega
        clear hne hcount
        go_wp2_with fail
        refine (lives_any _).mono ?_
        rintro e x4 ⟨rfl, hg4⟩
        have hf9 := (Ht3.out.keep hg4).frm
        have Hf9 := Lib.hid hf9
        clear hf9
        clear hg4
        go_wp2_with fail
        go_ret
        exact ⟨rfl, Hf9.out.below (Nat.le_refl _) (fun _ _ h => h)⟩
      · have hk1 : ((k : Int) == 0) = false := by simp; omega
        have Hcount := Lib.hid hcount
        clear hcount
        go_wp2_with fail
        refine (around_any a1 k _ Hba1.out.1 Hba1.out.2 (by omega) (by omega)).mono ?_
        rintro e w' ⟨rfl, rfl⟩
        have hq := around_lt a1 k (by omega)
        generalize around a1 k = q at *
        have hqk : q < k := by omega
        clear hq hne hk1
        obtain ⟨x, hx⟩ := get_of_lt (l := T) (j := q) (by rw [← Hn.out]; exact hqk)
        have Hx := Lib.hid hx
        clear hx
        go_wp2_with fail
        have hrow3 := Ht3.out.row
        have hr3 := fun j hj => (hrow3.lt j hj).2
        have Hrow3 := Lib.hid hrow3
        have Hr3 := Lib.hid hr3
        clear hrow3 hr3
        go_loopw [9, 10, 11] (fun lf lb i wr => ∃ j : Nat, j ≤ k ∧ i = .int .i64 j ∧ lb = .bool (leafB T x j) ∧ Own spnE wr x3.heap.size 35 lf ((T.take j).eraseIdx q) ∧ Frm noB x3 wr) (fun _ _ i _ => k - (intOf i).toNat)
        case atStart => exact ⟨0, by omega, rfl, rfl, Own.nil _ _ _ _, Frm.refl _ _⟩
        case round =>
          obtain ⟨j, hj, rfl, rfl, hlf, hf⟩ := hrel
          by_cases hlt : j < k
          · obtain ⟨y, hy⟩ := get_of_lt (l := T) (j := j) (by rw [← Hn.out]; exact hlt)
            have hyT := List.mem_of_getElem? hy
            have hys := Hsm.out y hyT
            have hxT := List.mem_of_getElem? Hx.out
            have hxs := Hsm.out x hxT
            obtain ⟨g, rfl, _, hgl3⟩ := Hg.out (by omega)
            have hrow := Hrow3.out.keep hf
            have hrz := hf.size
            have hlfl : ((T.take j).eraseIdx q).length ≤ 1000000 := Nat.le_trans (List.eraseIdx_sublist _ _).length_le (by rw [List.length_take]; omega)
            obtain ⟨lb, hlb⟩ : ∃ lb, lb = leafB T x j := ⟨_, rfl⟩
            rw [← hlb]
            have hnext := leafB_next x hy
            rw [← hlb] at hnext
            obtain ⟨c0, c1, c2, c3, c4, c5⟩ := spn_cells hrow hy
            have hgl : g < wr.heap.size := World.block_lt_of_cell? wr ⟨g, j * 6, none⟩ c0
            have hxs' : y.name.size ≤ 1000000 := hys
            have Hlf := Lib.hid hlf
            have Hf := Lib.hid hf
            have Hy := Lib.hid hy
            have HyT := Lib.hid hyT
            have Hys := Lib.hid hys
            have HxT := Lib.hid hxT
            have Hxs := Lib.hid hxs
            have Hrow := Lib.hid hrow
            have Hrz := Lib.hid hrz
            have Hlfl := Lib.hid hlfl
            have Hnext := Lib.hid hnext
            have Hlb := Lib.hid hlb
            have Hxs' := Lib.hid hxs'
            clear hlf hf hy hyT hys hxT hxs hrow hrz hlfl hnext hlb hxs'
            go_upto_if 65 with fail
            go_cut [9] (fun lf wx => Own spnE wx x3.heap.size 35 lf ((T.take (j + 1)).eraseIdx q) ∧ Frm noB x3 wx)
            case first =>
              by_cases hjq : j = q
              · have hne : ((j : Int) != (q : Int)) = false := by simp; omega
                have her : (T.take (j + 1)).eraseIdx q = (T.take j).eraseIdx q := by rw [hjq]; exact erase_at T q
                have Her := Lib.hid her
                have Hjq := Lib.hid hjq
                clear her hjq
                go_wp2_with fail
                go_meet
                exact ⟨by rw [Her.out]; exact Hlf.out, Hf.out⟩
              · have hne : ((j : Int) != (q : Int)) = true := by simp; omega
                have her : (T.take (j + 1)).eraseIdx q = (T.take j).eraseIdx q ++ [y] := erase_other Hy.out hjq
                have Her := Lib.hid her
                have Hjq := Lib.hid hjq
                clear her hjq
                go_wp2_with (at_builtin; refine app_spn _ (by rfl) _ _ (by rfl) x3.heap.size _ ((T.take j).eraseIdx q) (by rfl) Hlf.out y _ (by rfl) _ rfl (by rfl) Hlfl.out Hrz.out ?_)
                intro v' x4 ho _ hf4 hat _
                have hf5 := Hf.out.new hf4 (fun i hi hh => by have := (Hlf.out.lt i hh.symm).1; omega)
                have Ho := Lib.hid ho
                have Hf5 := Lib.hid hf5
                clear ho hf5
                clear hf4 hat
                go_wp2_with fail
                go_meet
                exact ⟨by rw [Her.out]; exact Ho.out, Hf5.out⟩
            case rest =>
              obtain ⟨hlf2, hf2⟩ := hcut
              have hrow2 := Hrow3.out.keep hf2
              obtain ⟨d0, d1, d2, d3, d4, d5⟩ := spn_cells hrow2 Hy.out
              obtain ⟨b0, b1, b2, b3, b4, b5⟩ := spn_cells hrow2 Hx.out
              have hgc := World.block_lt_of_cell? wc ⟨g, j * 6, none⟩ d0
              clear c0 c1 c2 c3 c4 c5 d1 d2 d3 d4 d5 b1 b2 b3 b4 b5
              have Hlf2 := Lib.hid hlf2
              have Hf2 := Lib.hid hf2
              have Hrow2 := Lib.hid hrow2
              clear hlf2 hf2 hrow2
              go_upto_region 20 with fail
              cases lb
              case false =>
                go_quiet (fail)
                have hlf3 := fun nn => Hlf2.out.keep ((Frm.refl noB wc).drewN nn)
                have hf4 := fun nn => Hf2.out.trans ((Frm.refl noB wc).drewN nn)
                have hlb3 : false = leafB T x (j + 1) := by rw [Hnext.out]; rfl
                have Hlf3 := Lib.hid hlf3
                have Hf4 := Lib.hid hf4
                have Hlb3 := Lib.hid hlb3
                clear hlf3 hf4 hlb3
                go_wp2_with fail
                go_roundw
                case rel => exact ⟨j + 1, by omega, by go_num, by rw [← Hlb3.out], Hlf3.out _, Hf4.out _⟩
                case measure => simp [intOf]; omega
              case true =>
                have fr0 := Frm.drew (Frm.refl noB wc)
                have g0 := cell_frm fr0 (fun h => h) d0
                have g1 := cell_frm fr0 (fun h => h) b0
                have hi1 : (0 : Int) ≤ (j : Int) := by omega
                have hi2 : (j : Int) < (k : Int) := by omega
                have hi3 : (0 : Int) ≤ (q : Int) := by omega
                have hi4 : (q : Int) < (k : Int) := by omega
                have Hfr0 := Lib.hid fr0
                clear fr0
                go_region_held3 (fun W => W.cell? ⟨g, q * 6, none⟩ = some (.string x.name) ∧ W.cell? ⟨g, j * 6, none⟩ = some (.string y.name)) (first | exact ⟨g1, g0⟩ | exact ⟨r1, r0⟩)
                  (first | (go_at_call 22; (with_reducible refine (before_any x.name y.name _ Hxs'.out).mono ?_); rintro e y1 ⟨rfl, hy1⟩; have r0 := cell_frm hy1 (fun h => h) g0; have r1 := cell_frm hy1 (fun h => h) g1; have Hy1 := Lib.hid hy1; clear hy1))
                have hf3 := Hfr0.out.trans Hy1.out
                generalize hbf : befL x.name.data.toList y.name.data.toList = bf at *
                have hbf' : befL (nm x) (nm y) = bf := hbf
                rw [hbf'] at Hnext
                clear hbf hbf'
                have hlf3 := Hlf2.out.keep hf3
                have hf4 := Hf2.out.trans hf3
                have hlb3 : (!bf) = leafB T x (j + 1) := by rw [Hnext.out]; rfl
                have Hlf3 := Lib.hid hlf3
                have Hf4 := Lib.hid hf4
                have Hlb3 := Lib.hid hlb3
                clear hlf3 hf4 hlb3
                clear hf3
                go_wp2_with fail
                go_roundw
                case rel => exact ⟨j + 1, by omega, by go_num, by rw [← Hlb3.out], Hlf3.out, Hf4.out⟩
                case measure => simp [intOf]; omega
          · obtain rfl : j = k := by omega
            rw [List.take_of_length_le (by rw [← Hn.out]; exact Nat.le_refl _)] at hlf
            have hleaf : forestB (T.eraseIdx q) = leafB T x j := by
              rw [Hok.out.leaf Hx.out]; unfold leafB; rw [List.take_of_length_le (by rw [← Hn.out]; exact Nat.le_refl _)]
            have hLs : ∀ s ∈ T.eraseIdx q, s.name.size ≤ 1000000 := fun s hs => Hsm.out s (List.mem_of_mem_eraseIdx hs)
            have hLl : (T.eraseIdx q).length ≤ 900 := Nat.le_trans (List.eraseIdx_sublist _ _).length_le (by rw [← Hn.out]; omega)
            have hxT := List.mem_of_getElem? Hx.out
            have hxs := Hsm.out x hxT
            obtain ⟨lb, hlb⟩ : ∃ lb, lb = leafB T x j := ⟨_, rfl⟩
            rw [← hlb] at hleaf ⊢
            have htw := twice_no (T.eraseIdx q) x
            have hLs2 : ∀ s ∈ T.eraseIdx q ++ [x, x], s.name.size ≤ 1000000 := fun s hs => by
              rcases List.mem_append.1 hs with h | h
              · exact hLs s h
              · simp at h; subst h; exact hxs
            generalize T.eraseIdx q = L at *
            obtain ⟨la, lc, rfl, _, _⟩ := hlf.shape
            have hrdl := hlf.rdS
            obtain ⟨ll, hll⟩ : ∃ ll, ll = L.length := ⟨_, rfl⟩
            rw [← hll] at hrdl hlf ⊢
            have hll900 : ll ≤ 900 := by omega
            have hl2 : (L ++ [x, x]).length ≤ 1000 := by rw [List.length_append]; simp; omega
            have hsm6 : L.length ≤ 1000000 := by omega
            obtain ⟨n2, hn2⟩ : ∃ n2, n2 = (L ++ [x, x]).length := ⟨_, rfl⟩
            rw [← hn2] at hl2
            have Hn2 := Lib.hid hn2
            clear hn2
            obtain ⟨g, rfl, _, hgl3⟩ := Hg.out (by omega)
            have hrow := Hrow3.out.keep hf
            have hzf := hf.size
            have hgn : ¬ some g = (Value.slice la ll lc).ownBlock := fun e => by
              have h1 := (hlf.lt g e.symm).1
              have h2 := Hr3.out g rfl
              omega
            have fr0 := Frm.drew (Frm.refl noB wr)
            have cx := spn_cells (hrow.keep fr0) Hx.out
            have hgl : g < wr.heap.size := (hrow.lt g rfl).2
            have hlf0 := hlf.keep fr0
            have hrd0 := hrdl.keep fr0
            have hzz : x3.heap.size ≤ wr.drew.heap.size := hzf
            have hi1 : (0 : Int) ≤ (q : Int) := by omega
            have hi2 : (q : Int) < (j : Int) := by omega
            have hff := hf.trans fr0
            have Hlf := Lib.hid hlf
            have Hf := Lib.hid hf
            have Hrow := Lib.hid hrow
            have Hleaf := Lib.hid hleaf
            have HLs := Lib.hid hLs
            have HLl := Lib.hid hLl
            have HxT := Lib.hid hxT
            have Hxs := Lib.hid hxs
            have Htw := Lib.hid htw
            have HLs2 := Lib.hid hLs2
            have Hrdl := Lib.hid hrdl
            have Hl2 := Lib.hid hl2
            have Hsm6 := Lib.hid hsm6
            have Hlb := Lib.hid hlb
            have Hll := Lib.hid hll
            have Hlf0 := Lib.hid hlf0
            have Hrd0 := Lib.hid hrd0
            have Hff := Lib.hid hff
            clear hlf hf hrow hleaf hLs hLl hxT hxs htw hLs2 hrdl hl2 hsm6 hlb hll hlf0 hrd0 hff
            clear fr0
            go_upto_region 21 with fail
            go_region_held3 (fun W => W.cell? ⟨g, q * 6, none⟩ = some (.string x.name) ∧ W.cell? ⟨g, q * 6 + 1, none⟩ = some (.int .i64 x.serv) ∧ W.cell? ⟨g, q * 6 + 2, none⟩ = some (.int .i64 x.frm) ∧ W.cell? ⟨g, q * 6 + 3, none⟩ = some (.int .i64 x.til) ∧
                W.cell? ⟨g, q * 6 + 4, none⟩ = some (.bool x.well) ∧ W.cell? ⟨g, q * 6 + 5, none⟩ = some (.int .i64 x.kids)) (first | with_reducible assumption | exact cells6 c3 ((Frm.refl noB _).alloc _) (fun h => h))
              (first
                | (go_at_call 21; (with_reducible refine (forest_any la ll lc L _ Hrd0.out (Nat.le_trans hll900 (by decide)) HLs.out).mono ?_); rintro e y1 ⟨rfl, hy1⟩; rw [Hleaf.out]; have c3 := cells6 cx hy1 (fun h => h); have hlf1 := Hlf0.out.keep hy1; have hff1 := Hff.out.trans hy1; have Hlf1 := Lib.hid hlf1; have Hff1 := Lib.hid hff1; clear hlf1 hff1 hy1)
                | (refine step_appg_spn _ (by rfl) _ _ (by rfl) x3.heap.size _ L (by rfl) (Hlf1.out.keep ((Frm.refl noB _).alloc _)) [x, x] 2 rfl (by decide) (by decide) _ (by rfl) _ (Blk.made _ _ _) (by rfl) Hsm6.out (Hff1.out.alloc _).size ?_; intro v' y2 ho hfw hat hne; obtain ⟨a', c', rfl, hrd'⟩ := ho.rd; rw [← Hn2.out] at hrd'; rw [← Hn2.out]; have c5 := cells6 c3 (((Frm.refl _ _).alloc _).trans hfw) hgn; have hff2 := Hff1.out.new (((Frm.refl _ _).alloc _).trans hfw) (fun i hi hh => absurd (Hlf1.out.lt i hh.symm).1 (Nat.not_le_of_lt hi)); have Hrd' := Lib.hid hrd'; have Hff2 := Lib.hid hff2; clear hrd' hff2 ho hfw hat hne)
                | (go_at_call 21; (with_reducible refine (forest_any a' n2 c' (L ++ [x, x]) _ Hrd'.out Hl2.out HLs2.out).mono ?_); rintro e y3 ⟨rfl, hy3⟩; rw [Htw.out]; have c7 := cells6 c5 hy3 (fun h => h); have hff3 := Hff2.out.trans hy3; have Hff3 := Lib.hid hff3; clear hff3 hy3)
                | (go_at_call 15; (with_reducible refine (lives_any _).mono ?_); rintro e y4 ⟨rfl, hy4⟩; have c9 := cells6 c7 hy4 (fun h => h); have hff4 := Hff3.out.trans hy4; have Hff4 := Lib.hid hff4; clear hff4 hy4))
            go_wp2_with fail
            go_ret
            exact ⟨rfl, (Ht3.out.frm.trans Hff4.out).below (Nat.le_refl _) (fun _ _ h => h)⟩
end Go.Proofs.Ytnmcdecdgcnmbaa
