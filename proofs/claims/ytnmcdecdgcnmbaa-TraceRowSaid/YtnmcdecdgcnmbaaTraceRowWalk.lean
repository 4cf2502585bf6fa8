/- The walk of the statement TraceRow. -/
import Derived.Test.YtnmcdecdgcnmbaaTwoLogs
import Derived.Outline
set_option linter.unusedVariables false
namespace Go.Proofs.Ytnmcdecdgcnmbaa
open Go.RowKit

set_option maxRecDepth 100000 in
set_option maxHeartbeats 4000000 in
theorem traceRow_walk (a0 : Option Addr) (len0 cap0 : Nat) (z0 : List Int) (w : World) (w0 : IsRow .i64 w a0 len0 cap0 z0) :
    Calls Try.prog 6 #[.slice a0 len0 cap0] w fun e w' => e = .returned (.bool true) ∧ Below w.heap.size w w' := by
  have h0 := w0.ints
  have hfa : Frm noB w ((w.alloc (.cells (logCells none none) 29)).alloc (.cells (logCells none none) 29)) := ((Frm.refl _ _).alloc _).alloc _
  have h0' := h0.frm hfa (fun _ _ h => h)
  have hb1 := (Blk.made w (logCells none none) 29).alloc (.cells (logCells none none) 29)
  have hb2 := Blk.made (w.alloc (.cells (logCells none none) 29)) (logCells none none) 29
  rw [World.size_alloc] at hb2
  have hz2 : ((w.alloc (.cells (logCells none none) 29)).alloc (.cells (logCells none none) 29)).heap.size = w.heap.size + 2 := by simp
  simp only [logCells] at hfa h0' hz2
  have H0 := Lib.hid h0
  have H0' := Lib.hid h0'
  have Hfa := Lib.hid hfa
  have Hb1 := Lib.hid hb1
  have Hb2 := Lib.hid hb2
  have Hz2 := Lib.hid hz2
  clear h0 h0' hfa hb1 hb2 hz2
  clear w0
  go_enter Try.func6, Try.ntmps6
  go_wp2_with fail
  with_reducible refine (tree_any a0 len0 cap0 _ H0'.out).mono ?_
  rintro e w1 ⟨tv, T, rfl, hown, hok, hT16, hTs, hf1⟩
  have hstart : Two w w1 w.heap.size (w.heap.size + 1) [] [] (oneB w.heap.size) (oneB (w.heap.size + 1)) tv T := by
    have e1 := Hb1.out.frm hf1 (fun h => h)
    have e2 := Hb2.out.frm hf1 (fun h => h)
    have hz := Hz2.out
    have l1 := e1.lt
    have l2 := e2.lt
    refine ⟨.inl ⟨rfl, e1, rfl, fun k hk => by simp only [oneB] at hk; subst hk; exact l1⟩, .inl ⟨rfl, e2, rfl, fun k hk => by simp only [oneB] at hk; subst hk; exact l2⟩, fun j h1 h2 => by simp only [oneB] at h1 h2; omega, hown.base (by omega), ?_,
      fun j hj => by simp only [oneB] at hj; omega, fun j hj => by simp only [oneB] at hj; omega, Hfa.out.trans hf1⟩
    intro j hj
    have := (hown.lt j hj).1
    simp only [oneB]
    omega
  obtain ⟨a, c, rfl, hl, hg⟩ := hstart.row.shape
  obtain ⟨n, hn⟩ : ∃ n, n = T.length := ⟨_, rfl⟩
  rw [← hn] at hT16 hl hg hstart ⊢
  have Hstart := Lib.hid hstart
  have Hown := Lib.hid hown
  have Hok := Lib.hid hok
  have HTs := Lib.hid hTs
  have Hf1 := Lib.hid hf1
  have Hn := Lib.hid hn
  have Hg := Lib.hid hg
  clear hstart hown hok hTs hf1 hn hg
  go_wp2_with fail
  go_loopw [6] (fun i wr => ∃ (k : Nat) (O1 O2 : Nat → Prop), k ≤ n ∧ i = .int .i64 k ∧ Two w wr w.heap.size (w.heap.size + 1) (T.take k) (ownL (T.take k) 1) O1 O2 (.slice a n c) T) (fun i _ => n - (intOf i).toNat)
  case atStart => exact ⟨0, _, _, by omega, rfl, Hstart.out⟩
  case round =>
    obtain ⟨k, O1, O2, hk, rfl, ht⟩ := hrel
    by_cases hlt : k < n
    · obtain ⟨x, hx⟩ := get_of_lt (l := T) (j := k) (by rw [← Hn.out]; exact hlt)
      have hxT := List.mem_of_getElem? hx
      have hxs : x.name.size ≤ 1000000 := by rw [nm_size]; exact Nat.le_trans (HTs.out x hxT) (by omega)
      obtain ⟨g, rfl, _, _⟩ := Hg.out (by omega)
      obtain ⟨c0, c1, c2, c3, c4, c5⟩ := spn_cells ht.row hx
      have hgl : g < wr.heap.size := World.block_lt_of_cell? wr ⟨g, k * 6, none⟩ c0
      have hgood := Hok.out.at hx
      obtain ⟨en, el⟩ := hgood.note
      have hlen : (T.take k).length ≤ 100000 := by rw [List.length_take]; omega
      have hst : T.take (k + 1) = T.take k ++ [x] := by rw [List.take_add_one, hx]; rfl
      have hso := ownL_snoc hx 1
      have Ht := Lib.hid ht
      have Hx := Lib.hid hx
      have HxT := Lib.hid hxT
      have Hgood := Lib.hid hgood
      have Hen := Lib.hid en
      have Hel := Lib.hid el
      have Hst := Lib.hid hst
      have Hso := Lib.hid hso
      have Hlen := Lib.hid hlen
      clear ht hx hxT hgood en el hst hso hlen
      go_wp2_with fail
      refine (note_any w.heap.size x (T.take k) O1 _ Ht.out.l1 Hlen.out hxs).mono ?_
      rintro e w2 ⟨O1', rfl, hl1, hf2, hO1⟩
      have ht2 := Ht.out.note hl1 hf2 hO1
      rw [Hel.out, ← Hst.out] at ht2
      obtain ⟨d0, d1, d2, d3, d4, d5⟩ := spn_cells ht2.row Hx.out
      have hgl2 : g < w2.heap.size := World.block_lt_of_cell? w2 ⟨g, k * 6, none⟩ d0
      clear c0 c1 c2 c3 c4 c5 hl1 hf2 hO1
      rw [Hen.out]
      have Ht2 := Lib.hid ht2
      clear ht2
      go_wp2_with fail
      with_reducible refine (req_any x.name _ hxs).mono ?_
      rintro e w' ⟨rfl, rfl⟩
      by_cases hq : reqL x.name.data.toList = 1
      · have hgood1 : Good (ownL (T.take k) 1) x := by
          have h1 := (Hok.out.take (k + 1)).own 1
          rw [Hso.out, if_pos hq] at h1
          rcases h1.inv with h2 | ⟨L, y, h2, _, g⟩
          · simp at h2
          · have := List.append_inj' h2 rfl
            simp at this
            obtain ⟨rfl, rfl⟩ := this
            exact g
        obtain ⟨en1, el1⟩ := hgood1.note
        have hlen1 : (ownL (T.take k) 1).length ≤ 100000 := Nat.le_trans (ownL_len _ _) Hlen.out
        have hq1 : (reqL x.name.data.toList == 1) = true := by simpa using hq
        rw [if_pos hq] at Hso
        have Hgood1 := Lib.hid hgood1
        have Hen1 := Lib.hid en1
        have Hel1 := Lib.hid el1
        have Hlen1 := Lib.hid hlen1
        have Hq := Lib.hid hq
        clear hgood1 en1 el1 hlen1 hq
        go_wp2_with fail
        refine (note_any (w.heap.size + 1) x (ownL (T.take k) 1) O2 _ Ht2.out.l2 Hlen1.out hxs).mono ?_
        rintro e w3 ⟨O2', rfl, hl2, hf3, hO2⟩
        have ht3 := (Ht2.out.swap.note hl2 hf3 hO2).swap
        rw [Hel1.out, ← Hso.out] at ht3
        rw [Hen1.out]
        clear hl2 hf3 hO2
        have Ht3 := Lib.hid ht3
        clear ht3
        go_wp2_with fail
        go_roundw
        case rel => exact ⟨k + 1, O1', O2', by omega, by go_num, Ht3.out⟩
        case measure => simp [intOf]; omega
      · have hq1 : (reqL x.name.data.toList == 1) = false := by simpa using hq
        rw [if_neg hq] at Hso
        have Hq := Lib.hid hq
        clear hq
        go_wp2_with fail
        go_roundw
        case rel => exact ⟨k + 1, O1', O2, by omega, by go_num, by rw [Hso.out]; exact Ht2.out⟩
        case measure => simp [intOf]; omega
    · obtain rfl : k = n := by omega
      rw [List.take_of_length_le (by rw [← Hn.out]; exact Nat.le_refl _)] at ht
      have hT1000 : T.length ≤ 1000 := by rw [← Hn.out]; omega
      have ho1000 : (ownL T 1).length ≤ 1000 := Nat.le_trans (ownL_len _ _) hT1000
      obtain ⟨eo1, eo2⟩ := ownL_own T
      have Ht := Lib.hid ht
      have HT1000 := Lib.hid hT1000
      have Ho1000 := Lib.hid ho1000
      have Heo1 := Lib.hid eo1
      have Heo2 := Lib.hid eo2
      clear ht hT1000 ho1000 eo1 eo2
      go_wp2_with fail
      refine (spans_any w.heap.size T O1 1 _ Ht.out.l1 HT1000.out (WalkArith.wf_i64 (by omega))).mono ?_
      rintro e x1 ⟨v1, rfl, ho1, hf1⟩
      have ht1 := Ht.out.keep hf1
      have Ho1 := Lib.hid ho1
      have Hf1 := Lib.hid hf1
      have Ht1 := Lib.hid ht1
      clear ho1 hf1 ht1
      go_wp2_with fail
      refine (spans_any (w.heap.size + 1) (ownL T 1) O2 1 _ Ht1.out.l2 Ho1000.out (WalkArith.wf_i64 (by omega))).mono ?_
      rintro e x2 ⟨v2, rfl, ho2, hf2⟩
      rw [Heo1.out] at ho2
      have ho1' := Ho1.out.keep hf2
      have ht2 := Ht1.out.keep hf2
      have Ho2 := Lib.hid ho2
      have Ho1' := Lib.hid ho1'
      have Hf2 := Lib.hid hf2
      have Ht2 := Lib.hid ht2
      clear ho2 ho1' hf2 ht2
      go_wp2_with fail
      refine (same_any v1 v2 _ _ _ _ Ho1'.out Ho2.out).mono ?_
      rintro e x3 ⟨rfl, hf3⟩
      have ho1' := Ho1'.out.keep hf3
      have ht3 := Ht2.out.keep hf3
      have Ho1' := Lib.hid ho1'
      have Hf3 := Lib.hid hf3
      have Ht3 := Lib.hid ht3
      clear ho1' hf3 ht3
      go_wp2_with fail
      refine (spans_any (w.heap.size + 1) (ownL T 1) O2 2 _ Ht3.out.l2 Ho1000.out (WalkArith.wf_i64 (by omega))).mono ?_
      rintro e x4 ⟨v4, rfl, ho4, hf4⟩
      rw [Heo2.out] at ho4
      have ho1' := Ho1'.out.keep hf4
      have ht4 := Ht3.out.keep hf4
      obtain ⟨a4, c4, rfl, _, _⟩ := ho4.shape
      have hb1 := fun h => ho1'.blk h
      have hv1 := ho1'.lt
      obtain ⟨a1, c1, rfl, hl1, _⟩ := ho1'.shape
      have hb2 : 0 < (ownL T 1).length → ∃ g cur, a1 = some ⟨g, 0, none⟩ ∧ Blk x4 g cur 35 ∧ (ownL T 1).length * 6 ≤ cur.size := fun h => by
        obtain ⟨g, cap, cur, e1, _, h2, h3, _, h5⟩ := hb1 h
        simp only [Value.slice.injEq] at e1
        refine ⟨g, cur, e1.1, h2, ?_⟩
        have : cur.size = cap * 6 := h5
        rw [this]; exact Nat.mul_le_mul_right 6 h3
      obtain ⟨m, hm⟩ : ∃ m, m = (ownL T 1).length := ⟨_, rfl⟩
      rw [← hm] at hb2 hl1 hv1 ⊢
      simp only [List.length_nil]
      have Ho1' := Lib.hid ho1'
      have Hf4 := Lib.hid hf4
      have Ht4 := Lib.hid ht4
      have Hb2 := Lib.hid hb2
      have Hb1 := Lib.hid hb1
      have Hv1 := Lib.hid hv1
      have Hm := Lib.hid hm
      clear ho1' hf4 ht4 hb2 hb1 hv1 hm
      clear ho4
      go_wp2_with fail
      go_loopw [8] (fun i wy => ∃ j : Nat, j ≤ m ∧ i = .int .i64 j ∧ Frm (fun i => some i = (Value.slice a1 m c1).ownBlock) x4 wy ∧ (0 < m → ∃ g cur, a1 = some ⟨g, 0, none⟩ ∧ Blk wy g cur 35 ∧ m * 6 ≤ cur.size)) (fun i _ => m - (intOf i).toNat)
      case atStart => exact ⟨0, by omega, rfl, Frm.refl _ _, Hb2.out⟩
      case round =>
        obtain ⟨j, hj, rfl, hf, hbk⟩ := hrel
        by_cases hlt : j < m
        · obtain ⟨g, cur, rfl, hB, hcur⟩ := hbk (by omega)
          have hgl := hB.lt
          obtain ⟨u, hu⟩ : ∃ u, cur[j * 6]? = some u := ⟨_, Array.getElem?_eq_getElem (by omega)⟩
          have c0 := (hB.cell (j * 6)).trans hu
          have z0 := hB.free (j * 6)
          have hf' := hf.setCell (p := ⟨g, j * 6, none⟩) rfl (.string ⟨#[116, 117, 114, 110, 101, 100]⟩)
          have hB' := hB.set (j * 6) (.string ⟨#[116, 117, 114, 110, 101, 100]⟩)
          have Hf := Lib.hid hf
          have HB := Lib.hid hB
          have Hf' := Lib.hid hf'
          have HB' := Lib.hid hB'
          have Hu := Lib.hid hu
          have Hcur := Lib.hid hcur
          clear hf hB hf' hB' hu hcur
          clear hbk
          go_wp2_with fail
          go_roundw
          case rel => exact ⟨j + 1, by omega, by go_num, Hf'.out, fun _ => ⟨g, _, rfl, HB'.out, by rw [Array.size_setIfInBounds]; exact Hcur.out⟩⟩
          case measure => simp [intOf]; omega
        · have ht5 := Ht.out.keepN (((((Hf1.out.trans Hf2.out).trans Hf3.out).trans Hf4.out).mono (fun _ _ h => h.elim)).trans hf) (fun j hj => (Hv1.out j hj.symm).1)
          have Hf := Lib.hid hf
          have Ht5 := Lib.hid ht5
          clear hf ht5
          clear hbk
          go_wp2_with fail
          refine (spans_any w.heap.size T O1 1 _ Ht5.out.l1 HT1000.out (WalkArith.wf_i64 (by omega))).mono ?_
          rintro e y1 ⟨u1, rfl, hu1, hg1⟩
          have ht6 := Ht5.out.keep hg1
          have Hu1 := Lib.hid hu1
          have Hg1 := Lib.hid hg1
          have Ht6 := Lib.hid ht6
          clear hu1 hg1 ht6
          go_wp2_with fail
          refine (spans_any (w.heap.size + 1) (ownL T 1) O2 1 _ Ht6.out.l2 Ho1000.out (WalkArith.wf_i64 (by omega))).mono ?_
          rintro e y2 ⟨u2, rfl, hu2, hg2⟩
          rw [Heo1.out] at hu2
          have hu1' := Hu1.out.keep hg2
          have ht7 := Ht6.out.keep hg2
          have Hu2 := Lib.hid hu2
          have Hu1' := Lib.hid hu1'
          have Hg2 := Lib.hid hg2
          have Ht7 := Lib.hid ht7
          clear hu2 hu1' hg2 ht7
          go_wp2_with fail
          refine (same_any u1 u2 _ _ _ _ Hu1'.out Hu2.out).mono ?_
          rintro e y3 ⟨rfl, hg3⟩
          have ht8 := Ht7.out.keep hg3
          have Hg3 := Lib.hid hg3
          have Ht8 := Lib.hid ht8
          clear hg3 ht8
          go_wp2_with fail
          refine (lives_any _).mono ?_
          rintro e y4 ⟨rfl, hg4⟩
          have hf9 := (Ht8.out.keep hg4).frm
          have Hf9 := Lib.hid hf9
          clear hf9
          clear hg4
          go_wp2_with fail
          go_ret
          exact ⟨rfl, Hf9.out.below (Nat.le_refl _) (fun _ _ h => h)⟩
end Go.Proofs.Ytnmcdecdgcnmbaa
