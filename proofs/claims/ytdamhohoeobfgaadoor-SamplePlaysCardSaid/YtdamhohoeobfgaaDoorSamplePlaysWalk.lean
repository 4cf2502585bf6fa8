/- The walk of the statement SamplePlays. -/
import Derived.Test.YtdamhohoeobfgaaDoorSampleMade
import Derived.Test.YtdamhohoeobfgaaDoorSampleActs
import Derived.Test.YtdamhohoeobfgaaDoorTakeD
import Derived.RegionTactic
import Derived.Outline
import Derived.Deep.RegionHeld3
import Derived.Deep.DeepCutAuto
set_option linter.unusedVariables false
set_option linter.unusedSimpArgs false
namespace Go.Proofs.YtdamhohoeobfgaaDoor
open Go.RowKit

structure Play (w wr : World) (b B : Nat) (mm : Nat) (p s : Int) (j : Nat) (L : List Spn) (va : Option Addr) (vn vc : Nat) (O : Nat → Prop) : Prop where
  len : L.length ≤ j
  ok : ∀ x ∈ L, SpanOk x
  blk : Blk wr B #[.int .i64 (mm : Int), .int .i64 p, .int .i64 s, .slice va vn vc] 29
  own : Own spnE wr w.heap.size 39 (.slice va vn vc) L
  bo : ¬ O B
  bb : w.heap.size ≤ B
  vo : ∀ i, (Value.slice va vn vc).ownBlock = some i → ¬ O i
  tail : TL w wr b (mm : Int) p s L (2 * j) O
theorem add_ok {m : Nat} {L : List Spn} {x : Spn} (h : ∀ y ∈ L, SpanOk y) (hx : SpanOk x) : ∀ y ∈ addL m L x, SpanOk y := by
  unfold addL
  split
  · exact ok_app (fun y hy => h y (List.mem_filter.1 hy).1) hx
  · exact ok_app h hx
set_option maxRecDepth 100000 in
set_option maxHeartbeats 16000000 in
theorem samplePlays_walk (a0 a1 a2 : Int) (a3 : Option Addr) (len3 cap3 : Nat) (L0 : List ActD) (w : World) (w0 : (Lit.int .i64 a0).wf = true) (w1 : (Lit.int .i64 a1).wf = true) (w2 : (Lit.int .i64 a2).wf = true) (w3 : Rd actE w a3 len3 L0) (wn : ∀ y ∈ L0, (Lit.int .i64 y.n).wf = true) :
    Calls Tryd.prog 4 #[.int .i64 a0, .int .i64 a1, .int .i64 a2, .slice a3 len3 cap3] w fun e w' => e = .returned (.bool true) ∧ Below w.heap.size w w' := by
  obtain ⟨p0, p1⟩ := wf_i64 w0
  obtain ⟨q0, q1⟩ := wf_i64 w1
  obtain ⟨r0, r1⟩ := wf_i64 w2
  have hlm := w3.2.1
  obtain ⟨m, hm⟩ : ∃ m, m = min len3 40 := ⟨_, rfl⟩
  have Hw3 := Lib.hid w3
  have Hwn := Lib.hid wn
  have Hm := Lib.hid hm
  clear w3 wn hm
  go_enter Tryd.func4, Tryd.ntmps4
  go_wp2_with fail
  refine (made_any a0 a1 a2 _ p0 p1 q0 q1 r0 r1).mono ?_
  rintro e v1 ⟨mm, p, s, b, O1, rfl, hm1, hm5, h1⟩
  have hm55 : mm ≤ 100000 := by omega
  have H1 := Lib.hid h1
  clear h1
  go_wp2_with (first | (refine wpl_store_new _ (by rfl) 29 _ _ (by rfl) _ (by rfl) (by first | rfl | simp) _ _ _ (by rfl) (by exact info_T) (by rfl) (by kernel_rfl) ?_; refine Hid.out ?_))
  generalize hv2 : World.alloc v1 _ = v2
  have hb2 : Blk v2 v1.heap.size #[.int .i64 (mm : Int), .int .i64 p, .int .i64 s, .slice none 0 0] 29 := by rw [← hv2]; exact Blk.made v1 _ _
  have hf2 : Frm noB v1 v2 := by rw [← hv2]; exact (Frm.refl noB v1).alloc _
  obtain ⟨B, hB⟩ : ∃ B, B = v1.heap.size := ⟨_, rfl⟩
  rw [← hB] at hb2 ⊢
  have hpl : Play w v2 b B mm p s 0 [] none 0 0 O1 :=
    ⟨Nat.le_refl _, fun x h => (by cases h), hb2, Own.nil _ _ _ _, fun h => by have := H1.out.tail.lt _ h; omega, by rw [hB]; exact H1.out.frm.size, fun i hi => by simp [Value.ownBlock] at hi, H1.out.keep hf2⟩
  have Hv2 := Lib.hid hv2
  have Hb2 := Lib.hid hb2
  have Hf2 := Lib.hid hf2
  have HB := Lib.hid hB
  have Hpl := Lib.hid hpl
  clear hv2 hb2 hf2 hB hpl
  refine Lib.hid ?_
  go_wp2_with fail
  go_loopw [11] (fun i wr => ∃ (j : Nat) (L : List Spn) (va : Option Addr) (vn vc : Nat) (O : Nat → Prop), j ≤ m ∧ i = .int .i64 j ∧ Play w wr b B mm p s j L va vn vc O) (fun i _ => m - (intOf i).toNat)
  case atStart => exact ⟨0, [], none, 0, 0, O1, by omega, rfl, Hpl.out⟩
  case round =>
    obtain ⟨j, L, va, vn, vc, O, hj, rfl, hpl⟩ := hrel
    have hj40 : j ≤ 40 := by have := Hm.out; omega
    have hjl : j ≤ len3 := by have := Hm.out; omega
    have Hpl := Lib.hid hpl
    clear hpl
    go_upto_region 5 with fail
    go_cut [36] (fun s36 wx => s36 = .bool (decide (j < m)) ∧ wx = wr)
    case first =>
      have hm := Hm.out
      by_cases h1 : j < len3
      · by_cases h2 : j < 40
        · have hd : decide (j < m) = true := by rw [decide_eq_true_iff]; omega
          have g1 : (j : Int) < (len3 : Int) := by omega
          have g2 : (j : Int) < 40 := by omega
          have Hm := Lib.hid hm
          have Hd := Lib.hid hd
          clear hm hd
          go_wp2_with fail
          go_meet
          exact ⟨by rw [Hd.out], rfl⟩
        · have hd : decide (j < m) = false := by rw [decide_eq_false_iff_not]; omega
          have g1 : (j : Int) < (len3 : Int) := by omega
          have g2 : ¬ (j : Int) < 40 := by omega
          have Hm := Lib.hid hm
          have Hd := Lib.hid hd
          clear hm hd
          go_wp2_with fail
          go_meet
          exact ⟨by rw [Hd.out], rfl⟩
      · have hd : decide (j < m) = false := by rw [decide_eq_false_iff_not]; omega
        have g1 : ¬ (j : Int) < (len3 : Int) := by omega
        have Hm := Lib.hid hm
        have Hd := Lib.hid hd
        clear hm hd
        go_wp2_with fail
        go_meet
        exact ⟨by rw [Hd.out], rfl⟩
    case rest =>
      obtain ⟨rfl, rfl⟩ := hcut
      by_cases hlt : j < m
      · rw [show decide (j < m) = true from by rw [decide_eq_true_iff]; exact hlt]
        have hjl2 : j < len3 := by have := Hm.out; omega
        obtain ⟨⟨an, ao, aw, at_⟩, hz⟩ := get_of_lt (l := L0) (j := j) (by rw [Hw3.out.1]; exact hjl2)
        have hact : ∀ W, Frm noB w W → ∃ xb xo, a3 = some ⟨xb, xo, none⟩ ∧ xb < W.heap.size ∧ W.cell? ⟨xb, xo + j * 4, none⟩ = some (.int .i64 an) ∧ W.cell? ⟨xb, xo + j * 4 + 1, none⟩ = some (.bool ao) ∧ W.cell? ⟨xb, xo + j * 4 + 2, none⟩ = some (.bool aw) ∧ W.cell? ⟨xb, xo + j * 4 + 3, none⟩ = some (.int .i64 at_) := fun W hW => act_rd (Hw3.out.keep hW) hz
        obtain ⟨n0, n1⟩ := wf_i64 (Hwn.out _ (List.mem_of_getElem? hz))
        simp only at n0 n1
        obtain ⟨xb, xo, rfl, xl, e0, e1, e2, e3⟩ := hact _ Hpl.out.tail.frm
        have hacts : ∀ W, Frm noB w W → xb < W.heap.size ∧ W.cell? ⟨xb, xo + j * 4, none⟩ = some (.int .i64 an) ∧ W.cell? ⟨xb, xo + j * 4 + 2, none⟩ = some (.bool aw) ∧ W.cell? ⟨xb, xo + j * 4 + 3, none⟩ = some (.int .i64 at_) := fun W hW => by
          obtain ⟨yb, yo, he, h1, h2, h3, h4, h5⟩ := hact W hW
          simp only [Option.some.injEq, Addr.mk.injEq, and_true] at he
          obtain ⟨rfl, rfl⟩ := he
          exact ⟨h1, h2, h4, h5⟩
        have j1 : (0 : Int) ≤ (j : Int) := by omega
        have j2 : (j : Int) < (len3 : Int) := by omega
        have hL5 : L.length ≤ 100000 := by have := Hpl.out.len; omega
        have Hz := Lib.hid hz
        have Hact := Lib.hid hact
        have Hacts := Lib.hid hacts
        have Hlt := Lib.hid hlt
        have HL5 := Lib.hid hL5
        have Hn0 := Lib.hid n0
        have Hn1 := Lib.hid n1
        clear hz hact hacts hlt hL5 n0 n1
        go_upto_if 43 with fail
        go_cut [12] (fun s12 wx => ∃ (L2 : List Spn) (va2 : Option Addr) (vn2 vc2 : Nat) (O2 : Nat → Prop), Play w wx b B mm p s (j + 1) L2 va2 vn2 vc2 O2)
        case first =>
          cases ao with
          | true =>
            have har := fun W => around_any an 7 W Hn0.out Hn1.out (by omega) (by omega)
            have hr7 := around_lt an 7 (by omega)
            generalize around an 7 = r7 at *
            obtain ⟨rr, hrr⟩ : ∃ rr : Int, rr = 1 + (r7 : Int) := ⟨_, rfl⟩
            have hrr0 : 0 ≤ rr := by omega
            have hrr1 : rr < 100 := by omega
            have hr7b : r7 < 7 := by omega
            have hro := fun W (hW : Frm noB wc W) => rover_any (mm : Int) p s _ L w.heap.size rr at_ aw W (Hpl.out.own.keep hW) HL5.out (ok_nm Hpl.out.ok) hrr0 hrr1
            have hBp := Hpl.out.blk
            have hBw : B < wc.heap.size := hBp.lt
            have Har := Lib.hid har
            have Hr7 := Lib.hid hr7
            have Hrr := Lib.hid hrr
            have Hro := Lib.hid hro
            have HBp := Lib.hid hBp
            have He2 := Lib.hid e2
            have He3 := Lib.hid e3
            clear har hr7 hrr hro hBp e2 e3
            go_wp2_with fail
            refine (Har.out _).mono ?_
            rintro e v4 ⟨rfl, rfl⟩
            clear e0 e1
            obtain ⟨wq, hwq⟩ : ∃ W : World, W = wc := ⟨_, rfl⟩
            subst hwq
            go_upto_region 9 with fail
            try rw [← Hrr.out]
            go_cut [13, 14] (fun s13 s14 wx => ∃ Nb oa on oc qa qn qc, s13 = .pointer (some ⟨Nb, 0, none⟩) ∧ s14 = .slice qa qn qc ∧ Blk wx Nb #[.int .i64 (mm : Int), .int .i64 p, .int .i64 s, .slice oa on oc] 29 ∧ Own spnE wx wq.heap.size 39 (.slice oa on oc) (othersL L rr) ∧ Own spnE wx wq.heap.size 39 (.slice qa qn qc) (overL aw at_ s p L rr) ∧ Frm noB wq wx)
            case first =>
              have xlh := xl
              refine wp_region_noPanic ?_
              refine wp_region_held_drew (S := fun X => Blk X B #[.int .i64 (mm : Int), .int .i64 p, .int .i64 s, .slice va vn vc] 29 ∧ X.cell? ⟨xb, xo + j * 4 + 2, none⟩ = some (.bool aw) ∧ X.cell? ⟨xb, xo + j * 4 + 3, none⟩ = some (.int .i64 at_)) (by kernel_rfl) ?_ (fun hHeld => ?_)
              · exact ⟨HBp.out.frm (Frm.refl noB _).drew (fun h => h), cell_frm (Frm.refl noB _).drew (fun h => h) He2.out, cell_frm (Frm.refl noB _).drew (fun h => h) He3.out⟩
              obtain ⟨u0, hu0⟩ : ∃ Wq, Wq = wq.drew := ⟨_, rfl⟩
              try rw [← hu0] at hHeld
              rw [← hu0]
              have hgd : Frm noB wq u0 := by rw [hu0]; exact (Frm.refl noB wq).drew
              have HT0 := Lib.hid (hgd)
              have hz0 := hgd.size
              clear hu0 hgd
              refine takeD (i := 0) (some 52) (v := ?_) rfl rfl (by kernel_rfl) (by kernel_rfl) (by kernel_rfl) (fun _ _ _ h => h) (Or.inl ⟨by kernel_rfl, ?_⟩) (by assumption) ?_
              rotate_left
              · (intro w hSw; (try dsimp only at hSw); have hQ0 := (hSw.1.cell 0).trans (show _ = some (Value.int .i64 (mm : Int)) from rfl); have hQ1 := (hSw.1.cell 1).trans (show _ = some (Value.int .i64 p) from rfl); have hQ2 := (hSw.1.cell 2).trans (show _ = some (Value.int .i64 s) from rfl); have hQ3 := (hSw.1.cell 3).trans (show _ = some (Value.slice va vn vc) from rfl); have hE2 := hSw.2.1; have hE3 := hSw.2.2; go_simp; try (with_reducible rfl))
              (try dsimp only [Act.put]); try simp only [Act.put, List.setIfInBounds_toArray, List.set_cons_zero, List.set_cons_succ]
              refine takeD (i := 1) (some 53) (v := ?_) rfl rfl (by kernel_rfl) (by kernel_rfl) (by kernel_rfl) (fun _ _ _ h => h) (Or.inl ⟨by kernel_rfl, ?_⟩) (by assumption) ?_
              rotate_left
              · (intro w hSw; (try dsimp only at hSw); have hQ0 := (hSw.1.cell 0).trans (show _ = some (Value.int .i64 (mm : Int)) from rfl); have hQ1 := (hSw.1.cell 1).trans (show _ = some (Value.int .i64 p) from rfl); have hQ2 := (hSw.1.cell 2).trans (show _ = some (Value.int .i64 s) from rfl); have hQ3 := (hSw.1.cell 3).trans (show _ = some (Value.slice va vn vc) from rfl); have hE2 := hSw.2.1; have hE3 := hSw.2.2; go_simp; try (with_reducible rfl))
              (try dsimp only [Act.put]); try simp only [Act.put, List.setIfInBounds_toArray, List.set_cons_zero, List.set_cons_succ]
              refine takeD (i := 2) (some 54) (v := ?_) rfl rfl (by kernel_rfl) (by kernel_rfl) (by kernel_rfl) (fun _ _ _ h => h) (Or.inl ⟨by kernel_rfl, ?_⟩) (by assumption) ?_
              rotate_left
              · (intro w hSw; (try dsimp only at hSw); have hQ0 := (hSw.1.cell 0).trans (show _ = some (Value.int .i64 (mm : Int)) from rfl); have hQ1 := (hSw.1.cell 1).trans (show _ = some (Value.int .i64 p) from rfl); have hQ2 := (hSw.1.cell 2).trans (show _ = some (Value.int .i64 s) from rfl); have hQ3 := (hSw.1.cell 3).trans (show _ = some (Value.slice va vn vc) from rfl); have hE2 := hSw.2.1; have hE3 := hSw.2.2; go_simp; try (with_reducible rfl))
              (try dsimp only [Act.put]); try simp only [Act.put, List.setIfInBounds_toArray, List.set_cons_zero, List.set_cons_succ]
              refine takeD (i := 3) (some 55) (v := ?_) rfl rfl (by kernel_rfl) (by kernel_rfl) (by kernel_rfl) (fun _ _ _ h => h) (Or.inl ⟨by kernel_rfl, ?_⟩) (by assumption) ?_
              rotate_left
              · (intro w hSw; (try dsimp only at hSw); have hQ0 := (hSw.1.cell 0).trans (show _ = some (Value.int .i64 (mm : Int)) from rfl); have hQ1 := (hSw.1.cell 1).trans (show _ = some (Value.int .i64 p) from rfl); have hQ2 := (hSw.1.cell 2).trans (show _ = some (Value.int .i64 s) from rfl); have hQ3 := (hSw.1.cell 3).trans (show _ = some (Value.slice va vn vc) from rfl); have hE2 := hSw.2.1; have hE3 := hSw.2.2; go_simp; try (with_reducible rfl))
              (try dsimp only [Act.put]); try simp only [Act.put, List.setIfInBounds_toArray, List.set_cons_zero, List.set_cons_succ]
              refine takeD (i := 4) (some 56) (v := ?_) rfl rfl (by kernel_rfl) (by kernel_rfl) (by kernel_rfl) (fun _ _ _ h => h) (Or.inl ⟨by kernel_rfl, ?_⟩) (by assumption) ?_
              rotate_left
              · (intro w hSw; (try dsimp only at hSw); have hQ0 := (hSw.1.cell 0).trans (show _ = some (Value.int .i64 (mm : Int)) from rfl); have hQ1 := (hSw.1.cell 1).trans (show _ = some (Value.int .i64 p) from rfl); have hQ2 := (hSw.1.cell 2).trans (show _ = some (Value.int .i64 s) from rfl); have hQ3 := (hSw.1.cell 3).trans (show _ = some (Value.slice va vn vc) from rfl); have hE2 := hSw.2.1; have hE3 := hSw.2.2; go_simp; try (with_reducible rfl))
              (try dsimp only [Act.put]); try simp only [Act.put, List.setIfInBounds_toArray, List.set_cons_zero, List.set_cons_succ]
              refine takeD (i := 5) (some 57) (v := ?_) rfl rfl (by kernel_rfl) (by kernel_rfl) (by kernel_rfl) (fun _ _ _ h => h) (Or.inl ⟨by kernel_rfl, ?_⟩) (by assumption) ?_
              rotate_left
              · (intro w hSw; (try dsimp only at hSw); have hQ0 := (hSw.1.cell 0).trans (show _ = some (Value.int .i64 (mm : Int)) from rfl); have hQ1 := (hSw.1.cell 1).trans (show _ = some (Value.int .i64 p) from rfl); have hQ2 := (hSw.1.cell 2).trans (show _ = some (Value.int .i64 s) from rfl); have hQ3 := (hSw.1.cell 3).trans (show _ = some (Value.slice va vn vc) from rfl); have hE2 := hSw.2.1; have hE3 := hSw.2.2; go_simp; try (with_reducible rfl))
              (try dsimp only [Act.put]); try simp only [Act.put, List.setIfInBounds_toArray, List.set_cons_zero, List.set_cons_succ]
              refine takeD (i := 6) (some 58) (v := ?_) rfl rfl (by kernel_rfl) (by kernel_rfl) (by kernel_rfl) (fun _ _ _ h => h) (Or.inl ⟨by kernel_rfl, ?_⟩) (by assumption) ?_
              rotate_left
              · (intro w hSw; (try dsimp only at hSw); have hQ0 := (hSw.1.cell 0).trans (show _ = some (Value.int .i64 (mm : Int)) from rfl); have hQ1 := (hSw.1.cell 1).trans (show _ = some (Value.int .i64 p) from rfl); have hQ2 := (hSw.1.cell 2).trans (show _ = some (Value.int .i64 s) from rfl); have hQ3 := (hSw.1.cell 3).trans (show _ = some (Value.slice va vn vc) from rfl); have hE2 := hSw.2.1; have hE3 := hSw.2.2; go_simp; try (with_reducible rfl))
              (try dsimp only [Act.put]); try simp only [Act.put, List.setIfInBounds_toArray, List.set_cons_zero, List.set_cons_succ]
              refine takeD (i := 7) (some 59) (v := ?_) rfl rfl (by kernel_rfl) (by kernel_rfl) (by kernel_rfl) (fun _ _ _ h => h) (Or.inl ⟨by kernel_rfl, ?_⟩) (by assumption) ?_
              rotate_left
              · (intro w hSw; (try dsimp only at hSw); have hQ0 := (hSw.1.cell 0).trans (show _ = some (Value.int .i64 (mm : Int)) from rfl); have hQ1 := (hSw.1.cell 1).trans (show _ = some (Value.int .i64 p) from rfl); have hQ2 := (hSw.1.cell 2).trans (show _ = some (Value.int .i64 s) from rfl); have hQ3 := (hSw.1.cell 3).trans (show _ = some (Value.slice va vn vc) from rfl); have hE2 := hSw.2.1; have hE3 := hSw.2.2; go_simp; try (with_reducible rfl))
              (try dsimp only [Act.put]); try simp only [Act.put, List.setIfInBounds_toArray, List.set_cons_zero, List.set_cons_succ]
              refine takeD (i := 8) (some 60) (v := ?_) rfl rfl (by kernel_rfl) (by kernel_rfl) (by kernel_rfl) (fun _ _ _ h => h) (Or.inl ⟨by kernel_rfl, ?_⟩) (by assumption) ?_
              rotate_left
              · (intro w hSw; (try dsimp only at hSw); have hQ0 := (hSw.1.cell 0).trans (show _ = some (Value.int .i64 (mm : Int)) from rfl); have hQ1 := (hSw.1.cell 1).trans (show _ = some (Value.int .i64 p) from rfl); have hQ2 := (hSw.1.cell 2).trans (show _ = some (Value.int .i64 s) from rfl); have hQ3 := (hSw.1.cell 3).trans (show _ = some (Value.slice va vn vc) from rfl); have hE2 := hSw.2.1; have hE3 := hSw.2.2; go_simp; try (with_reducible rfl))
              (try dsimp only [Act.put]); try simp only [Act.put, List.setIfInBounds_toArray, List.set_cons_zero, List.set_cons_succ]
              refine takeD (i := 9) (some 61) (v := ?_) rfl rfl (by kernel_rfl) (by kernel_rfl) (by kernel_rfl) (fun _ _ _ h => h) (Or.inl ⟨by kernel_rfl, ?_⟩) (by assumption) ?_
              rotate_left
              · (intro w hSw; (try dsimp only at hSw); have hQ0 := (hSw.1.cell 0).trans (show _ = some (Value.int .i64 (mm : Int)) from rfl); have hQ1 := (hSw.1.cell 1).trans (show _ = some (Value.int .i64 p) from rfl); have hQ2 := (hSw.1.cell 2).trans (show _ = some (Value.int .i64 s) from rfl); have hQ3 := (hSw.1.cell 3).trans (show _ = some (Value.slice va vn vc) from rfl); have hE2 := hSw.2.1; have hE3 := hSw.2.2; go_simp; try (with_reducible rfl))
              (try dsimp only [Act.put]); try simp only [Act.put, List.setIfInBounds_toArray, List.set_cons_zero, List.set_cons_succ]
              refine takeD (i := 10) (some 62) (v := ?_) rfl rfl (by kernel_rfl) (by kernel_rfl) (by kernel_rfl) (fun _ _ _ h => h) (Or.inl ⟨by kernel_rfl, ?_⟩) (by assumption) ?_
              rotate_left
              · (intro w hSw; (try dsimp only at hSw); have hQ0 := (hSw.1.cell 0).trans (show _ = some (Value.int .i64 (mm : Int)) from rfl); have hQ1 := (hSw.1.cell 1).trans (show _ = some (Value.int .i64 p) from rfl); have hQ2 := (hSw.1.cell 2).trans (show _ = some (Value.int .i64 s) from rfl); have hQ3 := (hSw.1.cell 3).trans (show _ = some (Value.slice va vn vc) from rfl); have hE2 := hSw.2.1; have hE3 := hSw.2.2; go_simp; try (with_reducible rfl))
              (try dsimp only [Act.put]); try simp only [Act.put, List.setIfInBounds_toArray, List.set_cons_zero, List.set_cons_succ]
              refine takeD (i := 11) (some 63) (v := ?_) rfl rfl (by kernel_rfl) (by kernel_rfl) (by kernel_rfl) (fun _ _ _ h => h) (Or.inl ⟨by kernel_rfl, ?_⟩) (by assumption) ?_
              rotate_left
              · (intro w hSw; (try dsimp only at hSw); have hQ0 := (hSw.1.cell 0).trans (show _ = some (Value.int .i64 (mm : Int)) from rfl); have hQ1 := (hSw.1.cell 1).trans (show _ = some (Value.int .i64 p) from rfl); have hQ2 := (hSw.1.cell 2).trans (show _ = some (Value.int .i64 s) from rfl); have hQ3 := (hSw.1.cell 3).trans (show _ = some (Value.slice va vn vc) from rfl); have hE2 := hSw.2.1; have hE3 := hSw.2.2; go_simp; try (with_reducible rfl))
              (try dsimp only [Act.put]); try simp only [Act.put, List.setIfInBounds_toArray, List.set_cons_zero, List.set_cons_succ]
              refine wpAnyH_ready (rs := [12, 16]) (by kernel_rfl) (by simp) ?_
              refine AllReadyH.cons rfl (fun K hK => ?_) ?_
              · go_simp
                (with_reducible refine (Hro.out _ HT0.out).mono ?_)
                rintro e u1 ⟨o1, o2, rfl, ho1, ho2, hg⟩
                have HT1 := Lib.hid (HT0.out.trans hg)
                have hz1 := hg.size
                clear hg
                obtain ⟨oa, oc, hoe, _, _⟩ := ho1.shape
                obtain ⟨on, hon⟩ : ∃ n, n = (othersL L rr).length := ⟨_, rfl⟩
                rw [← hon] at hoe
                subst hoe
                obtain ⟨qa, qc, hqe, _, _⟩ := ho2.shape
                obtain ⟨qn, hqn⟩ : ∃ n, n = (overL aw at_ s p L rr).length := ⟨_, rfl⟩
                rw [← hqn] at hqe
                subst hqe
                have rA_1 := Lib.hid (ho1.base (show wq.heap.size ≤ _ by omega))
                have rQ_1 := Lib.hid (ho2.base (show wq.heap.size ≤ _ by omega))
                have Hon := Lib.hid hon
                have Hqn := Lib.hid hqn
                clear hon hqn ho1 ho2
                go_wp2_with fail
                refine hK.out _ _ ?_ (fun hHeld => ?_)
                · exact ⟨HBp.out.frm HT1.out (fun h => h), cell_frm HT1.out (fun h => h) He2.out, cell_frm HT1.out (fun h => h) He3.out⟩
                clear hK K
                (try dsimp only [Act.put]); try simp only [Act.put, List.setIfInBounds_toArray, List.set_cons_zero, List.set_cons_succ]
                refine takeD (i := 13) (some 51) (v := ?_) rfl rfl (by kernel_rfl) (by kernel_rfl) (by kernel_rfl) (fun _ _ _ h => h) (Or.inl ⟨by kernel_rfl, ?_⟩) (by assumption) ?_
                rotate_left
                · (intro w hSw; (try dsimp only at hSw); have hQ0 := (hSw.1.cell 0).trans (show _ = some (Value.int .i64 (mm : Int)) from rfl); have hQ1 := (hSw.1.cell 1).trans (show _ = some (Value.int .i64 p) from rfl); have hQ2 := (hSw.1.cell 2).trans (show _ = some (Value.int .i64 s) from rfl); have hQ3 := (hSw.1.cell 3).trans (show _ = some (Value.slice va vn vc) from rfl); have hE2 := hSw.2.1; have hE3 := hSw.2.2; go_simp; try (with_reducible rfl))
                (try dsimp only [Act.put]); try simp only [Act.put, List.setIfInBounds_toArray, List.set_cons_zero, List.set_cons_succ]
                refine takeD (i := 14) (some 65) (v := ?_) rfl rfl (by kernel_rfl) (by kernel_rfl) (by kernel_rfl) (fun _ _ _ h => h) (Or.inl ⟨by kernel_rfl, ?_⟩) (by assumption) ?_
                rotate_left
                · (intro w hSw; (try dsimp only at hSw); have hQ0 := (hSw.1.cell 0).trans (show _ = some (Value.int .i64 (mm : Int)) from rfl); have hQ1 := (hSw.1.cell 1).trans (show _ = some (Value.int .i64 p) from rfl); have hQ2 := (hSw.1.cell 2).trans (show _ = some (Value.int .i64 s) from rfl); have hQ3 := (hSw.1.cell 3).trans (show _ = some (Value.slice va vn vc) from rfl); have hE2 := hSw.2.1; have hE3 := hSw.2.2; go_simp; try (with_reducible rfl))
                (try dsimp only [Act.put]); try simp only [Act.put, List.setIfInBounds_toArray, List.set_cons_zero, List.set_cons_succ]
                refine takeD (i := 15) (some 66) (v := ?_) rfl rfl (by kernel_rfl) (by kernel_rfl) (by kernel_rfl) (fun _ _ _ h => h) (Or.inl ⟨by kernel_rfl, ?_⟩) (by assumption) ?_
                rotate_left
                · (intro w hSw; (try dsimp only at hSw); have hQ0 := (hSw.1.cell 0).trans (show _ = some (Value.int .i64 (mm : Int)) from rfl); have hQ1 := (hSw.1.cell 1).trans (show _ = some (Value.int .i64 p) from rfl); have hQ2 := (hSw.1.cell 2).trans (show _ = some (Value.int .i64 s) from rfl); have hQ3 := (hSw.1.cell 3).trans (show _ = some (Value.slice va vn vc) from rfl); have hE2 := hSw.2.1; have hE3 := hSw.2.2; go_simp; try (with_reducible rfl))
                (try dsimp only [Act.put]); try simp only [Act.put, List.setIfInBounds_toArray, List.set_cons_zero, List.set_cons_succ]
                refine wpAnyH_ready (rs := [16]) (by kernel_rfl) (by simp) ?_
                refine AllReadyH.cons rfl (fun K hK => ?_) ?_
                · go_simp
                  generalize hw : World.alloc u1 _ = u2
                  have hg : Frm noB u1 u2 := by rw [← hw]; exact (Frm.refl noB u1).alloc _
                  have HT2 := Lib.hid (HT1.out.trans hg)
                  have rA_2 := Lib.hid (rA_1.out.frm hg (fun b hb e => e))
                  have rQ_2 := Lib.hid (rQ_1.out.frm hg (fun b hb e => e))
                  have hz2 := hg.size
                  have rN_2 := Lib.hid (show Blk u2 u1.heap.size #[.int .i64 0, .int .i64 0, .int .i64 0, .slice none 0 0] 29 by rw [← hw]; exact Blk.made u1 _ _)
                  have hl2 : u1.heap.size < u2.heap.size := by rw [← hw]; simp
                  clear hg hw
                  refine hK.out _ _ ?_ (fun hHeld => ?_)
                  · exact ⟨HBp.out.frm HT2.out (fun h => h), cell_frm HT2.out (fun h => h) He2.out, cell_frm HT2.out (fun h => h) He3.out⟩
                  clear hK K
                  (try dsimp only [Act.put]); try simp only [Act.put, List.setIfInBounds_toArray, List.set_cons_zero, List.set_cons_succ]
                  refine wpAnyH_ready (rs := [17]) (by kernel_rfl) (by simp) ?_
                  refine AllReadyH.cons rfl (fun K hK => ?_) ?_
                  · rw [if_pos (by rfl)]
                    refine wp_store_blk 29 _ _ (by rfl) _ (by rfl) _ _ rN_2.out #[.int .i64 (mm : Int), .int .i64 p, .int .i64 s, .slice oa on oc] (by rfl) (by exact info_T) (by rfl) (by kernel_rfl) (fun u3 hs hg => ?_)
                    have HT3 := Lib.hid (show Frm noB wq u3 from HT2.out.new hg (fun i hi e => by have e2 := (show _ = _ from e); omega))
                    have rA_3 := Lib.hid (rA_2.out.frm hg (fun i hi e => by obtain ⟨cs, hc⟩ := rA_2.out.type i hi; exact hc.ne rN_2.out (by decide) e))
                    have rQ_3 := Lib.hid (rQ_2.out.frm hg (fun i hi e => by obtain ⟨cs, hc⟩ := rQ_2.out.type i hi; exact hc.ne rN_2.out (by decide) e))
                    have rN_3 := Lib.hid hs
                    clear hs hg
                    refine hK.out _ _ ?_ (fun hHeld => ?_)
                    · exact ⟨HBp.out.frm HT3.out (fun h => h), cell_frm HT3.out (fun h => h) He2.out, cell_frm HT3.out (fun h => h) He3.out⟩
                    clear hK K
                    (try dsimp only [Act.put]); try simp only [Act.put, List.setIfInBounds_toArray, List.set_cons_zero, List.set_cons_succ]
                    refine takeD (i := 18) (some 14) (v := ?_) rfl rfl (by kernel_rfl) (by kernel_rfl) (by kernel_rfl) (fun _ _ _ h => h) (Or.inl ⟨by kernel_rfl, ?_⟩) (by assumption) ?_
                    rotate_left
                    · (intro w hSw; (try dsimp only at hSw); have hQ0 := (hSw.1.cell 0).trans (show _ = some (Value.int .i64 (mm : Int)) from rfl); have hQ1 := (hSw.1.cell 1).trans (show _ = some (Value.int .i64 p) from rfl); have hQ2 := (hSw.1.cell 2).trans (show _ = some (Value.int .i64 s) from rfl); have hQ3 := (hSw.1.cell 3).trans (show _ = some (Value.slice va vn vc) from rfl); have hE2 := hSw.2.1; have hE3 := hSw.2.2; go_simp; try (with_reducible rfl))
                    (try dsimp only [Act.put]); try simp only [Act.put, List.setIfInBounds_toArray, List.set_cons_zero, List.set_cons_succ]
                    refine wpAnyH_done (by kernel_rfl) ?_ _
                    refine NoPanic.normal ?_
                    go_wp2_with fail
                    go_meet
                    exact ⟨_, oa, on, oc, qa, qn, qc, rfl, rfl, rN_3.out, rA_3.out, rQ_3.out, HT3.out⟩
                  exact AllReadyH.nil
                exact AllReadyH.nil
              refine AllReadyH.cons rfl (fun K hK => ?_) ?_
              · go_simp
                generalize hw : World.alloc u0 _ = u1
                have hg : Frm noB u0 u1 := by rw [← hw]; exact (Frm.refl noB u0).alloc _
                have HT1 := Lib.hid (HT0.out.trans hg)
                have hz1 := hg.size
                have rN_1 := Lib.hid (show Blk u1 u0.heap.size #[.int .i64 0, .int .i64 0, .int .i64 0, .slice none 0 0] 29 by rw [← hw]; exact Blk.made u0 _ _)
                have hl1 : u0.heap.size < u1.heap.size := by rw [← hw]; simp
                clear hg hw
                refine hK.out _ _ ?_ (fun hHeld => ?_)
                · exact ⟨HBp.out.frm HT1.out (fun h => h), cell_frm HT1.out (fun h => h) He2.out, cell_frm HT1.out (fun h => h) He3.out⟩
                clear hK K
                (try dsimp only [Act.put]); try simp only [Act.put, List.setIfInBounds_toArray, List.set_cons_zero, List.set_cons_succ]
                refine wpAnyH_ready (rs := [12]) (by kernel_rfl) (by simp) ?_
                refine AllReadyH.cons rfl (fun K hK => ?_) ?_
                · go_simp
                  (with_reducible refine (Hro.out _ HT1.out).mono ?_)
                  rintro e u2 ⟨o1, o2, rfl, ho1, ho2, hg⟩
                  have HT2 := Lib.hid (HT1.out.trans hg)
                  have rN_2 := Lib.hid (rN_1.out.frm hg (fun h => h))
                  have hz2 := hg.size
                  clear hg
                  obtain ⟨oa, oc, hoe, _, _⟩ := ho1.shape
                  obtain ⟨on, hon⟩ : ∃ n, n = (othersL L rr).length := ⟨_, rfl⟩
                  rw [← hon] at hoe
                  subst hoe
                  obtain ⟨qa, qc, hqe, _, _⟩ := ho2.shape
                  obtain ⟨qn, hqn⟩ : ∃ n, n = (overL aw at_ s p L rr).length := ⟨_, rfl⟩
                  rw [← hqn] at hqe
                  subst hqe
                  have rA_2 := Lib.hid (ho1.base (show wq.heap.size ≤ _ by omega))
                  have rQ_2 := Lib.hid (ho2.base (show wq.heap.size ≤ _ by omega))
                  have Hon := Lib.hid hon
                  have Hqn := Lib.hid hqn
                  clear hon hqn ho1 ho2
                  go_wp2_with fail
                  refine hK.out _ _ ?_ (fun hHeld => ?_)
                  · exact ⟨HBp.out.frm HT2.out (fun h => h), cell_frm HT2.out (fun h => h) He2.out, cell_frm HT2.out (fun h => h) He3.out⟩
                  clear hK K
                  (try dsimp only [Act.put]); try simp only [Act.put, List.setIfInBounds_toArray, List.set_cons_zero, List.set_cons_succ]
                  refine takeD (i := 13) (some 51) (v := ?_) rfl rfl (by kernel_rfl) (by kernel_rfl) (by kernel_rfl) (fun _ _ _ h => h) (Or.inl ⟨by kernel_rfl, ?_⟩) (by assumption) ?_
                  rotate_left
                  · (intro w hSw; (try dsimp only at hSw); have hQ0 := (hSw.1.cell 0).trans (show _ = some (Value.int .i64 (mm : Int)) from rfl); have hQ1 := (hSw.1.cell 1).trans (show _ = some (Value.int .i64 p) from rfl); have hQ2 := (hSw.1.cell 2).trans (show _ = some (Value.int .i64 s) from rfl); have hQ3 := (hSw.1.cell 3).trans (show _ = some (Value.slice va vn vc) from rfl); have hE2 := hSw.2.1; have hE3 := hSw.2.2; go_simp; try (with_reducible rfl))
                  (try dsimp only [Act.put]); try simp only [Act.put, List.setIfInBounds_toArray, List.set_cons_zero, List.set_cons_succ]
                  refine takeD (i := 14) (some 65) (v := ?_) rfl rfl (by kernel_rfl) (by kernel_rfl) (by kernel_rfl) (fun _ _ _ h => h) (Or.inl ⟨by kernel_rfl, ?_⟩) (by assumption) ?_
                  rotate_left
                  · (intro w hSw; (try dsimp only at hSw); have hQ0 := (hSw.1.cell 0).trans (show _ = some (Value.int .i64 (mm : Int)) from rfl); have hQ1 := (hSw.1.cell 1).trans (show _ = some (Value.int .i64 p) from rfl); have hQ2 := (hSw.1.cell 2).trans (show _ = some (Value.int .i64 s) from rfl); have hQ3 := (hSw.1.cell 3).trans (show _ = some (Value.slice va vn vc) from rfl); have hE2 := hSw.2.1; have hE3 := hSw.2.2; go_simp; try (with_reducible rfl))
                  (try dsimp only [Act.put]); try simp only [Act.put, List.setIfInBounds_toArray, List.set_cons_zero, List.set_cons_succ]
                  refine takeD (i := 15) (some 66) (v := ?_) rfl rfl (by kernel_rfl) (by kernel_rfl) (by kernel_rfl) (fun _ _ _ h => h) (Or.inl ⟨by kernel_rfl, ?_⟩) (by assumption) ?_
                  rotate_left
                  · (intro w hSw; (try dsimp only at hSw); have hQ0 := (hSw.1.cell 0).trans (show _ = some (Value.int .i64 (mm : Int)) from rfl); have hQ1 := (hSw.1.cell 1).trans (show _ = some (Value.int .i64 p) from rfl); have hQ2 := (hSw.1.cell 2).trans (show _ = some (Value.int .i64 s) from rfl); have hQ3 := (hSw.1.cell 3).trans (show _ = some (Value.slice va vn vc) from rfl); have hE2 := hSw.2.1; have hE3 := hSw.2.2; go_simp; try (with_reducible rfl))
                  (try dsimp only [Act.put]); try simp only [Act.put, List.setIfInBounds_toArray, List.set_cons_zero, List.set_cons_succ]
                  refine wpAnyH_ready (rs := [17]) (by kernel_rfl) (by simp) ?_
                  refine AllReadyH.cons rfl (fun K hK => ?_) ?_
                  · rw [if_pos (by rfl)]
                    refine wp_store_blk 29 _ _ (by rfl) _ (by rfl) _ _ rN_2.out #[.int .i64 (mm : Int), .int .i64 p, .int .i64 s, .slice oa on oc] (by rfl) (by exact info_T) (by rfl) (by kernel_rfl) (fun u3 hs hg => ?_)
                    have HT3 := Lib.hid (show Frm noB wq u3 from HT2.out.new hg (fun i hi e => by have e2 := (show _ = _ from e); omega))
                    have rA_3 := Lib.hid (rA_2.out.frm hg (fun i hi e => by obtain ⟨cs, hc⟩ := rA_2.out.type i hi; exact hc.ne rN_2.out (by decide) e))
                    have rQ_3 := Lib.hid (rQ_2.out.frm hg (fun i hi e => by obtain ⟨cs, hc⟩ := rQ_2.out.type i hi; exact hc.ne rN_2.out (by decide) e))
                    have rN_3 := Lib.hid hs
                    clear hs hg
                    refine hK.out _ _ ?_ (fun hHeld => ?_)
                    · exact ⟨HBp.out.frm HT3.out (fun h => h), cell_frm HT3.out (fun h => h) He2.out, cell_frm HT3.out (fun h => h) He3.out⟩
                    clear hK K
                    (try dsimp only [Act.put]); try simp only [Act.put, List.setIfInBounds_toArray, List.set_cons_zero, List.set_cons_succ]
                    refine takeD (i := 18) (some 14) (v := ?_) rfl rfl (by kernel_rfl) (by kernel_rfl) (by kernel_rfl) (fun _ _ _ h => h) (Or.inl ⟨by kernel_rfl, ?_⟩) (by assumption) ?_
                    rotate_left
                    · (intro w hSw; (try dsimp only at hSw); have hQ0 := (hSw.1.cell 0).trans (show _ = some (Value.int .i64 (mm : Int)) from rfl); have hQ1 := (hSw.1.cell 1).trans (show _ = some (Value.int .i64 p) from rfl); have hQ2 := (hSw.1.cell 2).trans (show _ = some (Value.int .i64 s) from rfl); have hQ3 := (hSw.1.cell 3).trans (show _ = some (Value.slice va vn vc) from rfl); have hE2 := hSw.2.1; have hE3 := hSw.2.2; go_simp; try (with_reducible rfl))
                    (try dsimp only [Act.put]); try simp only [Act.put, List.setIfInBounds_toArray, List.set_cons_zero, List.set_cons_succ]
                    refine wpAnyH_done (by kernel_rfl) ?_ _
                    refine NoPanic.normal ?_
                    go_wp2_with fail
                    go_meet
                    exact ⟨_, oa, on, oc, qa, qn, qc, rfl, rfl, rN_3.out, rA_3.out, rQ_3.out, HT3.out⟩
                  exact AllReadyH.nil
                exact AllReadyH.nil
              exact AllReadyH.nil
            case rest =>
              obtain ⟨Nb, oa, on, oc, qa, qn, qc, rfl, rfl, hN, hA, hQ, hf5⟩ := hcut
              have hBp5 := HBp.out.frm hf5 (fun h => h)
              have htl5 := Hpl.out.tail.keep hf5
              clear xl
              have HN := Lib.hid hN
              have HA := Lib.hid hA
              have HQ := Lib.hid hQ
              have Hf5 := Lib.hid hf5
              have HBp5 := Lib.hid hBp5
              have Htl5 := Lib.hid htl5
              clear hN hA hQ hf5 hBp5 htl5
              go_wp2_with (first | (refine wpl_load_blk (by rfl) 29 _ (by rfl) _ (by rfl) _ _ (by exact HN.out) _ Tryd.underlying29 (by rfl) (by exact info_T) ?_) | (refine wpl_store_blk (by rfl) 29 _ _ (by rfl) _ (by rfl) _ _ (by exact HBp5.out) _ (by rfl) (by exact info_T) (by rfl) (by kernel_rfl) ?_; intro wz hRq hfq; refine Hid.out ?_))
              have htl6 := Htl5.out.frmS hfq (fun i hi e => by have e2 : i = B := e; exact Hpl.out.bo (e2 ▸ hi)) (fun i e => by have e2 : i = B := e; have := Hpl.out.bb; omega)
              have hA6 := HA.out.frm hfq (fun i hi e => by have e2 : i = B := e; have := (HA.out.lt i hi).1; omega)
              have hQ6 := HQ.out.frm hfq (fun i hi e => by have e2 : i = B := e; have := (HQ.out.lt i hi).1; omega)
              obtain ⟨xl6, _, f2, f3⟩ := Hacts.out _ htl6.frm
              have hov := fun W (hW : Frm noB wz W) => (htl6.keep hW).over rr at_ aw (by omega) hrr0 hrr1
              have hOq : ∀ i, O i → i < wq.heap.size := fun i hi => Hpl.out.tail.tail.lt i hi
              have hrok : ∀ y ∈ othersL L rr, SpanOk y := fun y hy => Hpl.out.ok y (List.mem_filter.1 hy).1
              have hrlen : (othersL L rr).length ≤ j + 1 := by have h1 := othersL_len L rr; have h2 := Hpl.out.len; omega
              have HRq := Lib.hid hRq
              have Hfq := Lib.hid hfq
              have Htl6 := Lib.hid htl6
              have HA6 := Lib.hid hA6
              have HQ6 := Lib.hid hQ6
              have Hov := Lib.hid hov
              have HOq := Lib.hid hOq
              have Hrok := Lib.hid hrok
              have Hrlen := Lib.hid hrlen
              clear hRq hfq htl6 hA6 hQ6 hov hOq hrok hrlen
              refine Lib.hid ?_
              go_upto_region 11 with fail
              go_cut [15] (fun s15 wx => s15 = .bool true ∧ ∃ O6, TL w wx b (mm : Int) p s (othersL L rr) (2 * j) O6 ∧ (∀ i, O6 i → O i) ∧ Frm O wz wx)
              case first =>
                go_region_held3 (fun W => W.cell? ⟨xb, xo + j * 4 + 2, none⟩ = some (.bool aw) ∧ W.cell? ⟨xb, xo + j * 4 + 3, none⟩ = some (.int .i64 at_))
                  (first | exact ⟨f2, f3⟩ | exact ⟨y2, y3⟩ | exact ⟨z2, z3⟩)
                  (first
                    | (go_at_call 17; (with_reducible refine (Hov.out _ (Frm.refl noB wz).drew).mono ?_); rintro e v6 ⟨g6, O6, rfl, ho6, htl7, hoff6, hfr6, hsb6⟩; replace hfr6 := ((Frm.refl O wz).drew).trans hfr6; obtain ⟨xl7, _, y2, y3⟩ := Hacts.out _ htl7.frm; have hQ7 := HQ6.out.frm hfr6 (fun i hi hO => by have h1 := HOq.out i hO; have h2 := (HQ6.out.lt i hi).1; omega); have hsm := rsame_any g6 _ _ 0 _ v6 ho6 hQ7)
                    | (go_at_call 16; (with_reducible refine hsm.mono ?_); rintro e v7 ⟨rfl, hf7⟩; obtain ⟨xl8, _, z2, z3⟩ := Hacts.out _ (htl7.frm.trans hf7)))
                all_goals
                  go_wp2_with fail
                  go_meet
                  exact ⟨rfl, O6, htl7.keep hf7, hsb6, hfr6.trans (hf7.mono (fun _ _ h => h.elim))⟩
              case rest =>
                obtain ⟨rfl, O6, htl7, hsb6, hfr7⟩ := hcut
                have hplay : Play w wc b B mm p s (j + 1) (othersL L rr) oa on oc O6 :=
                  ⟨Hrlen.out, Hrok.out, HRq.out.frm hfr7 Hpl.out.bo, (HA6.out.frm hfr7 (fun i hi hO => by have h1 := HOq.out i hO; have h2 := (HA6.out.lt i hi).1; omega)).base (by have := Hpl.out.tail.frm.size; omega),
                    fun h => Hpl.out.bo (hsb6 _ h), Hpl.out.bb, fun i hi hO => by have h1 := HOq.out i (hsb6 i hO); have h2 := (HA6.out.lt i hi).1; omega, ⟨htl7.tail.mono (by omega), htl7.new, htl7.frm⟩⟩
                clear f2 f3 xl6
                have Htl7 := Lib.hid htl7
                have Hsb6 := Lib.hid hsb6
                have Hfr7 := Lib.hid hfr7
                have Hplay := Lib.hid hplay
                clear htl7 hsb6 hfr7 hplay
                go_wp2_with fail
                go_meet
                exact ⟨_, _, _, _, _, Hplay.out⟩
          | false =>
            have hx := spanOf_ok (around an 1000000)
            have hcx := fun W => span_any an W Hn0.out Hn1.out
            generalize spanOf (around an 1000000) = x at *
            obtain ⟨X, hX⟩ : ∃ X, X = x := ⟨_, rfl⟩
            rw [← hX] at hx
            obtain ⟨xn, x1, x2, x3, x4, x5⟩ := x
            have hVX : spnV X = .agg #[.string xn, .int .i64 x1, .int .i64 x2, .int .i64 x3, .bool x4, .int .i64 x5] := by rw [hX]; rfl
            have hBp := Hpl.out.blk
            have hBw : B < wc.heap.size := hBp.lt
            obtain ⟨wq, hwq⟩ : ∃ W : World, W = wc := ⟨_, rfl⟩
            subst hwq
            have Hx := Lib.hid hx
            have Hcx := Lib.hid hcx
            have HX := Lib.hid hX
            have HVX := Lib.hid hVX
            have HBp := Lib.hid hBp
            clear hx hcx hX hVX hBp
            go_wp2_with fail
            refine (Hcx.out _).mono ?_
            rintro e v4 ⟨rfl, hf4⟩
            unfold spnV
            clear e0 e1 xl
            try clear e2 e3
            have Hf4 := Lib.hid hf4
            clear hf4
            go_wp2_with (first | (refine wpl_store_new _ (by rfl) 39 _ _ (by rfl) _ (by rfl) (by first | rfl | simp) _ _ _ (by rfl) (by exact info_spz) (by rfl) (by kernel_rfl) ?_; refine Hid.out ?_))
            generalize hv5 : World.alloc v4 _ = v5
            have hb5 : Blk v5 v4.heap.size #[.string xn, .int .i64 x1, .int .i64 x2, .int .i64 x3, .bool x4, .int .i64 x5] 39 := by rw [← hv5]; exact Blk.made v4 _ _
            have hf5 : Frm noB wq v5 := by rw [← hv5]; exact Hf4.out.alloc _
            obtain ⟨B16, hB16⟩ : ∃ B, B = v4.heap.size := ⟨_, rfl⟩
            rw [← hB16] at hb5 ⊢
            have hB16q : wq.heap.size ≤ B16 := by rw [hB16]; exact Hf4.out.size
            have hBp5 := HBp.out.frm hf5 (fun h => h)
            have htl5 := Hpl.out.tail.keep hf5
            have hra := radd_any mm p s _ L w.heap.size X v5 (Hpl.out.own.keep hf5) HL5.out (ok_nm Hpl.out.ok) Hx.out.nm hm1 hm55
            have Hv5 := Lib.hid hv5
            have Hb5 := Lib.hid hb5
            have Hf5 := Lib.hid hf5
            have HB16 := Lib.hid hB16
            have HBp5 := Lib.hid hBp5
            have Htl5 := Lib.hid htl5
            have Hra := Lib.hid hra
            clear hv5 hb5 hf5 hB16 hBp5 htl5 hra
            refine Lib.hid ?_
            go_wp2_with (first | (refine wpl_load_blk (by rfl) 29 _ (by rfl) _ (by rfl) _ _ (by exact HBp5.out) _ Tryd.underlying29 (by rfl) (by exact info_T) ?_) | (refine wpl_load_blk (by rfl) 39 _ (by rfl) _ (by rfl) _ _ (by exact Hb5.out) _ Tryd.underlying39 (by rfl) (by exact info_spz) ?_))
            rw [← HVX.out]
            refine Hra.out.mono ?_
            rintro e v6 ⟨o1, o2, rfl, ho1, ho2, hf6⟩
            obtain ⟨oa, oc, hoe, _, _⟩ := ho1.shape
            obtain ⟨on, hon⟩ : ∃ n, n = (addL mm L X).length := ⟨_, rfl⟩
            rw [← hon] at hoe
            subst hoe
            have hz5 := Hf5.out.size
            have Ho1 := Lib.hid ho1
            have Ho2 := Lib.hid ho2
            have Hf6 := Lib.hid hf6
            have Hon := Lib.hid hon
            clear ho1 ho2 hf6 hon
            go_wp2_with (first | (refine wpl_store_new _ (by rfl) 29 _ _ (by rfl) _ (by rfl) (by first | rfl | simp) _ _ _ (by rfl) (by exact info_T) (by rfl) (by kernel_rfl) ?_; refine Hid.out ?_))
            generalize hv7 : World.alloc v6 _ = v7
            have hb7 : Blk v7 v6.heap.size #[.int .i64 (mm : Int), .int .i64 p, .int .i64 s, .slice oa on oc] 29 := by rw [← hv7]; exact Blk.made v6 _ _
            have hf7 : Frm noB v5 v7 := by rw [← hv7]; exact Hf6.out.alloc _
            have hf67 : Frm noB v6 v7 := by rw [← hv7]; exact (Frm.refl noB v6).alloc _
            obtain ⟨B17, hB17⟩ : ∃ B, B = v6.heap.size := ⟨_, rfl⟩
            rw [← hB17] at hb7 ⊢
            have hBp7 := HBp5.out.frm hf7 (fun h => h)
            have hb57 := Hb5.out.frm hf7 (fun h => h)
            have htl7 := Htl5.out.keep hf7
            have hA7 := Ho1.out.keep hf67
            have hQ7 := Ho2.out.keep hf67
            have Hv7 := Lib.hid hv7
            have Hb7 := Lib.hid hb7
            have Hf7 := Lib.hid hf7
            have Hf67 := Lib.hid hf67
            have HB17 := Lib.hid hB17
            have HBp7 := Lib.hid hBp7
            have Hb57 := Lib.hid hb57
            have Htl7 := Lib.hid htl7
            have HA7 := Lib.hid hA7
            have HQ7 := Lib.hid hQ7
            clear hv7 hb7 hf7 hf67 hB17 hBp7 hb57 htl7 hA7 hQ7
            refine Lib.hid ?_
            go_wp2_with (first | (refine wpl_load_blk (by rfl) 29 _ (by rfl) _ (by rfl) _ _ (by exact Hb7.out) _ Tryd.underlying29 (by rfl) (by exact info_T) ?_) | (refine wpl_store_blk (by rfl) 29 _ _ (by rfl) _ (by rfl) _ _ (by exact HBp7.out) _ (by rfl) (by exact info_T) (by rfl) (by kernel_rfl) ?_; intro wz hRq hfq; refine Hid.out ?_))
            have htl8 := Htl7.out.frmS hfq (fun i hi e => by have e2 : i = B := e; exact Hpl.out.bo (e2 ▸ hi)) (fun i e => by have e2 : i = B := e; have := Hpl.out.bb; omega)
            have hA8 := HA7.out.frm hfq (fun i hi e => by have e2 : i = B := e; have := (HA7.out.lt i hi).1; omega)
            have hQ8 := HQ7.out.frm hfq (fun i hi e => by have e2 : i = B := e; have := (HQ7.out.lt i hi).1; omega)
            have hb8 := Hb57.out.frm hfq (fun e => by have e2 : B16 = B := e; omega)
            have hOq : ∀ i, O i → i < wq.heap.size := fun i hi => Hpl.out.tail.tail.lt i hi
            have hb16O : ¬ O B16 := fun h => by have := hOq _ h; omega
            have hrok := add_ok (m := mm) Hpl.out.ok Hx.out
            have hrlen : (addL mm L X).length ≤ j + 1 := by have h1 := addL_len mm L X; have h2 := Hpl.out.len; omega
            have HRq := Lib.hid hRq
            have Hfq := Lib.hid hfq
            have Htl8 := Lib.hid htl8
            have HA8 := Lib.hid hA8
            have HQ8 := Lib.hid hQ8
            have Hb8 := Lib.hid hb8
            have HOq := Lib.hid hOq
            have Hb16O := Lib.hid hb16O
            have Hrok := Lib.hid hrok
            have Hrlen := Lib.hid hrlen
            clear hRq hfq htl8 hA8 hQ8 hb8 hOq hb16O hrok hrlen
            refine Lib.hid ?_
            go_wp2_with (first | (refine wpl_load_blk (by rfl) 39 _ (by rfl) _ (by rfl) _ _ (by exact Hb8.out) _ Tryd.underlying39 (by rfl) (by exact info_spz) ?_))
            rw [← HVX.out]
            refine (Htl8.out.add (mm := mm) X (by omega) (by have := Hx.out.sz; omega) hm1 hm55).mono ?_
            rintro e v9 ⟨g9, O9, rfl, ho9, htl9, hoff9, hfr9, hsb9⟩
            have hQ9 := HQ8.out.frm hfr9 (fun i hi hO => by have h1 := HOq.out i hO; have h2 := (HQ8.out.lt i hi).1; omega)
            have hA9 := HA8.out.frm hfr9 (fun i hi hO => by have h1 := HOq.out i hO; have h2 := (HA8.out.lt i hi).1; omega)
            have hsm := rsame_any g9 o2 _ 0 _ v9 ho9 hQ9
            have hR9 := HRq.out.frm hfr9 Hpl.out.bo
            have hz8 := Hfq.out.size
            have hO9 : ∀ i, O9 i → O i ∨ wz.heap.size ≤ i := hsb9
            have hz57 := Hf7.out.size
            have Ho9 := Lib.hid ho9
            have Htl9 := Lib.hid htl9
            have Hoff9 := Lib.hid hoff9
            have Hfr9 := Lib.hid hfr9
            have Hsb9 := Lib.hid hsb9
            have HQ9 := Lib.hid hQ9
            have HA9 := Lib.hid hA9
            have Hsm := Lib.hid hsm
            have HR9 := Lib.hid hR9
            have HO9 := Lib.hid hO9
            clear ho9 htl9 hoff9 hfr9 hsb9 hQ9 hA9 hsm hR9 hO9
            go_wp2_with fail
            refine Hsm.out.mono ?_
            rintro e v10 ⟨rfl, hf10⟩
            have hplay : Play w v10 b B mm p s (j + 1) (addL mm L X) oa on oc O9 :=
              ⟨Hrlen.out, Hrok.out, HR9.out.frm hf10 (fun h => h), (HA9.out.keep hf10).base (by have := Hpl.out.tail.frm.size; omega),
                fun h => by
                  rcases HO9.out _ h with h1 | h1
                  · exact Hpl.out.bo h1
                  · have := HRq.out.lt; omega, Hpl.out.bb,
                fun i hi hO => by
                  rcases HO9.out i hO with h1 | h1
                  · have h1 := HOq.out i h1; have h2 := (HA9.out.lt i hi).1; omega
                  · have h2 := (HA8.out.lt i hi).2; omega,
                by have h3 := Htl9.out.keep hf10; rw [show 2 * (j + 1) = 2 * j + 2 from by omega]; exact h3⟩
            have Hf10 := Lib.hid hf10
            have Hplay := Lib.hid hplay
            clear hf10 hplay
            go_wp2_with fail
            go_meet
            exact ⟨_, _, _, _, _, Hplay.out⟩
        case rest =>
          obtain ⟨L2, va2, vn2, vc2, O2, hpl2⟩ := hcut
          have d3 := (hpl2.blk.cell 3).trans (show _ = some (Value.slice va2 vn2 vc2) from rfl)
          have dl := hpl2.blk.lt
          obtain ⟨n9, hn9⟩ : ∃ n, n = (reqsL L2).length := ⟨_, rfl⟩
          have hln := fun W (hW : Frm noB wc W) => (hpl2.tail.keep hW).len
          rw [← hn9] at hln
          have hrq := fun W (hW : Frm noB wc W) => reqs_any _ L2 w.heap.size W (hpl2.own.keep hW) (by have := hpl2.len; omega) (ok_nm hpl2.ok)
          have e9 : ((n9 : Int) != (n9 : Int)) = false := by simp
          clear xl
          try clear e0 e1
          try clear e2 e3
          obtain ⟨wq, hwq⟩ : ∃ W : World, W = wc := ⟨_, rfl⟩
          subst hwq
          have Hpl2 := Lib.hid hpl2
          have Hln := Lib.hid hln
          have Hrq := Lib.hid hrq
          have Hn9 := Lib.hid hn9
          clear hpl2 hln hrq hn9
          go_upto_region 20 with fail
          go_cut [111] (fun s wx => s = .bool false ∧ Frm noB wq wx)
          case first =>
            go_region_held3 (fun W => W.cell? ⟨B, 3, none⟩ = some (.slice va2 vn2 vc2))
              (first | exact d3 | exact y3)
              (first
                | (go_at_call 21; (with_reducible refine (Hln.out _ (Frm.refl noB wq).drew).mono ?_); rintro e v6 ⟨rfl, rfl⟩)
                | (go_at_call 22; (with_reducible refine (Hrq.out _ (Frm.refl noB wq).drew).mono ?_); rintro e v7 ⟨rv, rfl, hrv, hf7⟩; replace hf7 := ((Frm.refl noB wq).drew).trans hf7; have y3 := cell_frm hf7 (fun h => h) d3; obtain ⟨ra, rc, hre, _, _⟩ := hrv.shape; rw [← Hn9.out] at hre; subst hre))
            all_goals
              go_wp2_with fail
              go_meet
              exact ⟨rfl, hf7⟩
          case rest =>
            obtain ⟨rfl, hfx⟩ := hcut
            have hpl3 : Play w wc b B mm p s (j + 1) L2 va2 vn2 vc2 O2 := ⟨Hpl2.out.len, Hpl2.out.ok, Hpl2.out.blk.frm hfx (fun h => h), Hpl2.out.own.keep hfx, Hpl2.out.bo, Hpl2.out.bb, Hpl2.out.vo, Hpl2.out.tail.keep hfx⟩
            clear d3 dl
            have Hfx := Lib.hid hfx
            have Hpl3 := Lib.hid hpl3
            clear hfx hpl3
            go_wp2_with fail
            go_roundw
            case rel => exact ⟨j + 1, L2, va2, vn2, vc2, O2, by have := Hlt.out; omega, by go_num, Hpl3.out⟩
            case measure => have := Hlt.out; simp [intOf]; omega
      · rw [show decide (j < m) = false from by rw [decide_eq_false_iff_not]; exact hlt]
        have Hlt := Lib.hid hlt
        clear hlt
        go_wp2_with fail
        refine (lives_any _).mono ?_
        rintro e v11 ⟨rfl, hf11⟩
        have Hf11 := Lib.hid (Hpl.out.tail.frm.trans hf11)
        clear hf11
        go_wp2_with fail
        go_ret
        exact ⟨rfl, Hf11.out.below (Nat.le_refl _) (fun _ _ h => h)⟩
end Go.Proofs.YtdamhohoeobfgaaDoor
