/- The walk of the statement SampleMore. -/
import Derived.Test.YtdamhohoeobfgaaDoorSampleTab
set_option linter.unusedVariables false
namespace Go.Proofs.YtdamhohoeobfgaaDoor
open Go.RowKit

theorem headB_zero (r : Int) : headB r 0 = false := by unfold headB; rw [decide_eq_false_iff_not]; omega
theorem headB_all (r : Int) : headB r 100 = true := by unfold headB; rw [decide_eq_true_iff]; have := modL_lt r; omega
theorem headB_mono (r : Int) {p q : Int} (h : p ≤ q) (hp : headB r p = true) : headB r q = true := by
  unfold headB at *; rw [decide_eq_true_iff] at *; omega
set_option maxHeartbeats 1000000 in
theorem sampleMore_walk (a0 : Int) (a1 : Int) (a2 : Int) (w0 : (Lit.int .i64 a0).wf = true) (w1 : (Lit.int .i64 a1).wf = true) (w2 : (Lit.int .i64 a2).wf = true) (w : World) (htab : PowTab w) :
    Calls Tryd.prog 6 #[.int .i64 a0, .int .i64 a1, .int .i64 a2] w fun e w' => e = .returned (.bool true) ∧ Below w.heap.size w w' := by
  obtain ⟨p0, p1⟩ := wf_i64 w0
  obtain ⟨q0, q1⟩ := wf_i64 w1
  obtain ⟨r0, r1⟩ := wf_i64 w2
  have hs := fun p W (hW : Frm noB w W) => shead_at a0 p W p0 p1 (htab.frm hW)
  have har := fun W => around_any a1 101 W q0 q1 (by omega) (by omega)
  have har2 := fun W => around_any a2 101 W r0 r1 (by omega) (by omega)
  generalize around a1 101 = p at *
  generalize around a2 101 = q at *
  have hs0 := hs 0
  rw [headB_zero] at hs0
  have hs1 := hs 100
  rw [headB_all] at hs1
  have hsp := hs (p : Int)
  have hsq := hs (q : Int)
  have hmo : p ≤ q → headB a0 (p : Int) = true → headB a0 (q : Int) = true := fun h => headB_mono a0 (by omega)
  generalize headB a0 (p : Int) = bp at *
  generalize headB a0 (q : Int) = bq at *
  clear hs
  have Hs0 := Lib.hid hs0
  have Hs1 := Lib.hid hs1
  have Hsp := Lib.hid hsp
  have Hsq := Lib.hid hsq
  have Har := Lib.hid har
  have Har2 := Lib.hid har2
  have Hmo := Lib.hid hmo
  have Htab := Lib.hid htab
  clear hs0 hs1 hsp hsq har har2 hmo htab
  go_enter Tryd.func6, Tryd.ntmps6
  go_wp2_with fail
  refine (Har.out _).mono ?_
  rintro e v0 ⟨rfl, rfl⟩
  go_wp2_with fail
  refine (Har2.out _).mono ?_
  rintro e v0 ⟨rfl, rfl⟩
  go_wp2_with fail
  refine (Hs0.out _ (Frm.refl _ _)).mono ?_
  rintro e v1 ⟨rfl, hf1⟩
  have Hf1 := Lib.hid hf1
  clear hf1
  go_wp2_with fail
  refine (Hs1.out _ Hf1.out).mono ?_
  rintro e v2 ⟨rfl, hf2⟩
  have Hf2 := Lib.hid (Hf1.out.trans hf2)
  clear hf2
  by_cases hpq : q < p
  · have g1 : (q : Int) < (p : Int) := by omega
    go_wp2_with fail
    refine (lives_any _).mono ?_
    rintro e v5 ⟨rfl, hf5⟩
    have Hf5 := Lib.hid (Hf2.out.trans hf5)
    clear hf5
    go_wp2_with fail
    go_ret
    exact ⟨rfl, Hf5.out.below (Nat.le_refl _) (fun _ _ h => h)⟩
  · have g1 : ¬ (q : Int) < (p : Int) := by omega
    have hmo := Hmo.out (by omega)
    go_wp2_with fail
    refine (Hsp.out _ Hf2.out).mono ?_
    rintro e v3 ⟨rfl, hf3⟩
    have Hf3 := Lib.hid (Hf2.out.trans hf3)
    clear hf3
    cases hbp : bp with
    | false =>
      subst hbp
      have Hmo := Lib.hid hmo
      clear hmo
      go_wp2_with fail
      refine (lives_any _).mono ?_
      rintro e v5 ⟨rfl, hf5⟩
      have Hf5 := Lib.hid (Hf3.out.trans hf5)
      clear hf5
      go_wp2_with fail
      go_ret
      exact ⟨rfl, Hf5.out.below (Nat.le_refl _) (fun _ _ h => h)⟩
    | true =>
      have hbq := hmo hbp
      subst hbp
      subst hbq
      clear hmo
      go_wp2_with fail
      refine (Hsq.out _ Hf3.out).mono ?_
      rintro e v4 ⟨rfl, hf4⟩
      have Hf4 := Lib.hid (Hf3.out.trans hf4)
      clear hf4
      go_wp2_with fail
      refine (lives_any _).mono ?_
      rintro e v5 ⟨rfl, hf5⟩
      have Hf5 := Lib.hid (Hf4.out.trans hf5)
      clear hf5
      go_wp2_with fail
      go_ret
      exact ⟨rfl, Hf5.out.below (Nat.le_refl _) (fun _ _ h => h)⟩
end Go.Proofs.YtdamhohoeobfgaaDoor
