/- The walk of the statement SampleHeads. -/
import Derived.Test.YtdamhohoeobfgaaDoorSampleTab
set_option linter.unusedVariables false
namespace Go.Proofs.YtdamhohoeobfgaaDoor
open Go.RowKit

set_option maxHeartbeats 1000000 in
theorem sampleHeads_walk (a0 : Int) (a1 : Int) (w0 : (Lit.int .i64 a0).wf = true) (w1 : (Lit.int .i64 a1).wf = true) (w : World) (htab : PowTab w) :
    Calls Tryd.prog 3 #[.int .i64 a0, .int .i64 a1] w fun e w' => e = .returned (.bool true) ∧ Below w.heap.size w w' := by
  obtain ⟨p0, p1⟩ := wf_i64 w0
  obtain ⟨q0, q1⟩ := wf_i64 w1
  have hs := fun p W (hW : Frm noB w W) => shead_at a0 p W p0 p1 (htab.frm hW)
  have hr := fun p W => rhead_any a0 p W p0 p1
  have har := around_any a1 101 w q0 q1 (by omega) (by omega)
  generalize around a1 101 = p at *
  obtain ⟨b1, hb1⟩ : ∃ b, b = headB a0 a1 := ⟨_, rfl⟩
  obtain ⟨b2, hb2⟩ : ∃ b, b = headB a0 (p : Int) := ⟨_, rfl⟩
  have hs1 := hs a1
  have hs2 := hs (p : Int)
  have hr1 := hr a1
  have hr2 := hr (p : Int)
  rw [← hb1] at hs1 hr1
  rw [← hb2] at hs2 hr2
  clear hs hr
  have e1 : (b1 == b1) = true := by simp
  have e2 : (b2 == b2) = true := by simp
  have Hs1 := Lib.hid hs1
  have Hs2 := Lib.hid hs2
  have Hr1 := Lib.hid hr1
  have Hr2 := Lib.hid hr2
  have Har := Lib.hid har
  have Hb1 := Lib.hid hb1
  have Hb2 := Lib.hid hb2
  have Htab := Lib.hid htab
  clear hs1 hs2 hr1 hr2 har hb1 hb2 htab
  go_enter Tryd.func3, Tryd.ntmps3
  go_wp2_with fail
  refine (Har.out).mono ?_
  rintro e v0 ⟨rfl, rfl⟩
  go_wp2_with fail
  refine (Hs1.out _ (Frm.refl _ _)).mono ?_
  rintro e v1 ⟨rfl, hf1⟩
  have Hf1 := Lib.hid hf1
  clear hf1
  go_wp2_with fail
  refine (Hr1.out _).mono ?_
  rintro e v2 ⟨rfl, hf2⟩
  have Hf2 := Lib.hid (Hf1.out.trans hf2)
  clear hf2
  go_wp2_with fail
  refine (Hs2.out _ Hf2.out).mono ?_
  rintro e v3 ⟨rfl, hf3⟩
  have Hf3 := Lib.hid (Hf2.out.trans hf3)
  clear hf3
  go_wp2_with fail
  refine (Hr2.out _).mono ?_
  rintro e v4 ⟨rfl, hf4⟩
  have Hf4 := Lib.hid (Hf3.out.trans hf4)
  clear hf4
  go_wp2_with fail
  refine (lives_any _).mono ?_
  rintro e v5 ⟨rfl, hf5⟩
  have Hf5 := Lib.hid (Hf4.out.trans hf5)
  clear hf5
  go_wp2_with fail
  go_ret
  exact ⟨rfl, Hf5.out.below (Nat.le_refl _) (fun _ _ h => h)⟩
end Go.Proofs.YtdamhohoeobfgaaDoor
