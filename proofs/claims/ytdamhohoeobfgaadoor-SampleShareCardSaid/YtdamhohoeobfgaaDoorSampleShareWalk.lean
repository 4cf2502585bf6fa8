/- The walk of the statement SampleShare. -/
import Derived.Test.YtdamhohoeobfgaaDoorSampleTab
set_option linter.unusedVariables false
namespace Go.Proofs.YtdamhohoeobfgaaDoor
open Go.RowKit

set_option maxHeartbeats 1000000 in
theorem sampleShare_walk (a0 : Int) (w0 : (Lit.int .i64 a0).wf = true) (w : World) (htab : PowTab w) :
    Calls Tryd.prog 7 #[.int .i64 a0] w fun e w' => e = .returned (.bool true) ∧ Below w.heap.size w w' := by
  obtain ⟨p0, p1⟩ := wf_i64 w0
  have hs := fun p W (hW : Frm noB w W) => shead_at a0 p W p0 p1 (htab.frm hW)
  have hdec := fun W => decimal_any a0 W p0 p1
  have hsz := dec_size a0 p0 p1
  obtain ⟨H, hH⟩ : ∃ H, H = hashN (bs (decL a0)).data.toList := ⟨_, rfl⟩
  have hm : H % 100 = modL a0 := by unfold modL; rw [hH, show (bs (decL a0)).data.toList = decL a0 from by simp [bs]]
  have hml := modL_lt a0
  have hb : ∀ p, headB a0 p = decide ((modL a0 : Int) < p) := fun p => rfl
  have hmi : (H : Int) % 100 = (modL a0 : Int) := by omega
  generalize modL a0 = M at *
  have Hs := Lib.hid hs
  have Hdec := Lib.hid hdec
  have Hsz := Lib.hid hsz
  have HH := Lib.hid hH
  have Hm := Lib.hid hm
  have Hmi := Lib.hid hmi
  have Hb := Lib.hid hb
  have Htab := Lib.hid htab
  clear hs hdec hsz hH hm hmi hb htab
  go_enter Tryd.func7, Tryd.ntmps7
  go_wp2_with fail
  go_loopw [3, 4] (fun n i wr => ∃ p c : Nat, p ≤ 101 ∧ i = .int .i64 p ∧ n = .int .i64 c ∧ c = p - 1 - M ∧ Frm noB w wr) (fun _ i _ => 101 - (intOf i).toNat)
  case atStart => exact ⟨0, 0, by omega, rfl, rfl, by omega, Frm.refl _ _⟩
  case round =>
    obtain ⟨p, c, hp, rfl, rfl, hc, hf⟩ := hrel
    by_cases hlt : p ≤ 100
    · have hcall := Hs.out (p : Int) _ hf
      rw [Hb.out] at hcall
      have hc5 : c ≤ 101 := by omega
      by_cases hM : M < p
      · rw [show decide ((M : Int) < (p : Int)) = true from by rw [decide_eq_true_iff]; omega] at hcall
        have Hcall := Lib.hid hcall
        have Hf := Lib.hid hf
        have Hc := Lib.hid hc
        clear hcall hf hc
        go_wp2_with fail
        refine Hcall.out.mono ?_
        rintro e w1 ⟨rfl, hf1⟩
        have Hf1 := Lib.hid (Hf.out.trans hf1)
        clear hf1
        go_wp2_with fail
        go_roundw
        case rel => exact ⟨p + 1, c + 1, by omega, by go_num, by go_num, by have := Hc.out; omega, Hf1.out⟩
        case measure => simp [intOf]; omega
      · rw [show decide ((M : Int) < (p : Int)) = false from by rw [decide_eq_false_iff_not]; omega] at hcall
        have Hcall := Lib.hid hcall
        have Hf := Lib.hid hf
        have Hc := Lib.hid hc
        clear hcall hf hc
        go_wp2_with fail
        refine Hcall.out.mono ?_
        rintro e w1 ⟨rfl, hf1⟩
        have Hf1 := Lib.hid (Hf.out.trans hf1)
        clear hf1
        go_wp2_with fail
        go_roundw
        case rel => exact ⟨p + 1, c, by omega, by go_num, rfl, by have := Hc.out; omega, Hf1.out⟩
        case measure => simp [intOf]; omega
    · obtain rfl : p = 101 := by omega
      have hcM : (c : Int) = 100 - (M : Int) := by omega
      have Hf := Lib.hid hf
      have Hc := Lib.hid hc
      have HcM := Lib.hid hcM
      clear hf hc hcM
      go_wp2_with fail
      refine (Hdec.out _).mono ?_
      rintro e w1 ⟨rfl, hf1⟩
      have Hf1 := Lib.hid (Hf.out.trans hf1)
      clear hf1
      go_wp2_with fail
      refine (hash_any _ _ Hsz.out).mono ?_
      rintro e w2 ⟨rfl, rfl⟩
      rw [← HH.out]
      have h2 := Hmi.out
      have e1 : ((c : Int) == 100 - (M : Int)) = true := by rw [beq_iff_eq]; exact HcM.out
      go_wp2_with fail
      refine (lives_any _).mono ?_
      rintro e w3 ⟨rfl, hf3⟩
      have Hf3 := Lib.hid (Hf1.out.trans hf3)
      clear hf3
      go_wp2_with fail
      go_ret
      exact ⟨rfl, Hf3.out.below (Nat.le_refl _) (fun _ _ h => h)⟩
end Go.Proofs.YtdamhohoeobfgaaDoor
