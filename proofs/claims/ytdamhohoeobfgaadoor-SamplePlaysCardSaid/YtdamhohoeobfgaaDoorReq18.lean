/- The reference's request of a name. -/
import Derived.Test.YtdamhohoeobfgaaDoorTraceRead
import Derived.Test.YtdamhohoeobfgaaDoorDecimal
import Derived.Deep.RegionLaw
import Derived.Deep.RegionHeld3
import Derived.Deep.DeepCutAuto
set_option linter.unusedVariables false
namespace Go.Proofs.YtdamhohoeobfgaaDoor
open Go.RowKit

/-- A name that begins with the digit of a request, from 1 to 6, and goes on with a colon or a tilde. -/
def Nm (s : ByteArray) (r : Nat) : Prop := ∃ (c : UInt8) (m : List UInt8), r < 6 ∧ (c = 58 ∨ c = 126) ∧ s.data.toList = UInt8.ofNat (49 + r) :: c :: m ∧ s.size ≤ 100
theorem nm_bytes {s : ByteArray} {r : Nat} (h : Nm s r) : r < 6 ∧ 2 ≤ s.size ∧ s.size ≤ 100 ∧ (∀ h' : 0 < s.size, (s[0]'h').toNat = 49 + r) ∧ ∃ c : UInt8, (c = 58 ∨ c = 126) ∧ ∀ h' : 1 < s.size, s[1]'h' = c := by
  obtain ⟨c, m, hr, hc, hs, hl⟩ := h
  have hz : s.size = m.length + 2 := by rw [← ba_len, hs]; rfl
  refine ⟨hr, by omega, hl, fun h' => ?_, c, hc, fun h' => ?_⟩
  · have := byte_at h'
    rw [hs] at this
    simp at this
    rw [← this]
    simp; omega
  · have := byte_at h'
    rw [hs] at this
    simp at this
    exact this.symm
theorem nm_take {s : ByteArray} {r : Nat} (h : Nm s r) : s.extract 0 1 = bs (decL ((r : Int) + 1)) := by
  obtain ⟨c, m, hr, hc, hs, hl⟩ := h
  rw [ext_take, hs, decL_small (by omega) (by omega), show (48 + ((r : Int) + 1)).toNat = 49 + r from by omega]
  rfl
set_option maxHeartbeats 4000000 in
theorem req18_any (s : ByteArray) (r : Nat) (w : World) (h : Nm s r) : Calls Tryd.prog 34 #[.string s] w fun e w' => e = .returned (.int .i64 ((r : Int) + 1)) ∧ Frm noB w w' := by
  obtain ⟨hr, hz, hz2, h0, c, hc, h1⟩ := nm_bytes h
  have htk := nm_take h
  have hdec := fun w => decimal_any ((r : Int) + 1) w (by omega) (by omega)
  have Hh := Lib.hid h
  have Htk := Lib.hid htk
  have Hdec := Lib.hid hdec
  clear h htk hdec
  go_enter Tryd.func34, Tryd.ntmps34
  go_wp2_with fail
  go_loop [3] (fun i => ∃ k : Nat, k ≤ 1 ∧ i = .int .i64 k) (fun i => 1 - (intOf i).toNat)
  case atStart => exact ⟨0, by omega, rfl⟩
  case round =>
    obtain ⟨k, hk, rfl⟩ := hrel
    have hz0 : 0 < s.size := by omega
    have hz1 : 1 < s.size := by omega
    rcases (show k = 0 ∨ k = 1 by omega) with rfl | rfl
    · have e0 := h0 hz0
      have b1 : (((s[0]'hz0).toNat : Int) != 58) = true := by rw [bne_iff_ne, e0]; omega
      have b2 : (((s[0]'hz0).toNat : Int) != 47) = true := by rw [bne_iff_ne, e0]; omega
      have b3 : (((s[0]'hz0).toNat : Int) != 126) = true := by rw [bne_iff_ne, e0]; omega
      have H0 := Lib.hid h0
      have H1 := Lib.hid h1
      have He0 := Lib.hid e0
      have Hc := Lib.hid hc
      clear h0 h1 e0 hc
      go_wp2_with fail
      go_round
      case rel => exact ⟨1, by omega, rfl⟩
      case measure => simp [intOf]
    · have e1 := h1 hz1
      have hgo : ∃ u : Int, ((s[1]'hz1).toNat : Int) = u ∧ (u = 58 ∨ u = 126) := ⟨_, rfl, by rw [e1]; rcases hc with rfl | rfl <;> simp⟩
      obtain ⟨u, hu, hu2⟩ := hgo
      have e0 := h0 hz0
      have d0 : ((s[0]'hz0).toNat : Int) = 49 + (r : Int) := by omega
      rcases hu2 with rfl | rfl
      · have q1 : ¬ ((s[0]'hz0).toNat : Int) < 48 := by omega
        have q2 : ¬ 57 < ((s[0]'hz0).toNat : Int) := by omega
        have q3 : IntKind.u8.wrap (((s[0]'hz0).toNat : Int) - 48) = (r : Int) + 1 := by rw [IntKind.wrap_u8]; omega
        skip
        have H0 := Lib.hid h0
        have He1 := Lib.hid e1
        have H1 := Lib.hid h1
        have Hc := Lib.hid hc
        have He0 := Lib.hid e0
        have Hq3 := Lib.hid q3
        have Hd0 := Lib.hid d0
        clear h0 e1 h1 hc e0 q3 d0
        go_wp2_with fail
        go_loop [4, 5] (fun n i => (i = .int .i64 0 ∧ n = .int .i64 0) ∨ (i = .int .i64 1 ∧ n = .int .i64 ((r : Int) + 1))) (fun _ i => 1 - (intOf i).toNat)
        case atStart => exact .inl ⟨rfl, rfl⟩
        case round =>
          rcases hrel with ⟨rfl, rfl⟩ | ⟨rfl, rfl⟩
          · have q3 := Hq3.out
            go_wp2_with fail
            go_round
            case rel => exact .inr ⟨rfl, rfl⟩
            case measure => simp [intOf]
          · clear q1 q2
            have htk := Htk.out
            have hs1 : (1 : Int) ≤ (s.size : Int) := by omega
            have hs2 : (0 : Int) ≤ (1 : Int) := by omega
            have heq : ((bs (decL ((r : Int) + 1))).toList == (bs (decL ((r : Int) + 1))).toList) = true := by simp
            have g1 : decide ((r : Int) + 1 < 1) = false := by rw [decide_eq_false_iff_not]; omega
            have g2 : decide (2147483647 < (r : Int) + 1) = false := by rw [decide_eq_false_iff_not]; omega
            go_upto_region 11 with fail
            go_region_held3 (fun W => True) (exact trivial) (first | (go_at_call 26; (with_reducible refine (Hdec.out _).mono ?_); rintro e w1 ⟨rfl, hf⟩; replace hf := (Frm.refl noB w).drew.trans hf))
            all_goals
              go_wp2_with fail
              go_ret
              exact ⟨rfl, hf⟩
      · have q1 : ¬ ((s[0]'hz0).toNat : Int) < 48 := by omega
        have q2 : ¬ 57 < ((s[0]'hz0).toNat : Int) := by omega
        have q3 : IntKind.u8.wrap (((s[0]'hz0).toNat : Int) - 48) = (r : Int) + 1 := by rw [IntKind.wrap_u8]; omega
        skip
        have H0 := Lib.hid h0
        have He1 := Lib.hid e1
        have H1 := Lib.hid h1
        have Hc := Lib.hid hc
        have He0 := Lib.hid e0
        have Hq3 := Lib.hid q3
        have Hd0 := Lib.hid d0
        clear h0 e1 h1 hc e0 q3 d0
        go_wp2_with fail
        go_loop [4, 5] (fun n i => (i = .int .i64 0 ∧ n = .int .i64 0) ∨ (i = .int .i64 1 ∧ n = .int .i64 ((r : Int) + 1))) (fun _ i => 1 - (intOf i).toNat)
        case atStart => exact .inl ⟨rfl, rfl⟩
        case round =>
          rcases hrel with ⟨rfl, rfl⟩ | ⟨rfl, rfl⟩
          · have q3 := Hq3.out
            go_wp2_with fail
            go_round
            case rel => exact .inr ⟨rfl, rfl⟩
            case measure => simp [intOf]
          · clear q1 q2
            have htk := Htk.out
            have hs1 : (1 : Int) ≤ (s.size : Int) := by omega
            have hs2 : (0 : Int) ≤ (1 : Int) := by omega
            have heq : ((bs (decL ((r : Int) + 1))).toList == (bs (decL ((r : Int) + 1))).toList) = true := by simp
            have g1 : decide ((r : Int) + 1 < 1) = false := by rw [decide_eq_false_iff_not]; omega
            have g2 : decide (2147483647 < (r : Int) + 1) = false := by rw [decide_eq_false_iff_not]; omega
            go_upto_region 11 with fail
            go_region_held3 (fun W => True) (exact trivial) (first | (go_at_call 26; (with_reducible refine (Hdec.out _).mono ?_); rintro e w1 ⟨rfl, hf⟩; replace hf := (Frm.refl noB w).drew.trans hf))
            all_goals
              go_wp2_with fail
              go_ret
              exact ⟨rfl, hf⟩
end Go.Proofs.YtdamhohoeobfgaaDoor
