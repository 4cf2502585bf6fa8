/- spoilt. -/
import Derived.Test.YtnmcdecdgcnmbaaAround
import Derived.Test.YtnmcdecdgcnmbaaDecimal
import Derived.RegionTactic
import Derived.ChangeAlike
set_option linter.unusedVariables false
namespace Go.Proofs.Ytnmcdecdgcnmbaa
open Go.RowKit

theorem conv_byte_d (w : World) (x : Int) (h0 : 0 ≤ x) (h1 : x ≤ 255) :
    (convert 53 9 (.slice (some ⟨w.heap.size, 0, none⟩) 1 1)).run Try.prog (w.alloc (.cells #[.int .u8 x] 5)).drew =
      .ok (.string (bs [UInt8.ofNat x.toNat])) (w.alloc (.cells #[.int .u8 x] 5)).drew := by
  have h := run_convert_bytes_arg (P := Try.prog) (w.alloc (.cells #[.int .u8 x] 5)).drew 53 5 Try.underlying53 Try.underlying5 w.heap.size 0 1 1 [x] rfl
    (fun i hi => by obtain rfl : i = 0 := by omega
                    simp) 9 Try.underlying9
  rw [h]
  have e : strOfNums [x] = bs [UInt8.ofNat x.toNat] := by simp [strOfNums, bs]
  rw [e]
def ShortIs (n : Nat) (w : World) (e : Ending) (w' : World) : Prop := ∃ s : ByteArray, e = .returned (.string s) ∧ s.size ≤ n ∧ Frm noB w w'
set_option maxHeartbeats 1000000 in
theorem spoilt_any (s : ByteArray) (at_ c : Int) (out : Bool) (w : World) (hs : s.size ≤ 1000) (h0 : -9223372036854775808 ≤ at_) (h1 : at_ ≤ 9223372036854775807) (c0 : 0 ≤ c) (c1 : c ≤ 255) :
    Calls Try.prog 10 #[.string s, .int .i64 at_, .int .u8 c, .bool out] w (ShortIs s.size w) := by
  by_cases hz : s.size = 0
  · have hb : ((s.size : Int) == 0) = true := by simp [hz]
    clear hz
    go_enter Try.func10, Try.ntmps10
    go_wp2_with fail
    go_ret
    exact ⟨s, rfl, Nat.le_refl _, Frm.refl _ _⟩
  · have hb : ((s.size : Int) == 0) = false := by simp only [beq_eq_false_iff_ne, ne_eq]; omega
    have hz1 : 0 < s.size := by omega
    clear hz
    have ha : ∀ w, Calls Try.prog 16 #[.int .i64 at_, .int .i64 (s.size : Int)] w fun e w' => e = .returned (.int .i64 (around at_ s.size : Nat)) ∧ w = w' := fun w => around_any at_ s.size w h0 h1 (by omega) (by omega)
    have hk := around_lt at_ s.size (by omega)
    have hk2 : around at_ s.size < s.size := by omega
    generalize around at_ s.size = k at *
    have hsz : ∀ m, (s.extract 0 k ++ m ++ s.extract (k + 1) s.size).size ≤ s.size - 1 + m.size := fun m => by
      simp [ByteArray.size_append]; omega
    have hsz0 : (s.extract 0 k ++ s.extract (k + 1) s.size).size ≤ s.size := by
      simp [ByteArray.size_append]; omega
    have hx1 : (s.extract 0 k).size ≤ 1000 := by simp; omega
    have hx2 : (s.extract (k + 1) s.size).size ≤ 1000 := by simp; omega
    have Ha := Lib.hid ha
    have Hsz := Lib.hid hsz
    have Hsz0 := Lib.hid hsz0
    clear ha hsz hsz0
    clear hk
    have i1 : (0 : Int) ≤ (k : Int) := by omega
    have i2 : (k : Int) ≤ (s.size : Int) := by omega
    have i3 : (k : Int) + 1 ≤ (s.size : Int) := by omega
    have i4 : (0 : Int) ≤ (k : Int) + 1 := by omega
    have s1 : IntKind.i64.wrap ((k : Int) + 1) = (k : Int) + 1 := IntWalk.i64_in _ (by omega)
    have s2 : ((k : Int) + 1).toNat = k + 1 := by omega
    cases out
    · have hcv := fun w => conv_byte_d w c c0 c1
      have hxb : (bs [UInt8.ofNat c.toNat]).size ≤ 1 := Nat.le_refl _
      have hxc : (s.extract 0 k ++ bs [UInt8.ofNat c.toNat]).size ≤ 1001 := by rw [ByteArray.size_append]; omega
      go_enter Try.func10, Try.ntmps10
      go_wp2_with fail
      refine (Ha.out _).mono ?_
      rintro e w' ⟨rfl, rfl⟩
      go_wp2_with fail
      go_region
      all_goals
        go_wp2_with fail
        go_ret
        exact ⟨_, rfl, by have := Hsz.out (bs [UInt8.ofNat c.toNat]); have h1 : (bs [UInt8.ofNat c.toNat]).size = 1 := rfl; omega, Frm.drew ((Frm.refl _ _).alloc _)⟩
    · go_enter Try.func10, Try.ntmps10
      go_wp2_with fail
      refine (Ha.out _).mono ?_
      rintro e w' ⟨rfl, rfl⟩
      go_wp2_with fail
      go_quiet (fail)
      go_wp2_with fail
      go_ret
      exact ⟨_, rfl, Hsz0.out, Frm.drewN (Frm.refl _ _) _⟩
end Go.Proofs.Ytnmcdecdgcnmbaa
