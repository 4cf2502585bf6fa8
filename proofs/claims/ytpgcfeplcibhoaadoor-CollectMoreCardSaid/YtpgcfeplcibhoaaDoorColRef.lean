/- The references' small functions: Up. -/
import Derived.Test.YtpgcfeplcibhoaaDoorUps
set_option linter.unusedVariables false
set_option linter.unusedSimpArgs false
namespace Go.Proofs.YtpgcfeplcibhoaaDoor
open Go.RowKit

set_option maxHeartbeats 400000 in
theorem rup_any (s : ByteArray) (w : World) (hs : s.size ≤ 1000000) :
    Calls Tryd.prog 27 #[.string s] w fun e w' => e = .returned (.string (bs (upL s.data.toList))) ∧ w = w' := by
  have hlen := ba_len s
  have Hlen := Lib.hid hlen
  clear hlen
  go_enter Tryd.func27, Tryd.ntmps27
  go_wp2_with fail
  go_loop [3] (fun i => ∃ j : Nat, j ≤ s.size ∧ i = .int .i64 ((j : Int) - 1) ∧ (47 : UInt8) ∉ s.data.toList.drop j) (fun i => (intOf i + 1).toNat)
  case atStart => exact ⟨s.size, Nat.le_refl _, rfl, by rw [List.drop_of_length_le (by rw [Hlen.out]; exact Nat.le_refl _)]; simp⟩
  case round =>
    obtain ⟨j, hj, rfl, hno⟩ := hrel
    by_cases h0 : 0 < j
    · obtain ⟨k, rfl⟩ : ∃ k, j = k + 1 := ⟨j - 1, by omega⟩
      have hlt : k < s.size := by omega
      have hdc := drop_cons (byte_at hlt)
      by_cases hc : s[k] = 47
      · have hb : ((s[k].toNat : Int) == 47) = true := byte_yes (d := 47) rfl hc
        have hl : lastN 47 s.data.toList = k + 1 := by
          rw [← List.take_append_drop k s.data.toList, hdc, hc, lastN_app _ _ _ hno, List.length_take, Hlen.out]
          omega
        have hup : upL s.data.toList = s.data.toList.take k := by unfold upL; rw [hl]; rfl
        have Hl := Lib.hid hl
        have Hno := Lib.hid hno
        have Hup := Lib.hid hup
        clear hl hno hup
        clear hdc hc
        go_wp2_with fail
        go_ret
        refine ⟨?_, rfl⟩
        rw [Hup.out, ← ext_take]; rfl
      · have hb : ((s[k].toNat : Int) == 47) = false := byte_no (d := 47) rfl hc
        have hno2 : (47 : UInt8) ∉ s.data.toList.drop k := by rw [hdc]; simp [hno]; exact fun e => hc e.symm
        have Hno2 := Lib.hid hno2
        clear hno2
        clear hdc hc hno
        go_wp2_with fail
        go_round
        case rel => exact ⟨k, by omega, by first | rfl | go_num, Hno2.out⟩
        case measure => simp [intOf]
    · obtain rfl : j = 0 := by omega
      have hl : lastN 47 s.data.toList = 0 := lastN_zero.2 (by simpa using hno)
      have hup : upL s.data.toList = [] := by unfold upL; rw [hl]; rfl
      have Hl := Lib.hid hl
      have Hup := Lib.hid hup
      clear hl hup
      clear hno
      go_wp2_with fail
      go_ret
      refine ⟨?_, rfl⟩
      rw [Hup.out]; rfl
end Go.Proofs.YtpgcfeplcibhoaaDoor
