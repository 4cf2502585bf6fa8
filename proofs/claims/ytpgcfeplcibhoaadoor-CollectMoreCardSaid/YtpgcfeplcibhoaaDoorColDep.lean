/- Depth of the reference. -/
import Derived.Test.YtpgcfeplcibhoaaDoorDepthC
import Derived.Test.YtpgcfeplcibhoaaDoorTraceRead
set_option linter.unusedVariables false
set_option linter.unusedSimpArgs false
namespace Go.Proofs.YtpgcfeplcibhoaaDoor
open Go.RowKit

theorem depL_snoc {l : List UInt8} {k : Nat} {c : UInt8} (h : l[k]? = some c) : depL (l.take (k + 1)) = depL (l.take k) + if c = 47 then 1 else 0 := by
  rw [List.take_add_one, h, depL_app]
  congr 1
  unfold depL Lib.countByte
  by_cases e : c = 47 <;> simp [e, List.count_cons]
theorem depL_le (l : List UInt8) : depL l ≤ l.length := by unfold depL Lib.countByte; exact List.count_le_length
set_option maxHeartbeats 1000000 in
theorem rdepth_any (s : ByteArray) (w : World) (hs : s.size ≤ 1000000) : Calls Tryd.prog 42 #[.string s] w fun e w' => e = .returned (.int .i64 (depL s.data.toList : Nat)) ∧ w = w' := by
  have hlen := ba_len s
  have Hlen := Lib.hid hlen
  clear hlen
  go_enter Tryd.func42, Tryd.ntmps42
  go_wp2_with fail
  go_loop [3, 4] (fun n i => ∃ j d : Nat, j ≤ s.size ∧ i = .int .i64 (j : Int) ∧ n = .int .i64 (d : Int) ∧ d ≤ j ∧ d = depL (s.data.toList.take j)) (fun _ i => s.size - (intOf i).toNat)
  case atStart => exact ⟨0, 0, by omega, rfl, rfl, by omega, rfl⟩
  case round =>
    obtain ⟨j, d, hj, rfl, rfl, hdj, hd⟩ := hrel
    by_cases hlt : j < s.size
    · have hget := byte_at hlt
      have hsn := depL_snoc hget
      rw [← hd] at hsn
      by_cases hc : s[j] = 47
      · have hb : ((s[j].toNat : Int) == 47) = true := byte_yes (d := 47) rfl hc
        rw [if_pos hc] at hsn
        have Hget := Lib.hid hget
        have Hsn := Lib.hid hsn
        have Hd := Lib.hid hd
        have Hc := Lib.hid hc
        clear hget hsn hd hc
        go_wp2_with fail
        go_round
        case rel => exact ⟨j + 1, d + 1, by omega, by go_num, by go_num, by omega, Hsn.out.symm⟩
        case measure => simp [intOf]; omega
      · have hb : ((s[j].toNat : Int) == 47) = false := byte_no (d := 47) rfl hc
        rw [if_neg hc] at hsn
        have Hget := Lib.hid hget
        have Hsn := Lib.hid hsn
        have Hd := Lib.hid hd
        have Hc := Lib.hid hc
        clear hget hsn hd hc
        go_wp2_with fail
        go_round
        case rel => exact ⟨j + 1, d, by omega, by go_num, rfl, by omega, Hsn.out.symm⟩
        case measure => simp [intOf]; omega
    · have hall : s.data.toList.take j = s.data.toList := List.take_of_length_le (by rw [Hlen.out]; omega)
      rw [hall] at hd
      have Hd := Lib.hid hd
      have Hall := Lib.hid hall
      clear hd hall
      go_wp2_with fail
      go_ret
      exact ⟨by rw [← Hd.out]; rfl, rfl⟩
end Go.Proofs.YtpgcfeplcibhoaaDoor
