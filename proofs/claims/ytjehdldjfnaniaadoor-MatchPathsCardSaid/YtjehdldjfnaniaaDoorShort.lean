/- Short of the references. -/
import Derived.Test.YtjehdldjfnaniaaDoorLib
set_option linter.unusedVariables false
namespace Go.Proofs.YtjehdldjfnaniaaDoor
open Go.RowKit

set_option maxHeartbeats 400000 in
theorem short_any (s : ByteArray) (m : Nat) (w : World) (hs : s.size ≤ maxLen) (hm : m ≤ 1000) :
    Calls Tryd.prog 20 #[.string s, .int .i64 (m : Int)] w fun e w' => e = .returned (.string ⟨(s.data.toList.take m).toArray⟩) ∧ w = w' := by
  unfold maxLen at hs
  have hsz : s.data.toList.length = s.size := by simp
  have hex : s.extract 0 m = ⟨(s.data.toList.take m).toArray⟩ := by
    apply ByteArray.ext; apply Array.ext'; simp
  have hfull : s.size ≤ m → s = ⟨(s.data.toList.take m).toArray⟩ := fun h => by
    rw [List.take_of_length_le (by omega)]
  have Hex := Lib.hid hex
  have Hfull := Lib.hid hfull
  clear hex hfull hsz
  by_cases h : m < s.size
  · go_enter Tryd.func20, Tryd.ntmps20
    go_wp2
    go_ret
    exact ⟨by rw [← Hex.out]; rfl, rfl⟩
  · go_enter Tryd.func20, Tryd.ntmps20
    go_wp2
    go_ret
    exact ⟨congrArg (fun x => Ending.returned (Value.string x)) (Hfull.out (by omega)), rfl⟩
end Go.Proofs.YtjehdldjfnaniaaDoor
