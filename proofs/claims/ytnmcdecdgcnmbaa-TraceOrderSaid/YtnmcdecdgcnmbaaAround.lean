/- Around of the references. -/
import Derived.Test.YtnmcdecdgcnmbaaLib
set_option linter.unusedVariables false
namespace Go.Proofs.Ytnmcdecdgcnmbaa
open Go.RowKit

/-- Around, on numbers. -/
def around (n m : Int) : Nat := ((if n < 0 then -(n + 1) else n) % m).toNat
theorem around_lt (n m : Int) (h : 0 < m) : (around n m : Int) < m := by
  unfold around
  have h1 := Int.emod_nonneg (if n < 0 then -(n + 1) else n) (show m ≠ 0 by omega)
  have h2 := Int.emod_lt_of_pos (if n < 0 then -(n + 1) else n) h
  omega
theorem around_neg (n m : Int) (hm : 0 < m) (h : n < 0) : -((n + 1).tmod m) = (around n m : Int) := by
  unfold around
  rw [if_pos h, ← Int.neg_tmod, Int.tmod_eq_emod_of_nonneg (by omega)]
  have h1 := Int.emod_nonneg (-(n + 1)) (show m ≠ 0 by omega)
  omega
theorem around_pos (n m : Int) (hm : 0 < m) (h : ¬ n < 0) : (n % m : Int) = (around n m : Int) := by
  unfold around
  rw [if_neg h]
  have h1 := Int.emod_nonneg n (show m ≠ 0 by omega)
  omega

set_option maxHeartbeats 400000 in
theorem around_any (n m : Int) (w : World) (h0 : -9223372036854775808 ≤ n) (h1 : n ≤ 9223372036854775807) (hm : 0 < m) (hm1 : m ≤ 9223372036854775807) :
    Calls Try.prog 16 #[.int .i64 n, .int .i64 m] w fun e w' => e = .returned (.int .i64 (around n m : Nat)) ∧ w = w' := by
  have hm2 : (m == 0) = false := by simp; omega
  by_cases hn : n < 0
  · have ha := Lib.hid (around_neg n m hm hn)
    go_enter Try.func16, Try.ntmps16
    go_wp2
    go_ret
    refine ⟨?_, rfl⟩
    rw [← ha.out]; rfl
  · have ha := Lib.hid (around_pos n m hm hn)
    go_enter Try.func16, Try.ntmps16
    go_wp2
    go_ret
    refine ⟨?_, rfl⟩
    rw [← ha.out]; rfl
end Go.Proofs.Ytnmcdecdgcnmbaa
