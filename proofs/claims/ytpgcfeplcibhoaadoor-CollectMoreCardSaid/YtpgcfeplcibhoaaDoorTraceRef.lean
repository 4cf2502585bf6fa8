/- last, decimal, Call, Attempt and Req of the reference. -/
import Derived.Test.YtpgcfeplcibhoaaDoorTraceDec
import Derived.Test.YtpgcfeplcibhoaaDoorTraceRead
import Derived.Test.YtpgcfeplcibhoaaDoorDecimal
set_option linter.unusedVariables false
namespace Go.Proofs.YtpgcfeplcibhoaaDoor
open Go.RowKit

def DecimalIs (least : Int) (l : List UInt8) (w : World) (e : Ending) (w' : World) : Prop :=
  ∃ v : Int, e = .returned (.tuple #[.int .i64 v, .bool (isDec least l)]) ∧ (isDec least l = true → v = dval l) ∧ Frm noB w w'
theorem pow10 {n m : Nat} (h : n ≤ m) : (10 : Int) ^ n ≤ 10 ^ m := by
  have := Nat.pow_le_pow_right (show 0 < 10 by omega) h
  exact_mod_cast this
end Go.Proofs.YtpgcfeplcibhoaaDoor
