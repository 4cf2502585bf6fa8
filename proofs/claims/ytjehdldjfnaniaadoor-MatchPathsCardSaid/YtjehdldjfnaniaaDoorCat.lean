/- Sums and parts of texts, as equations on the run. -/
import Derived.Test.YtjehdldjfnaniaaDoorLib
import Derived.Test.YtjehdldjfnaniaaDoorBs
set_option linter.unusedVariables false
namespace Go.Proofs.YtjehdldjfnaniaaDoor
open Go.RowKit

theorem run_cat (x y : ByteArray) (h : x.size + y.size ≤ 1000000000) (w : World) : (binOp .add 9 (.string x) (.string y)).run Tryd.prog w = .ok (.string (x ++ y)) w := by
  have h1 : ¬ (((x.size + y.size : Nat) : Int) > IntKind.i64.max) := by
    simp only [IntKind.max, IntKind.signed, IntKind.bits]; omega
  unfold binOp
  simp only [Op.stringOp, if_neg h1]
  simp [run_underlying Tryd.underlying9, Result.andThen]
theorem run_upto (s : ByteArray) (k : Int) (h0 : 0 ≤ k) (h1 : k ≤ (s.size : Int)) (w : World) : (Instr.slice 9 (.string s) none (some (.int .i64 k)) none).run Tryd.prog w = .ok (.string (s.extract 0 k.toNat)) w := by
  simp [Instr.slice, Instr.sliceBounds, Instr.sliceBound, asIntOf, run_underlying Tryd.underlying9, h0, h1]
theorem run_from (s : ByteArray) (k : Int) (h0 : 0 ≤ k) (h1 : k ≤ (s.size : Int)) (w : World) : (Instr.slice 9 (.string s) (some (.int .i64 k)) none none).run Tryd.prog w = .ok (.string (s.extract k.toNat s.size)) w := by
  simp [Instr.slice, Instr.sliceBounds, Instr.sliceBound, asIntOf, run_underlying Tryd.underlying9, h0, h1]
end Go.Proofs.YtjehdldjfnaniaaDoor
