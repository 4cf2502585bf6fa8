/- Plain: of a tail of one request; a span that is made, in a block. -/
import Derived.Test.YtdamhohoeobfgaaDoorSampleLives
import Derived.Test.YtdamhohoeobfgaaDoorSampleSpan
set_option linter.unusedVariables false
namespace Go.Proofs.YtdamhohoeobfgaaDoor
open Go.RowKit

structure SpanOk (x : Spn) : Prop where
  nm : NmS x
  sz : x.name.size ≤ 8
  lo : 1 ≤ rq x
  hi : rq x ≤ 6
theorem spanOf_ok (k : Nat) : SpanOk (spanOf k) := ⟨spanOf_nm k, spanOf_size k, by rw [spanOf_rq]; omega, by rw [spanOf_rq]; omega⟩
theorem reqsL_one (x : Spn) : reqsL [x] = [rq x] := by
  have := reqsL_snoc [] x
  simpa [reqsL_nil] using this
theorem one_first (x : Spn) : goneL 1 [] x = [] ∧ addL 1 [] x = [x] := by
  have : fullB 1 [] x = false := by unfold fullB; rw [reqsL_nil]; rfl
  unfold goneL addL; rw [this]; exact ⟨rfl, rfl⟩
theorem one_same {x y : Spn} (h : rq x = rq y) : goneL 1 [x] y = [] ∧ addL 1 [x] y = [x, y] := by
  have : fullB 1 [x] y = false := by unfold fullB; rw [reqsL_one, h]; simp
  unfold goneL addL; rw [this]; exact ⟨rfl, rfl⟩
theorem one_other {x y : Spn} (h : ¬ rq x = rq y) : goneL 1 [x] y = [x] ∧ addL 1 [x] y = [y] := by
  have : fullB 1 [x] y = true := by unfold fullB; rw [reqsL_one]; simp; exact fun e => h e.symm
  unfold goneL addL; rw [this, reqsL_one]
  refine ⟨?_, ?_⟩
  · unfold ofL; simp
  · unfold othersL; simp
theorem over_two {x y : Spn} (h : rq x = rq y) (p : Int) : overL false 0 10 p [x, y] (rq x) = [x, y] := by
  have : keepB false 0 10 (rq x) p = true := rfl
  unfold overL; rw [this, if_pos rfl]; unfold ofL; simp [h]
theorem over_one (y : Spn) (p : Int) : overL false 0 10 p [y] (rq y) = [y] := by
  have : keepB false 0 10 (rq y) p = true := rfl
  unfold overL; rw [this, if_pos rfl]; unfold ofL; simp
end Go.Proofs.YtdamhohoeobfgaaDoor
