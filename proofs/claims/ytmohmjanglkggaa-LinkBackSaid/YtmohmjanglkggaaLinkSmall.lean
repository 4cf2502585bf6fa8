/- The contracts of the small functions of layer 27. -/
import Derived.Test.YtmohmjanglkggaaLib
import Derived.Test.YtmohmjanglkggaaLinkPlain
set_option linter.unusedVariables false
namespace Go.Proofs.Ytmohmjanglkggaa
open Go.RowKit

def fltV (f : Flt) : Value := .agg #[.int .i64 f.kind, .int .i64 f.frm, .int .i64 f.til, .int .i64 f.a, .int .i64 f.b, .int .i64 f.n]

set_option maxHeartbeats 400000 in
theorem onWay_any (k : Int) (w : World) : Calls Try.prog 28 #[.int .i64 k] w fun e w' => e = .returned (.bool (onWayB k)) ∧ w = w' := by
  go_enter Try.func28, Try.ntmps28
  go_wp2
  all_goals (go_ret; exact ⟨ret_bool (by simp [onWayB]; omega), rfl⟩)

set_option maxHeartbeats 400000 in
theorem way_any (k : Int) (w : World) : Calls Try.prog 27 #[.int .i64 k] w fun e w' => e = .returned (.bool (onWayB k)) ∧ w = w' := by
  have key : (k = 1 ∨ k = 2 ∨ k = 3 ∨ k = 4) ∨ (k ≠ 1 ∧ k ≠ 2 ∧ k ≠ 3 ∧ k ≠ 4) := by omega
  rcases key with (rfl | rfl | rfl | rfl) | ⟨h1, h2, h3, h4⟩
  case inr =>
    have e1 : (k == 1) = false := by simpa using h1
    have e2 : (k == 2) = false := by simpa using h2
    have e3 : (k == 3) = false := by simpa using h3
    have e4 : (k == 4) = false := by simpa using h4
    have hb : onWayB k = false := by simp only [onWayB]; rw [decide_eq_false_iff_not]; omega
    have Hb := Lib.hid hb
    clear hb h1 h2 h3 h4
    go_enter Try.func27, Try.ntmps27
    go_wp2
    go_ret
    exact ⟨ret_bool Hb.out.symm, rfl⟩
  all_goals
    go_enter Try.func27, Try.ntmps27
    go_wp2
    go_ret
    exact ⟨ret_bool (by decide), rfl⟩

set_option maxHeartbeats 400000 in
theorem there_any (f : Flt) (now : Int) (w : World) : Calls Try.prog 25 #[.agg #[.int .i64 f.kind, .int .i64 f.frm, .int .i64 f.til, .int .i64 f.a, .int .i64 f.b, .int .i64 f.n], .int .i64 now] w fun e w' => e = .returned (.bool (thereB f now)) ∧ w.alloc (.cells #[.int .i64 f.kind, .int .i64 f.frm, .int .i64 f.til, .int .i64 f.a, .int .i64 f.b, .int .i64 f.n] 41) = w' := by
  go_enter Try.func25, Try.ntmps25
  go_wp2
  all_goals (go_ret; exact ⟨ret_bool (by simp [thereB]; omega), rfl⟩)

set_option maxHeartbeats 400000 in
theorem There_any (f : Flt) (now : Int) (w : World) : Calls Try.prog 26 #[.agg #[.int .i64 f.kind, .int .i64 f.frm, .int .i64 f.til, .int .i64 f.a, .int .i64 f.b, .int .i64 f.n], .int .i64 now] w fun e w' => e = .returned (.bool (thereB f now)) ∧ w.alloc (.cells #[.int .i64 f.kind, .int .i64 f.frm, .int .i64 f.til, .int .i64 f.a, .int .i64 f.b, .int .i64 f.n] 41) = w' := by
  go_enter Try.func26, Try.ntmps26
  go_wp2
  all_goals (go_ret; exact ⟨ret_bool (by simp [thereB]; omega), rfl⟩)

set_option maxHeartbeats 1000000 in
theorem Sees_any (f : Flt) (now src dst : Int) (w : World) :
    Calls Try.prog 23 #[.agg #[.int .i64 f.kind, .int .i64 f.frm, .int .i64 f.til, .int .i64 f.a, .int .i64 f.b, .int .i64 f.n], .int .i64 now, .int .i64 src, .int .i64 dst] w fun e w' => e = .returned (.bool (seesB f now src dst)) ∧ Frm noB w w' := by
  go_enter Try.func23, Try.ntmps23
  go_wp2_with fail
  refine (way_any f.kind _).mono ?_
  rintro e w1 ⟨rfl, rfl⟩
  cases hw : onWayB f.kind
  · have Hw := Lib.hid hw
    clear hw
    go_wp2
    go_ret
    exact ⟨ret_bool (by simp [seesB, Hw.out]), (Frm.refl noB w).alloc _⟩
  · have Hw := Lib.hid hw
    clear hw
    go_wp2_with fail
    refine (There_any f now _).mono ?_
    rintro e w1 ⟨rfl, rfl⟩
    cases ht : thereB f now
    · have Ht := Lib.hid ht
      clear ht
      go_wp2
      go_ret
      exact ⟨ret_bool (by simp [seesB, Hw.out, Ht.out]), ((Frm.refl noB w).alloc _).alloc _⟩
    · have Ht := Lib.hid ht
      clear ht
      have key : seesB f now src dst = (if f.b = -1 then (src == f.a || dst == f.a) else (src == f.a && dst == f.b || src == f.b && dst == f.a)) := by simp only [seesB, Hw.out, Ht.out, Bool.true_and]
      have Key := Lib.hid key
      clear key
      go_wp2
      all_goals (go_ret; refine ⟨ret_bool ?_, ((Frm.refl noB w).alloc _).alloc _⟩; rw [Key.out]; clear Key; by_cases hb : f.b = -1 <;> simp only [hb, ↓reduceIte] <;> rw [Bool.eq_iff_iff] <;> simp only [beq_iff_eq, beq_eq_false_iff_ne, ne_eq, Bool.or_eq_true, Bool.and_eq_true, Bool.false_eq_true, true_iff, false_iff] at * <;> omega)
set_option maxHeartbeats 1000000 in
theorem seenBy_any (f : Flt) (now src dst : Int) (w : World) :
    Calls Try.prog 24 #[.agg #[.int .i64 now, .int .i64 src, .int .i64 dst], .agg #[.int .i64 f.kind, .int .i64 f.frm, .int .i64 f.til, .int .i64 f.a, .int .i64 f.b, .int .i64 f.n]] w fun e w' => e = .returned (.bool (seesB f now src dst)) ∧ Frm noB w w' := by
  go_enter Try.func24, Try.ntmps24
  go_wp2_with fail
  refine (onWay_any f.kind _).mono ?_
  rintro e w1 ⟨rfl, rfl⟩
  cases hw : onWayB f.kind
  · have Hw := Lib.hid hw
    clear hw
    go_wp2
    go_ret
    exact ⟨ret_bool (by simp [seesB, Hw.out]), ((Frm.refl noB w).alloc _).alloc _⟩
  · have Hw := Lib.hid hw
    clear hw
    go_wp2_with fail
    refine (there_any f now _).mono ?_
    rintro e w1 ⟨rfl, rfl⟩
    cases ht : thereB f now
    · have Ht := Lib.hid ht
      clear ht
      go_wp2
      go_ret
      exact ⟨ret_bool (by simp [seesB, Hw.out, Ht.out]), (((Frm.refl noB w).alloc _).alloc _).alloc _⟩
    · have Ht := Lib.hid ht
      clear ht
      have key : seesB f now src dst = (if f.b = -1 then (src == f.a || dst == f.a) else (src == f.a && dst == f.b || src == f.b && dst == f.a)) := by simp only [seesB, Hw.out, Ht.out, Bool.true_and]
      have Key := Lib.hid key
      clear key
      go_wp2
      all_goals (go_ret; refine ⟨ret_bool ?_, (((Frm.refl noB w).alloc _).alloc _).alloc _⟩; rw [Key.out]; clear Key; by_cases hb : f.b = -1 <;> simp only [hb, ↓reduceIte] <;> rw [Bool.eq_iff_iff] <;> simp only [beq_iff_eq, beq_eq_false_iff_ne, ne_eq, Bool.or_eq_true, Bool.and_eq_true, Bool.false_eq_true, true_iff, false_iff] at * <;> omega)
end Go.Proofs.Ytmohmjanglkggaa
