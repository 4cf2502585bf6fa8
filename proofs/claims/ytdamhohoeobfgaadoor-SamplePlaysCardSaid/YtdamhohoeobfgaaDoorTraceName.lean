/- Names of the reference. -/
import Derived.Test.YtdamhohoeobfgaaDoorAround
import Derived.Test.YtdamhohoeobfgaaDoorDecimal
import Derived.Test.YtdamhohoeobfgaaDoorTraceDec
import Derived.Deep.DeepCutAuto
set_option linter.unusedVariables false
namespace Go.Proofs.YtdamhohoeobfgaaDoor
open Go.RowKit

theorem readL_tilde {x : List UInt8} {r : Int} (h : readL x = some (r, false)) : readL (x ++ [126]) = some (r, false) := by
  rw [readL_split _ _ _ isDig_126, h]; simp [goL_tilde, goL_nil]
theorem readL_colon {x d : List UInt8} {r : Int} (h : readL x = some (r, false)) (hd : isDec 1 d = true) : readL (x ++ 58 :: d) = some (r, true) := by
  rw [readL_split _ _ _ isDig_58, h]; simp [goL_colon, numL_of_dec hd, goL_nil]
theorem readL_slash {x d : List UInt8} {r : Int} (h : readL x = some (r, true)) (hd : isDec 0 d = true) : readL (x ++ 47 :: d) = some (r, false) := by
  rw [readL_split _ _ _ isDig_47, h]; simp [goL_slash, numL_of_dec hd, goL_nil]
theorem readL_dec {d : List UInt8} (hd : isDec 1 d = true) : readL d = some (dval d, false) := by
  unfold readL; rw [numL_of_dec hd]; simp [goL_nil]
theorem dec_small (least v : Int) (h0 : 0 ≤ v) (h9 : v ≤ 9) (hl : least = 0 ∨ least = 1) (hv : least ≤ v) : isDec least (decL v) = true ∧ dval (decL v) = v ∧ (decL v).length = 1 := by
  rw [decL_small h0 (by omega)]
  have : v = 0 ∨ v = 1 ∨ v = 2 ∨ v = 3 ∨ v = 4 ∨ v = 5 ∨ v = 6 ∨ v = 7 ∨ v = 8 ∨ v = 9 := by omega
  rcases hl with rfl | rfl <;> rcases this with rfl | rfl | rfl | rfl | rfl | rfl | rfl | rfl | rfl | rfl <;> first | omega | decide

def meas1 (v : Value) : Nat := (intOf v + 1).toNat
attribute [irreducible] meas1
theorem meas1_lt {a b : Int} (h : a < b) (h0 : 0 ≤ b) : meas1 (.int .i64 a) < meas1 (.int .i64 b) := by unfold meas1; simp [intOf]; omega
def NameRel (w : World) (r : Int) (kk s i : Value) (wr : World) : Prop := ∃ (k j : Int) (l : List UInt8), kk = .int .i64 k ∧ s = .string (bs l) ∧ i = .int .i64 j ∧ Hid (0 ≤ k ∧ k < 1000000) ∧ -1 ≤ j ∧ j ≤ 3 ∧ readL l = some (r, decide (j < 0)) ∧ (l.length : Int) ≤ 1 + 5 * (3 - j) ∧ 1 ≤ l.length ∧ (j < 0 → 3 ≤ l.length) ∧ Frm noB w wr
structure NameOk (l : List UInt8) : Prop where
  rd : ∃ r, readL l = some (r, true) ∧ 1 ≤ r ∧ r ≤ 3
  lo : 3 ≤ l.length
  hi : l.length ≤ 40
def NameIs (w : World) (e : Ending) (w' : World) : Prop := ∃ l, e = .returned (.string (bs l)) ∧ NameOk l ∧ Frm noB w w'
theorem cat1 (l : List UInt8) (c : UInt8) : bs l ++ (⟨#[c]⟩ : ByteArray) = bs (l ++ [c]) := bs_app l [c]

end Go.Proofs.YtdamhohoeobfgaaDoor
