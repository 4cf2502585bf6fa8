/- Names of the reference. -/
import Derived.Test.YtnmcdecdgcnmbaaAround
import Derived.Test.YtnmcdecdgcnmbaaDecimal
import Derived.Test.YtnmcdecdgcnmbaaTraceDec
import Derived.Deep.DeepCutAuto
set_option linter.unusedVariables false
namespace Go.Proofs.Ytnmcdecdgcnmbaa
open Go.RowKit

theorem readL_tilde {x : List UInt8} {r : Int} (h : readL x = some (r, false)) : readL (x ++ [126]) = some (r, false) := by
  rw [readL_split _ _ _ isDig_126, h]; simp [goL_tilde, goL_nil]
theorem readL_colon {x d : List UInt8} {r : Int} (h : readL x = some (r, false)) (hd : isDec 1 d = true) : readL (x ++ 58 :: d) = some (r, true) := by
  rw [readL_split _ _ _ isDig_58, h]; simp [goL_colon, numL_of_dec hd, goL_nil]
theorem readL_slash {x d : List UInt8} {r : Int} (h : readL x = some (r, true)) (hd : isDec 0 d = true) : readL (x ++ 47 :: d) = some (r, false) := by
  rw [readL_split _ _ _ isDig_47, h]; simp [goL_slash, numL_of_dec hd, goL_nil]
theorem readL_dec {d : List UInt8} (hd : isDec 1 d = true) : readL d = some (dval d, false) := by
  unfold readL; rw [numL_of_dec hd]; simp [goL_nil]
theorem dec_small (least v : Int) (h0 : 0 ≤ v) (h9 : v ≤ 9) (hl : least = 0 ∨ least = 1) (hv : least ≤ v) : isDec least (decL v) = true ∧ dval (decL v) = v ∧ (decL v).length = 1 := by
  rw [decL_small h0 (by omega)]
  have : v = 0 ∨ v = 1 ∨ v = 2 ∨ v = 3 ∨ v = 4 ∨ v = 5 ∨ v = 6 ∨ v = 7 ∨ v = 8 ∨ v = 9 := by omega
  rcases hl with rfl | rfl <;> rcases this with rfl | rfl | rfl | rfl | rfl | rfl | rfl | rfl | rfl | rfl <;> first | omega | decide

def meas1 (v : Value) : Nat := (intOf v + 1).toNat
attribute [irreducible] meas1
theorem meas1_lt {a b : Int} (h : a < b) (h0 : 0 ≤ b) : meas1 (.int .i64 a) < meas1 (.int .i64 b) := by unfold meas1; simp [intOf]; omega
def NameRel (w : World) (r : Int) (kk s i : Value) (wr : World) : Prop := ∃ (k j : Int) (l : List UInt8), kk = .int .i64 k ∧ s = .string (bs l) ∧ i = .int .i64 j ∧ Hid (0 ≤ k ∧ k < 1000000) ∧ -1 ≤ j ∧ j ≤ 3 ∧ readL l = some (r, decide (j < 0)) ∧ (l.length : Int) ≤ 1 + 5 * (3 - j) ∧ 1 ≤ l.length ∧ (j < 0 → 3 ≤ l.length) ∧ Frm noB w wr
structure NameOk (l : List UInt8) : Prop where
  rd : ∃ r, readL l = some (r, true) ∧ 1 ≤ r ∧ r ≤ 3
  lo : 3 ≤ l.length
  hi : l.length ≤ 40
def NameIs (w : World) (e : Ending) (w' : World) : Prop := ∃ l, e = .returned (.string (bs l)) ∧ NameOk l ∧ Frm noB w w'
theorem cat1 (l : List UInt8) (c : UInt8) : bs l ++ (⟨#[c]⟩ : ByteArray) = bs (l ++ [c]) := bs_app l [c]

set_option maxHeartbeats 2000000 in
theorem name_any (n : Int) (w : World) (h0 : -9223372036854775808 ≤ n) (h1 : n ≤ 9223372036854775807) :
    Calls Try.prog 8 #[.int .i64 n] w (NameIs w) := by
  go_enter Try.func8, Try.ntmps8
  go_wp2_with fail
  refine (around_any n 1000000 _ h0 h1 (by omega) (by omega)).mono ?_
  rintro e w' ⟨rfl, rfl⟩
  have hk := around_lt n 1000000 (by omega)
  generalize around n 1000000 = k0 at *
  go_wp2_with fail
  refine (decimal_any (1 + (k0 : Int) % 3) _ (by omega) (by omega)).mono ?_
  rintro e w1 ⟨rfl, hf⟩
  obtain ⟨hd1, hd2, hd3⟩ := dec_small 1 (1 + (k0 : Int) % 3) (by omega) (by omega) (.inr rfl) (by omega)
  have hr := readL_dec hd1
  rw [hd2] at hr
  obtain ⟨r, hrr⟩ : ∃ r, r = 1 + (k0 : Int) % 3 := ⟨_, rfl⟩
  have hr1 : 1 ≤ r := by omega
  have hr3 : r ≤ 3 := by omega
  rw [← hrr] at hr hd3 ⊢
  have Hf := Lib.hid hf
  have Hr := Lib.hid hr
  have Hd1 := Lib.hid hd1
  have Hd2 := Lib.hid hd2
  have Hrr := Lib.hid hrr
  clear hf hr hd1 hd2 hrr
  go_wp2_with fail
  have Hk := Lib.hid hk
  clear hk
  go_loopw [3, 4, 5] (fun kk s i wr => NameRel w r kk s i wr) (fun _ _ i _ => meas1 i)
  case atStart => have hk := Hk.out; exact ⟨k0, (k0 : Int) / 3 % 4, decL r, rfl, rfl, rfl, Lib.hid (by omega), by omega, by omega, by rw [decide_eq_false (by omega)]; exact Hr.out, by rw [hd3]; omega, by omega, by omega, Hf.out⟩
  case round =>
    obtain ⟨k, j, l, rfl, rfl, rfl, Hk1, hj0, hj1, hrl, hl1, hl2, hl3, hf⟩ := hrel
    have hsz : (bs l).size ≤ 30 := by rw [bs_size]; omega
    obtain ⟨hk0, hk1⟩ := Hk1.out
    by_cases hj : 0 ≤ j
    · rw [decide_eq_false (by omega)] at hrl
      have Hrl := Lib.hid hrl
      have Hf := Lib.hid hf
      clear hrl hf
      go_upto_if 22 with fail
      go_cut [4] (fun s wx => ∃ m, s = .string (bs m) ∧ readL m = some (r, false) ∧ m.length ≤ l.length + 1 ∧ l.length ≤ m.length ∧ Frm noB w wx)
      case first =>
        generalize (k / 12 % 7 == 3) = q12 at *
        cases q12
        case true =>
          go_wp2_with fail
          go_meet
          exact ⟨l ++ [126], by rw [cat1], readL_tilde Hrl.out, by simp, by simp, Hf.out⟩
        case false =>
          go_wp2_with fail
          go_meet
          exact ⟨l, rfl, Hrl.out, by omega, by omega, Hf.out⟩
      case rest =>
        obtain ⟨m, rfl, hrm, hm1, hm2, hf⟩ := hcut
        have hsm : (bs m).size ≤ 30 := by rw [bs_size]; omega
        obtain ⟨hd1, hd2, hd3⟩ := dec_small 1 (1 + k / 84 % 2) (by omega) (by omega) (.inr rfl) (by omega)
        have hsd : (bs (decL (1 + k / 84 % 2))).size ≤ 1 := by rw [bs_size, hd3]; exact Nat.le_refl _
        have hra := readL_colon hrm hd1
        have Hrm := Lib.hid hrm
        have Hf := Lib.hid hf
        have Hra := Lib.hid hra
        have Hd1 := Lib.hid hd1
        have Hd2 := Lib.hid hd2
        have Hd3 := Lib.hid hd3
        clear hrm hf hra hd1 hd2 hd3
        go_wp2_with fail
        refine (decimal_any (1 + k / 84 % 2) _ (by omega) (by omega)).mono ?_
        rintro e w1 ⟨rfl, hf⟩
        have Hf1 := Lib.hid (Hf.out.trans hf)
        clear hf
        generalize decL (1 + k / 84 % 2) = D at *
        rw [cat1]
        have hsm2 : (bs (m ++ [58])).size ≤ 31 := by rw [bs_size, List.length_append]; simp; omega
        by_cases hj0 : 0 < j
        · obtain ⟨he1, he2, he3⟩ := dec_small 0 (k / 5 % 2) (by omega) (by omega) (.inl rfl) (by omega)
          have hse : (bs (decL (k / 5 % 2))).size ≤ 1 := by rw [bs_size, he3]; exact Nat.le_refl _
          have hrs := readL_slash Hra.out he1
          have hln : (((m ++ 58 :: D) ++ 47 :: decL (k / 5 % 2)).length : Int) = m.length + 4 := by have h1 := Hd3.out; simp only [List.length_append, List.length_cons]; rw [h1, he3]; omega
          have Hrs := Lib.hid hrs
          have He1 := Lib.hid he1
          have He2 := Lib.hid he2
          have He3 := Lib.hid he3
          have Hln := Lib.hid hln
          clear hrs he1 he2 he3 hln
          go_upto_if 36 with fail
          go_wp2_with fail
          refine (decimal_any (k / 5 % 2) _ (by omega) (by omega)).mono ?_
          rintro e w2 ⟨rfl, hf⟩
          have Hf2 := Lib.hid (Hf1.out.trans hf)
          clear hf
          generalize decL (k / 5 % 2) = D2 at *
          rw [bs_app, cat1]
          have hsz3 : (bs (m ++ [58] ++ D ++ [47])).size ≤ 33 := by rw [bs_size]; have := Hd3.out; simp; omega
          have hM : m ++ [58] ++ D ++ [47] ++ D2 = (m ++ 58 :: D) ++ 47 :: D2 := by simp
          have HM := Lib.hid hM
          clear hM
          generalize m ++ [58] ++ D ++ [47] = M at *
          have Hj0 := Lib.hid hj0
          clear hj0
          go_wp2_with fail
          go_roundw
          case rel => have hj0 := Hj0.out; exact ⟨k / 5, j - 1, (m ++ 58 :: D) ++ 47 :: D2, rfl, by rw [bs_app, HM.out], rfl, Lib.hid (by omega), by omega, by omega, by rw [decide_eq_false (by omega)]; exact Hrs.out, by rw [Hln.out]; omega, by have := Hln.out; omega, by omega, Hf2.out⟩
          case measure => exact meas1_lt (by omega) (by omega)
        · have hln : (((m ++ 58 :: D)).length : Int) = m.length + 2 := by simp [Hd3.out]
          have Hln := Lib.hid hln
          clear hln
          go_upto_if 36 with fail
          rw [show decide (0 < j) = false from decide_eq_false (by omega)]
          have Hj0 := Lib.hid hj0
          clear hj0
          go_wp2_with fail
          go_roundw
          case rel => have hj0 := Hj0.out; exact ⟨k / 5, j - 1, m ++ 58 :: D, rfl, by rw [bs_app]; simp, rfl, Lib.hid (by omega), by omega, by omega, by rw [decide_eq_true (by omega)]; exact Hra.out, by rw [Hln.out]; omega, by have := Hln.out; omega, by have := Hln.out; omega, Hf1.out⟩
          case measure => exact meas1_lt (by omega) (by omega)
    · rw [decide_eq_true (by omega)] at hrl
      have Hrl := Lib.hid hrl
      have Hf := Lib.hid hf
      clear hrl hf
      go_wp2_with fail
      go_ret
      exact ⟨l, rfl, ⟨⟨r, Hrl.out, hr1, hr3⟩, by omega, by omega⟩, Hf.out⟩
end Go.Proofs.Ytnmcdecdgcnmbaa
