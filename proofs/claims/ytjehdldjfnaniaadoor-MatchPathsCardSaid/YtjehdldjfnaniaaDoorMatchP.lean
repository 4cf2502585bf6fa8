/- A path that is made of a number (layer 5). -/
import Derived.Test.YtjehdldjfnaniaaDoorPathC
import Derived.Test.YtjehdldjfnaniaaDoorAround
import Derived.Test.YtjehdldjfnaniaaDoorHeadOne
import Derived.Outline
set_option linter.unusedVariables false
set_option linter.unusedSimpArgs false
namespace Go.Proofs.YtjehdldjfnaniaaDoor
open Go.RowKit

theorem join_nil {ps : List (List UInt8)} : joinP ps = [] ↔ ps = [] := by
  cases ps with
  | nil => simp [joinP]
  | cons p ps => rw [joinP_cons]; simp
theorem slash_yes {s : ByteArray} (h : s = ⟨#[47]⟩) : (s.toList == [47]) = true := by
  subst h
  rw [ByteArray.toList_eq]; exact beq_iff_eq.2 rfl
theorem empty_yes {s : ByteArray} (h : s.data.toList = []) : s.toList.isEmpty = true := by
  rw [ByteArray.toList_eq, h]; rfl
def mT : List (List UInt8) := [[97], [98], [99], [97, 98]]
def mPart (k : Nat) : List UInt8 := (mT[k % 4]?).getD []
def mRun : Nat → Nat → List (List UInt8)
  | 0, _ => []
  | i + 1, k => mPart (k / 4) :: mRun i (k / 4)
def mP (k : Nat) : List (List UInt8) := mRun (k % 4) k
/-- The parts of the path of a number. -/
def mZ (n : Int) : List (List UInt8) := mP (around n 1000000)
theorem mPart_ok (k : Nat) : okPart (mPart k) = true ∧ (mPart k).length ≤ 2 := by
  have h : k % 4 < 4 := Nat.mod_lt _ (by omega)
  unfold mPart
  have hc : k % 4 = 0 ∨ k % 4 = 1 ∨ k % 4 = 2 ∨ k % 4 = 3 := by omega
  rcases hc with h | h | h | h <;> rw [h] <;> decide
theorem mRun_ok : ∀ i k, PartsOk (mRun i k) ∧ (joinP (mRun i k)).length ≤ 3 * i := by
  intro i
  induction i with
  | zero => intro k; exact ⟨fun p hp => by simp [mRun] at hp, by simp [mRun, joinP]⟩
  | succ i ih =>
    intro k
    have h1 := mPart_ok (k / 4)
    have h2 := ih (k / 4)
    refine ⟨fun p hp => ?_, ?_⟩
    · rw [mRun, List.mem_cons] at hp
      rcases hp with rfl | hp
      · exact h1.1
      · exact h2.1 p hp
    · rw [mRun, joinP_cons, List.length_cons, List.length_append]
      have := h1.2
      have := h2.2
      omega
theorem mZ_ok (n : Int) : PartsOk (mZ n) := (mRun_ok _ _).1
theorem mZ_len (n : Int) : (pathOf (mZ n)).length ≤ 9 := by
  have h := (mRun_ok (around n 1000000 % 4) (around n 1000000)).2
  have h4 : around n 1000000 % 4 < 4 := Nat.mod_lt _ (by omega)
  unfold pathOf
  split
  · decide
  · unfold mZ mP; omega
def mB : List ByteArray := [⟨#[97]⟩, ⟨#[98]⟩, ⟨#[99]⟩, ⟨#[97, 98]⟩]
theorem mt_at (i : Nat) (h : i < 4) : mB[i]? = some (bs ((mT[i]?).getD [])) := by
  rw [show mB = mT.map bs from rfl, List.getElem?_map]
  have : i < mT.length := h
  rw [List.getElem?_eq_getElem this]; rfl
set_option maxHeartbeats 2000000 in
theorem pathof_any (n : Int) (w : World) (h0 : -9223372036854775808 ≤ n) (h1 : n ≤ 9223372036854775807) :
    Calls Tryd.prog 12 #[.int .i64 n] w fun e w' => e = .returned (.string (bs (pathOf (mZ n)))) ∧ Frm noB w w' := by
  have hq := around_lt n 1000000 (by omega)
  have har := fun w => around_any n 1000000 w h0 h1 (by omega) (by omega)
  have hz : mZ n = mRun (around n 1000000 % 4) (around n 1000000) := rfl
  generalize mZ n = Z at *
  generalize around n 1000000 = q at *
  have hq1 : q ≤ 1000000 := by omega
  clear hq
  have hq4 : q % 4 ≤ 3 := by omega
  obtain ⟨q4, hq4e⟩ : ∃ q4, q4 = q % 4 := ⟨_, rfl⟩
  rw [← hq4e] at hz hq4
  have e4 : (q : Int) % 4 = (q4 : Int) := by omega
  have Har := Lib.hid har
  have Hz := Lib.hid hz
  have Hq4e := Lib.hid hq4e
  have Hq4 := Lib.hid hq4
  clear har hz hq4e hq4
  go_enter Tryd.func12, Tryd.ntmps12
  go_wp2_with fail
  with_reducible refine (Har.out _).mono ?_
  rintro e w' ⟨rfl, rfl⟩
  go_wp2_with fail
  go_loopw [3, 4, 5] (fun kv s i wr => ∃ (j k : Nat) (acc : List (List UInt8)), kv = .int .i64 k ∧ s = .string (bs (joinP acc)) ∧ i = .int .i64 j ∧ j ≤ 3 ∧ k ≤ 1000000 ∧ Z = acc ++ mRun j k ∧ (joinP acc).length + 100 * j ≤ 300 ∧ Frm noB w wr) (fun _ _ i _ => (intOf i).toNat)
  case atStart => exact ⟨q4, q, [], rfl, rfl, by rw [e4], Hq4.out, hq1, Hz.out, by have := Hq4.out; simp [joinP]; omega, Frm.refl _ _⟩
  case round =>
    obtain ⟨j, k, acc, rfl, rfl, rfl, hj, hk, hZ, hal, hf⟩ := hrel
    clear e4
    have hal2 : (bs (joinP acc)).size ≤ 1000 := by rw [bs_size]; omega
    by_cases hlt : 0 < j
    · obtain ⟨j2, rfl⟩ : ∃ j2, j = j2 + 1 := ⟨j - 1, by omega⟩
      obtain ⟨k2, hk2⟩ : ∃ k2, k / 4 = k2 := ⟨_, rfl⟩
      obtain ⟨i, hi, hi4⟩ : ∃ i : Nat, k2 % 4 = i ∧ i < 4 := ⟨_, rfl, Nat.mod_lt _ (by omega)⟩
      have e0 : (k : Int) / 4 = (k2 : Int) := by omega
      have e1 : (k2 : Int) % 4 = (i : Int) := by omega
      have hn := mt_at i hi4
      have hpo := mPart_ok k2
      have hst : Z = (acc ++ [mPart k2]) ++ mRun j2 k2 := by
        rw [hZ, mRun, hk2, List.append_assoc]; rfl
      have hpe : (mT[i]?).getD [] = mPart k2 := by unfold mPart; rw [hi]
      rw [hpe] at hn
      have hjn : bs (joinP acc) ++ (⟨#[47]⟩ : ByteArray) ++ bs (mPart k2) = bs (joinP (acc ++ [mPart k2])) := by
        rw [joinP_app, show (⟨#[47]⟩ : ByteArray) = bs [47] from rfl, bs_app, bs_app]
        simp [joinP]
      have hal3 : (joinP (acc ++ [mPart k2])).length + 100 * j2 ≤ 300 := by
        rw [joinP_app, List.length_append]
        have : (joinP [mPart k2]).length = 1 + (mPart k2).length := by simp [joinP]; omega
        have := hpo.2
        omega
      have hz2 : (bs (mPart k2)).size ≤ 3 := by rw [bs_size]; have := hpo.2; omega
      have hk2b : k2 ≤ 1000000 := by omega
      have hn1 := cells_at hn
      generalize hO2 : bs (joinP (acc ++ [mPart k2])) = O2 at *
      generalize bs (mPart k2) = pt at *
      generalize bs (joinP acc) = O1 at *
      have hadd := fun w => run_cat O1 (⟨#[47]⟩ : ByteArray) (by have : (⟨#[47]⟩ : ByteArray).size = 1 := rfl; omega) w
      have hadd2 := fun w => (run_cat (O1 ++ (⟨#[47]⟩ : ByteArray)) pt (by rw [ByteArray.size_append]; have : (⟨#[47]⟩ : ByteArray).size = 1 := rfl; omega) w).trans (by rw [hjn])
      simp only [mB, List.map_cons, List.map_nil] at hn1
      have fb := (Frm.refl noB wr).alloc (.cells #[.string ⟨#[97]⟩, .string ⟨#[98]⟩, .string ⟨#[99]⟩, .string ⟨#[97, 98]⟩] 9)
      have hfa := hf.trans fb
      have HZ := Lib.hid hZ
      have Hal := Lib.hid hal
      have Hal2 := Lib.hid hal2
      have Hf := Lib.hid hf
      have Hi := Lib.hid hi
      have Hn := Lib.hid hn
      have Hpo := Lib.hid hpo
      have Hst := Lib.hid hst
      have Hpe := Lib.hid hpe
      have Hjn := Lib.hid hjn
      have Hal3 := Lib.hid hal3
      have Hz2 := Lib.hid hz2
      have Hk2 := Lib.hid hk2
      have Hfa := Lib.hid hfa
      have Hfb := Lib.hid fb
      have HO2 := Lib.hid hO2
      clear hZ hal hal2 hf hi hn hpo hst hpe hjn hal3 hz2 hk2 hfa fb hO2
      have Hadd := Lib.hid hadd
      have Hadd2 := Lib.hid hadd2
      clear hadd hadd2
      go_wp2_with (refine wpl_add (by rfl) _ _ (by rfl) _ _ _ (by rfl) (by rfl) (by first | exact Hadd.out _ | exact Hadd2.out _) ?_)
      go_roundw
      case rel => exact ⟨j2, k2, acc ++ [mPart k2], by first | rfl | go_num, by rw [HO2.out], by go_num, by omega, hk2b, Hst.out, Hal3.out, Hfa.out⟩
      case measure => simp [intOf]
    · obtain rfl : j = 0 := by omega
      rw [mRun, List.append_nil] at hZ
      subst hZ
      by_cases hz0 : joinP Z = []
      · have hpz : bs (pathOf Z) = ⟨#[47]⟩ := by unfold pathOf; rw [if_pos (join_nil.1 hz0)]; rfl
        rw [hz0, show bs [] = ⟨#[]⟩ from rfl]
        have Hal := Lib.hid hal
        have Hal2 := Lib.hid hal2
        have Hf := Lib.hid hf
        have Hz0 := Lib.hid hz0
        have Hpz := Lib.hid hpz
        clear hal hal2 hf hz0 hpz
        go_wp2_with fail
        go_ret
        exact ⟨by rw [Hpz.out]; rfl, Hf.out⟩
      · have hpz : bs (pathOf Z) = bs (joinP Z) := by unfold pathOf; rw [if_neg (fun e => hz0 (join_nil.2 e))]
        have e1 := empty_test (s := bs (joinP Z)) (by rw [bs_list]; exact hz0)
        have e2 : ¬ (bs (joinP Z)).toList = [] := by rw [ByteArray.toList_eq, bs_list]; exact hz0
        generalize bs (joinP Z) = Q at *
        have Hal := Lib.hid hal
        have Hal2 := Lib.hid hal2
        have Hf := Lib.hid hf
        have Hz0 := Lib.hid hz0
        have Hpz := Lib.hid hpz
        clear hal hal2 hf hz0 hpz
        go_wp2_with fail
        go_ret
        exact ⟨by rw [Hpz.out]; rfl, Hf.out⟩
end Go.Proofs.YtjehdldjfnaniaaDoor
