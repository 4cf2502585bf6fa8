/- Plain: texts as lists of bytes, decimals. -/
import Derived.WalkKit
import Derived.Laws.Strings
set_option linter.unusedVariables false
namespace Go.Proofs.Ytnmcdecdgcnmbaa

def bs (l : List UInt8) : ByteArray := ⟨l.toArray⟩
theorem bs_size (l : List UInt8) : (bs l).size = l.length := by simp [bs, ByteArray.size]
theorem bs_list (l : List UInt8) : (bs l).data.toList = l := rfl
theorem bs_of (s : ByteArray) : bs s.data.toList = s := rfl
theorem bs_app (a b : List UInt8) : bs a ++ bs b = bs (a ++ b) := by
  apply ByteArray.ext; apply Array.ext'; simp [bs, ByteArray.data_append]
theorem bs_cat (a b : ByteArray) : a ++ b = bs (a.data.toList ++ b.data.toList) := by
  apply ByteArray.ext; apply Array.ext'; simp [bs, ByteArray.data_append]
theorem bs_take (l : List UInt8) (k : Nat) : (bs l).extract 0 k = bs (l.take k) := by
  apply ByteArray.ext; apply Array.ext'; simp [bs]
theorem bs_drop (l : List UInt8) (k : Nat) : (bs l).extract k (bs l).size = bs (l.drop k) := by
  apply ByteArray.ext; apply Array.ext'; simp [bs]
  exact List.take_of_length_le (by simp [ByteArray.size])
theorem ext_take (s : ByteArray) (k : Nat) : s.extract 0 k = bs (s.data.toList.take k) := by
  apply ByteArray.ext; apply Array.ext'; simp [bs]
theorem ext_drop (s : ByteArray) (k : Nat) : s.extract k s.size = bs (s.data.toList.drop k) := by
  apply ByteArray.ext; apply Array.ext'; simp [bs]
  exact List.take_of_length_le (by simp)
theorem ba_len (s : ByteArray) : s.data.toList.length = s.size := by simp
theorem str_beq (x y : ByteArray) : (x.toList == y.toList) = decide (x.data.toList = y.data.toList) := by
  rw [ByteArray.toList_eq, ByteArray.toList_eq]
  by_cases h : x.data.toList = y.data.toList
  · rw [decide_eq_true h]; exact beq_iff_eq.2 h
  · rw [decide_eq_false h]; exact beq_eq_false_iff_ne.2 h
theorem bs_inj {a b : List UInt8} (h : bs a = bs b) : a = b := by
  have : (bs a).data.toList = (bs b).data.toList := by rw [h]
  simpa [bs] using this

def digN (n : Nat) : List UInt8 := if n < 10 then [UInt8.ofNat (48 + n)] else digN (n / 10) ++ [UInt8.ofNat (48 + n % 10)]
termination_by n
def decL (n : Int) : List UInt8 := if n < 0 then 45 :: digN n.natAbs else digN n.natAbs
theorem digN_lt {n : Nat} (h : n < 10) : digN n = [UInt8.ofNat (48 + n)] := by rw [digN, if_pos h]
theorem digN_ge {n : Nat} (h : ¬ n < 10) : digN n = digN (n / 10) ++ [UInt8.ofNat (48 + n % 10)] := by rw [digN, if_neg h]
theorem decL_small {n : Int} (h0 : 0 ≤ n) (h : n < 10) : decL n = [UInt8.ofNat (48 + n).toNat] := by
  unfold decL; rw [if_neg (by omega), digN_lt (by omega), show 48 + n.natAbs = (48 + n).toNat from by omega]
theorem decL_big {n : Int} (h : 10 ≤ n) : decL n = decL (n / 10) ++ [UInt8.ofNat (48 + n % 10).toNat] := by
  unfold decL
  rw [if_neg (by omega), if_neg (by omega), digN_ge (by omega), show n.natAbs / 10 = (n / 10).natAbs from by omega, show 48 + n.natAbs % 10 = (48 + n % 10).toNat from by omega]
theorem decL_neg {n : Int} (h0 : n < 0) (h : -10 < n) : decL n = 45 :: [UInt8.ofNat (48 + -(n.tmod 10)).toNat] := by
  have e : n.tmod 10 = n := by
    have h1 : (-n).tmod 10 = -n := by rw [Int.tmod_eq_emod_of_nonneg (by omega)]; exact Int.emod_eq_of_lt (by omega) (by omega)
    rw [Int.neg_tmod] at h1; omega
  unfold decL; rw [if_pos h0, digN_lt (by omega), e, show 48 + n.natAbs = (48 + -n).toNat from by omega]
theorem decL_low {n : Int} (h : n ≤ -10) : decL n = decL (n.tdiv 10) ++ [UInt8.ofNat (48 + -(n.tmod 10)).toNat] := by
  have h1 : (-n).tmod 10 = (-n) % 10 := Int.tmod_eq_emod_of_nonneg (by omega)
  have h2 : (-n).tdiv 10 = (-n) / 10 := Int.tdiv_eq_ediv_of_nonneg (by omega)
  rw [Int.neg_tmod] at h1
  rw [Int.neg_tdiv] at h2
  have h3 : n.tdiv 10 < 0 := by omega
  unfold decL
  rw [if_pos (by omega), if_pos h3, digN_ge (by omega), show n.natAbs / 10 = (n.tdiv 10).natAbs from by omega, show 48 + n.natAbs % 10 = (48 + -(n.tmod 10)).toNat from by omega]
  rfl
theorem digN_len (n : Nat) : 1 ≤ (digN n).length := by
  rw [digN]; split <;> simp
theorem digN_len_le (k : Nat) : ∀ n, n < 10 ^ (k + 1) → (digN n).length ≤ k + 1 := by
  induction k with
  | zero => intro n h; rw [digN_lt (by omega)]; simp
  | succ k ih =>
    intro n h
    by_cases hn : n < 10
    · rw [digN_lt hn]; simp
    · rw [digN_ge hn]
      have := ih (n / 10) (by rw [Nat.pow_succ] at h; omega)
      simp; omega
theorem decL_len {n : Int} (h0 : -9223372036854775808 ≤ n) (h1 : n ≤ 9223372036854775807) : (decL n).length ≤ 20 := by
  have := digN_len_le 18 n.natAbs (by omega)
  unfold decL; split <;> simp <;> omega
end Go.Proofs.Ytnmcdecdgcnmbaa
