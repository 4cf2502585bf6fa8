/- Plain: decimals read again; the last place of a byte. -/
import Derived.Test.YtnmcdecdgcnmbaaTracePlain
set_option linter.unusedVariables false
namespace Go.Proofs.Ytnmcdecdgcnmbaa

/-- The place behind the last one of a byte; 0: there is none. -/
def lastN (c : UInt8) : List UInt8 → Nat
  | [] => 0
  | a :: l => if lastN c l = 0 then (if a = c then 1 else 0) else lastN c l + 1
theorem lastN_zero {c : UInt8} {l : List UInt8} : lastN c l = 0 ↔ c ∉ l := by
  induction l with
  | nil => simp [lastN]
  | cons a l ih =>
    unfold lastN
    by_cases h : lastN c l = 0
    · rw [if_pos h]
      have := ih.1 h
      by_cases ha : a = c
      · subst ha; simp
      · simp [ha, this]; exact fun e => ha e.symm
    · rw [if_neg h]
      have h2 : c ∈ l := Classical.byContradiction fun hc => h (ih.2 hc)
      simp [h2]
theorem lastN_app (c : UInt8) (x y : List UInt8) (h : c ∉ y) : lastN c (x ++ c :: y) = x.length + 1 := by
  induction x with
  | nil =>
    show lastN c (c :: y) = _
    unfold lastN
    rw [if_pos (lastN_zero.2 h), if_pos rfl]; rfl
  | cons a x ih =>
    show lastN c (a :: (x ++ c :: y)) = _
    unfold lastN
    rw [ih, if_neg (by omega)]; simp
theorem lastN_none (c : UInt8) (x y : List UInt8) (h : c ∉ y) (hx : c ∉ x) : lastN c (x ++ y) = 0 := lastN_zero.2 (by simp [h, hx])
theorem lastN_split {c : UInt8} {l : List UInt8} {k : Nat} (h : lastN c l = k + 1) : k < l.length ∧ l = l.take k ++ c :: l.drop (k + 1) ∧ c ∉ l.drop (k + 1) := by
  induction l generalizing k with
  | nil => simp [lastN] at h
  | cons a l ih =>
    unfold lastN at h
    by_cases h0 : lastN c l = 0
    · rw [if_pos h0] at h
      by_cases ha : a = c
      · rw [if_pos ha] at h
        obtain rfl : k = 0 := by omega
        subst ha
        exact ⟨by simp, by simp, by simpa using lastN_zero.1 h0⟩
      · rw [if_neg ha] at h; omega
    · rw [if_neg h0] at h
      obtain ⟨j, rfl⟩ : ∃ j, k = j + 1 := ⟨k - 1, by omega⟩
      obtain ⟨h1, h2, h3⟩ := ih (k := j) (by omega)
      refine ⟨by simp; omega, ?_, by simpa using h3⟩
      have : a :: l = a :: (l.take j ++ c :: l.drop (j + 1)) := by rw [← h2]
      simpa using this

theorem dval_app1 (l : List UInt8) (c : UInt8) : dval (l ++ [c]) = 10 * dval l + ((c.toNat : Int) - 48) := by
  unfold dval; rw [List.foldl_append]; rfl
theorem snoc_of {l : List UInt8} (h : l ≠ []) : ∃ x c, l = x ++ [c] := by
  refine ⟨l.dropLast, l.getLast h, ?_⟩
  exact (List.dropLast_concat_getLast h).symm
theorem digit_bd {c : UInt8} (h : isDig c = true) : 48 ≤ (c.toNat : Int) ∧ (c.toNat : Int) ≤ 57 := by
  unfold isDig at h; simp only [decide_eq_true_eq] at h; omega
theorem dval_bd (n : Nat) : ∀ l : List UInt8, l.length = n → (∀ c ∈ l, isDig c = true) → 0 ≤ dval l ∧ dval l < 10 ^ n := by
  induction n with
  | zero =>
    intro l hl _
    have : l = [] := List.eq_nil_of_length_eq_zero hl
    subst this
    simp [dval]
  | succ n ih =>
    intro l hl hd
    obtain ⟨x, c, rfl⟩ := snoc_of (show l ≠ [] from fun e => by subst e; simp at hl)
    have h1 := ih x (by simp at hl; omega) (fun c hc => hd c (by simp [hc]))
    have h2 := digit_bd (hd c (by simp))
    rw [dval_app1, Int.pow_succ]
    omega
theorem dval_low (n : Nat) : ∀ l : List UInt8, l.length = n + 1 → (∀ c ∈ l, isDig c = true) → l.head? ≠ some 48 → 10 ^ n ≤ dval l := by
  induction n with
  | zero =>
    intro l hl hd hh
    obtain ⟨a, rfl⟩ : ∃ a, l = [a] := by
      cases l with
      | nil => simp at hl
      | cons a l => cases l with
        | nil => exact ⟨a, rfl⟩
        | cons => simp at hl
    have h2 := digit_bd (hd a (by simp))
    have h3 : a ≠ 48 := by simpa using hh
    have h4 : a.toNat ≠ 48 := fun e => h3 (UInt8.toNat_inj.1 (by rw [e]; rfl))
    simp [dval, dstep]; omega
  | succ n ih =>
    intro l hl hd hh
    obtain ⟨x, c, rfl⟩ := snoc_of (show l ≠ [] from fun e => by subst e; simp at hl)
    have hx : x.length = n + 1 := by simp at hl; omega
    have h1 := ih x hx (fun c hc => hd c (by simp [hc])) (by
      cases x with
      | nil => simp at hx
      | cons a x => simpa using hh)
    have h2 := digit_bd (hd c (by simp))
    rw [dval_app1, Int.pow_succ]
    omega
theorem dec_dval (n : Nat) : ∀ l : List UInt8, l.length = n + 1 → (∀ c ∈ l, isDig c = true) → (n = 0 ∨ l.head? ≠ some 48) → decL (dval l) = l := by
  induction n with
  | zero =>
    intro l hl hd _
    obtain ⟨a, rfl⟩ : ∃ a, l = [a] := by
      cases l with
      | nil => simp at hl
      | cons a l => cases l with
        | nil => exact ⟨a, rfl⟩
        | cons => simp at hl
    have h2 := digit_bd (hd a (by simp))
    have e : dval [a] = (a.toNat : Int) - 48 := by simp [dval, dstep]
    rw [e, decL_small (by omega) (by omega)]
    congr 1
    rw [show (48 + ((a.toNat : Int) - 48)).toNat = a.toNat from by omega]
    exact UInt8.ofNat_toNat
  | succ n ih =>
    intro l hl hd hh
    obtain ⟨x, c, rfl⟩ := snoc_of (show l ≠ [] from fun e => by subst e; simp at hl)
    have hx : x.length = n + 1 := by simp at hl; omega
    have hh2 : x.head? ≠ some 48 := by
      rcases hh with h | h
      · omega
      · cases x with
        | nil => simp at hx
        | cons a x => simpa using h
    have h0 := ih x hx (fun c hc => hd c (by simp [hc])) (.inr hh2)
    have h1 := dval_low n x hx (fun c hc => hd c (by simp [hc])) hh2
    have h2 := digit_bd (hd c (by simp))
    have h3 : (1 : Int) ≤ 10 ^ n := by have := Int.pow_pos (n := 10) (m := n) (by omega); omega
    rw [dval_app1, decL_big (by omega), show (10 * dval x + ((c.toNat : Int) - 48)) / 10 = dval x from by omega, h0]
    congr 2
    rw [show (48 + (10 * dval x + ((c.toNat : Int) - 48)) % 10).toNat = c.toNat from by omega]
    exact UInt8.ofNat_toNat
theorem digN_head (k : Nat) : ∀ n, n ≤ k → 0 < n → (digN n).head? ≠ some 48 := by
  induction k with
  | zero => intro n h h0; omega
  | succ k ih =>
    intro n h h0
    by_cases hn : n < 10
    · rw [digN_lt hn]
      have : n = 1 ∨ n = 2 ∨ n = 3 ∨ n = 4 ∨ n = 5 ∨ n = 6 ∨ n = 7 ∨ n = 8 ∨ n = 9 := by omega
      rcases this with rfl | rfl | rfl | rfl | rfl | rfl | rfl | rfl | rfl <;> decide
    · rw [digN_ge hn]
      have := ih (n / 10) (by omega) (by omega)
      cases hd : digN (n / 10) with
      | nil => have := digN_len (n / 10); rw [hd] at this; simp at this
      | cons a l => rw [hd] at this; simpa using this
/-- A text of digits is a decimal just if it is written as the reference writes its number. -/
theorem isDec_iff (least : Int) (l : List UInt8) (hd : ∀ c ∈ l, isDig c = true) (h0 : l ≠ []) : isDec least l = (decide (least ≤ dval l) && decide (dval l ≤ 2147483647) && decide (decL (dval l) = l)) := by
  have hl : ∃ n, l.length = n + 1 := ⟨l.length - 1, by have := List.length_pos_iff.2 h0; omega⟩
  obtain ⟨n, hn⟩ := hl
  have ha : l.all isDig = true := List.all_eq_true.2 hd
  have hz : l.isEmpty = false := by cases l with
    | nil => exact absurd rfl h0
    | cons => rfl
  have hx : (l.length == 1 || l.head? != some 48) = decide (decL (dval l) = l) := by
    by_cases h : n = 0 ∨ l.head? ≠ some 48
    · rw [decide_eq_true (dec_dval n l hn hd h)]
      rcases h with h | h
      · subst h; simp [hn]
      · simp [h]
    · have h1 : ¬ n = 0 := fun e => h (.inl e)
      have h2 : l.head? = some 48 := Classical.byContradiction fun e => h (.inr e)
      have h3 : ¬ decL (dval l) = l := by
        intro e
        have hb := (dval_bd (n + 1) l hn hd).1
        by_cases hp : dval l = 0
        · rw [hp] at e
          have : l.length = 1 := by rw [← e]; simp [decL, digN_lt (show 0 < 10 from by omega)]
          omega
        · have h4 := digN_head (dval l).natAbs _ (Nat.le_refl _) (by omega)
          rw [← e] at h2
          unfold decL at h2
          rw [if_neg (by omega)] at h2
          exact h4 h2
      rw [decide_eq_false h3]
      simp [h2]; omega
  unfold isDec okD
  rw [ha, hz, hx]
  cases decide (decL (dval l) = l) <;> cases decide (dval l ≤ 2147483647) <;> cases decide (least ≤ dval l) <;> rfl
theorem isDec_long (least : Int) (l : List UInt8) (h : 10 < l.length) : isDec least l = false := by
  cases hi : isDec least l
  · rfl
  · exfalso
    unfold isDec okD at hi
    simp only [Bool.and_eq_true, decide_eq_true_eq, Bool.or_eq_true] at hi
    obtain ⟨ha, ⟨⟨_, hx⟩, hm⟩, _⟩ := hi
    have hd := List.all_eq_true.1 ha
    obtain ⟨n, hn⟩ : ∃ n, l.length = n + 11 := ⟨l.length - 11, by omega⟩
    rcases hx with hx | hx
    · simp [hn] at hx
    · have h1 := dval_low (n + 10) l hn hd (by simpa using hx)
      have h2 : (10 : Int) ^ (n + 10) = 10 ^ n * 10000000000 := by rw [Int.pow_add]; rfl
      have h3 : (1 : Int) ≤ 10 ^ n := by have := Int.pow_pos (n := 10) (m := n) (by omega); omega
      omega
theorem isDec_nil (least : Int) : isDec least [] = false := by simp [isDec, okD]
theorem isDec_bad (least : Int) (l : List UInt8) (c : UInt8) (hc : c ∈ l) (h : isDig c = false) : isDec least l = false := by
  unfold isDec
  have : l.all isDig = false := by
    rw [List.all_eq_false]
    exact ⟨c, hc, by simp [h]⟩
  rw [this]; rfl
end Go.Proofs.Ytnmcdecdgcnmbaa
