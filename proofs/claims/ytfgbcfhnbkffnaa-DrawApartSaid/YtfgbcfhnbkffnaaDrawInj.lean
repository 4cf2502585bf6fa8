/- Plain: the scramble is one to one, and so are the steps of a seed. -/
import Derived.Test.YtfgbcfhnbkffnaaDrawPlain
namespace Go.Proofs.Ytfgbcfhnbkffnaa

theorem xs_inj (k : Nat) (hk : 0 < k) (x y : Nat) (hx : x < 2 ^ 64) (hy : y < 2 ^ 64) (h : x ^^^ x / 2 ^ k = y ^^^ y / 2 ^ k) : x = y := by
  have key : ∀ n i, 64 - i = n → x.testBit i = y.testBit i := by
    intro n
    induction n using Nat.strongRecOn with
    | _ n ih =>
      intro i hi
      by_cases h64 : 64 ≤ i
      · rw [Nat.testBit_lt_two_pow (Nat.lt_of_lt_of_le hx (Nat.pow_le_pow_right (by decide) h64)), Nat.testBit_lt_two_pow (Nat.lt_of_lt_of_le hy (Nat.pow_le_pow_right (by decide) h64))]
      · have h1 : x.testBit (k + i) = y.testBit (k + i) := ih (64 - (k + i)) (by omega) (k + i) rfl
        have h2 := congrArg (fun z => z.testBit i) h
        simp only [Nat.testBit_xor, ← Nat.shiftRight_eq_div_pow, Nat.testBit_shiftRight, h1] at h2
        revert h2
        cases x.testBit i <;> cases y.testBit i <;> cases y.testBit (k + i) <;> simp
  exact Nat.eq_of_testBit_eq fun i => key _ i rfl

theorem mul_inj (C D x y : Nat) (hCD : C * D % 18446744073709551616 = 1) (hx : x < 18446744073709551616) (hy : y < 18446744073709551616)
    (h : x * C % 18446744073709551616 = y * C % 18446744073709551616) : x = y := by
  have key : ∀ z, z < 18446744073709551616 → z * C % 18446744073709551616 * D % 18446744073709551616 = z := by
    intro z hz
    rw [Nat.mod_mul_mod, Nat.mul_assoc, Nat.mul_mod, hCD, Nat.mul_one, Nat.mod_mod, Nat.mod_eq_of_lt hz]
  rw [← key x hx, ← key y hy, h]

theorem xor_shift_lt (x k : Nat) (hx : x < 18446744073709551616) : x ^^^ x / k < 18446744073709551616 := by
  have h : x < 2 ^ 64 := by omega
  have := Nat.xor_lt_two_pow h (Nat.lt_of_le_of_lt (Nat.div_le_self x k) h)
  omega
theorem scrA_inj (x y : Nat) (hx : x < 18446744073709551616) (hy : y < 18446744073709551616) (h : scrA x = scrA y) : x = y := by
  unfold scrA at h
  exact xs_inj 30 (by decide) x y (by omega) (by omega) (mul_inj _ 10871156337175269513 _ _ (by decide) (xor_shift_lt _ _ hx) (xor_shift_lt _ _ hy) h)
theorem scrB_inj (x y : Nat) (hx : x < 18446744073709551616) (hy : y < 18446744073709551616) (h : scrB x = scrB y) : x = y := by
  unfold scrB at h
  exact xs_inj 27 (by decide) x y (by omega) (by omega) (mul_inj _ 3573116690164977347 _ _ (by decide) (xor_shift_lt _ _ hx) (xor_shift_lt _ _ hy) h)
theorem scr_inj (x y : Nat) (hx : x < 18446744073709551616) (hy : y < 18446744073709551616) (h : scr x = scr y) : x = y := by
  unfold scr scrC at h
  have a1 : ∀ z, scrA z < 18446744073709551616 := fun z => by unfold scrA; omega
  have a2 : ∀ z, scrB z < 18446744073709551616 := fun z => by unfold scrB; omega
  have h1 := xs_inj 31 (by decide) _ _ (by have := a2 (scrA x); omega) (by have := a2 (scrA y); omega) h
  exact scrA_inj x y hx hy (scrB_inj _ _ (a1 x) (a1 y) h1)
theorem stepped_inj (x y : Nat) (hx : x < 18446744073709551616) (hy : y < 18446744073709551616) (h : stepped x = stepped y) : x = y := by
  unfold stepped at h; omega
theorem xor_cancel (a b c : Nat) (h : a ^^^ b = a ^^^ c) : b = c := by
  have := congrArg (fun z => a ^^^ z) h
  simpa [← Nat.xor_assoc] using this
theorem xor_lt64 (a b : Nat) (ha : a < 18446744073709551616) (hb : b < 18446744073709551616) : a ^^^ b < 18446744073709551616 := by
  have h1 : a < 2 ^ 64 := by omega
  have h2 : b < 2 ^ 64 := by omega
  have := Nat.xor_lt_two_pow h1 h2
  omega

def walked : Nat → Nat → Nat
  | 0, s => s
  | k + 1, s => stepped (walked k s)
theorem walked_eq (k s : Nat) (hs : s < 18446744073709551616) : walked k s = (s + k * 11400714819323198485) % 18446744073709551616 := by
  induction k with
  | zero => simp [walked]; omega
  | succ k ih =>
    unfold walked stepped
    rw [ih]
    omega
theorem step_ne : ∀ d, d < 41 → d ≠ 0 → d * 11400714819323198485 % 18446744073709551616 ≠ 0 := by decide +kernel
theorem mod_shift (s e d M : Nat) (h : (s + e) % M = (s + (e + d)) % M) : d % M = 0 := by
  rw [← Nat.add_assoc] at h
  have h1 : (s + e + d - (s + e)) % M = 0 := Nat.sub_mod_eq_zero_of_mod_eq h.symm
  rwa [Nat.add_sub_cancel_left] at h1
theorem walked_ne (s j k : Nat) (hs : s < 18446744073709551616) (hjk : j < k) (hk : k ≤ 40) : walked j s ≠ walked k s := by
  intro h
  obtain ⟨d, rfl⟩ : ∃ d, k = j + d := ⟨k - j, by omega⟩
  have h1 : d < 41 := by omega
  have h2 : d ≠ 0 := by omega
  rw [walked_eq _ _ hs, walked_eq _ _ hs, Nat.add_mul] at h
  have h3 := mod_shift _ _ _ _ h
  exact step_ne d h1 h2 h3
theorem walked_lt (k s : Nat) (hs : s < 18446744073709551616) : walked k s < 18446744073709551616 := by rw [walked_eq _ _ hs]; omega
/-- The k-th number of a seed. -/
def numb (s k : Nat) : Nat := scr (walked (k + 1) s)
theorem numb_ne (s j k : Nat) (hs : s < 18446744073709551616) (hjk : j < k) (hk : k < 40) : numb s j ≠ numb s k := by
  intro h
  exact walked_ne s (j + 1) (k + 1) hs (by omega) (by omega) (scr_inj _ _ (walked_lt _ _ hs) (walked_lt _ _ hs) h)

theorem mixed_inj_b (a b c : Nat) (hb : b < 18446744073709551616) (hc : c < 18446744073709551616) (h : scr (stepped (scr (stepped a) ^^^ b)) = scr (stepped (scr (stepped a) ^^^ c))) : b = c := by
  have l : ∀ z, stepped z < 18446744073709551616 := fun z => by unfold stepped; omega
  exact xor_cancel _ _ _ (stepped_inj _ _ (xor_lt64 _ _ (scr_lt _) hb) (xor_lt64 _ _ (scr_lt _) hc) (scr_inj _ _ (l _) (l _) h))
theorem mixed_inj_a (a b c : Nat) (ha : a < 18446744073709551616) (hb : b < 18446744073709551616) (hc : c < 18446744073709551616) (h : scr (stepped (scr (stepped a) ^^^ c)) = scr (stepped (scr (stepped b) ^^^ c))) : a = b := by
  have l : ∀ z, stepped z < 18446744073709551616 := fun z => by unfold stepped; omega
  have h1 := stepped_inj _ _ (xor_lt64 _ _ (scr_lt _) hc) (xor_lt64 _ _ (scr_lt _) hc) (scr_inj _ _ (l _) (l _) h)
  rw [Nat.xor_comm _ c, Nat.xor_comm _ c] at h1
  exact stepped_inj _ _ ha hb (scr_inj _ _ (l _) (l _) (xor_cancel _ _ _ h1))
attribute [irreducible] walked numb
end Go.Proofs.Ytfgbcfhnbkffnaa
