/- Plain: the scramble of layer 2 on numbers. -/
import Derived.WalkKit
namespace Go.Proofs.Ytfgbcfhnbkffnaa

def M64 : Nat := 18446744073709551616
def scrA (x : Nat) : Nat := (x ^^^ x / 1073741824) * 13787848793156543929 % 18446744073709551616
def scrB (x : Nat) : Nat := (x ^^^ x / 134217728) * 10723151780598845931 % 18446744073709551616
def scrC (x : Nat) : Nat := x ^^^ x / 2147483648
def scr (x : Nat) : Nat := scrC (scrB (scrA x))
def stepped (s : Nat) : Nat := (s + 11400714819323198485) % 18446744073709551616
theorem scr_lt (x : Nat) : scr x < 18446744073709551616 := by
  have h : scrB (scrA x) < 2 ^ 64 := by unfold scrB; omega
  have h2 : scrC (scrB (scrA x)) < 2 ^ 64 := Nat.xor_lt_two_pow h (Nat.lt_of_le_of_lt (Nat.div_le_self _ _) h)
  unfold scr
  omega

theorem scr_walk (z : Nat) (h : z < 18446744073709551616) : bits .xor .u64 (IntKind.u64.wrap (bits .xor .u64 (IntKind.u64.wrap (bits .xor .u64 (z : Int) ((z : Int) / 1073741824) * 13787848793156543929)) (IntKind.u64.wrap (bits .xor .u64 (z : Int) ((z : Int) / 1073741824) * 13787848793156543929) / 134217728) * 10723151780598845931))
      (IntKind.u64.wrap (bits .xor .u64 (IntKind.u64.wrap (bits .xor .u64 (z : Int) ((z : Int) / 1073741824) * 13787848793156543929)) (IntKind.u64.wrap (bits .xor .u64 (z : Int) ((z : Int) / 1073741824) * 13787848793156543929) / 134217728) * 10723151780598845931) / 2147483648) = ((scr z : Nat) : Int) := by
  have h1 := mixStep_u64 z 1073741824 13787848793156543929 h
  have b1 : scrA z < 18446744073709551616 := by unfold scrA; omega
  have h2 := mixStep_u64 (scrA z) 134217728 10723151780598845931 b1
  have b2 : scrB (scrA z) < 18446744073709551616 := by unfold scrB; omega
  have h3 := xorShift_u64 (scrB (scrA z)) 2147483648 b2
  simp only [Int.cast_ofNat_Int] at h1 h2 h3
  rw [h1]
  show bits .xor .u64 (IntKind.u64.wrap (bits .xor .u64 (scrA z : Int) ((scrA z : Int) / 134217728) * 10723151780598845931)) _ = _
  have e : ((z ^^^ z / 1073741824) * 13787848793156543929 % 18446744073709551616 : Nat) = scrA z := rfl
  rw [e, h2]
  exact h3

-- the walk must never lay these open: their numerals are great
attribute [irreducible] scr stepped
end Go.Proofs.Ytfgbcfhnbkffnaa
