/- The hash of a text, as the program and the document have it. -/
import Derived.Test.YtdamhohoeobfgaaDoorLib
set_option linter.unusedVariables false
namespace Go.Proofs.YtdamhohoeobfgaaDoor
open Go.RowKit

def hashStep (h : Nat) (c : UInt8) : Nat := (h ^^^ c.toNat) * 1099511628211 % 18446744073709551616
def hashN (l : List UInt8) : Nat := l.foldl hashStep 14695981039346656037
theorem hashStep_lt (h : Nat) (c : UInt8) : hashStep h c < 18446744073709551616 := by unfold hashStep; omega
theorem hashN_lt (l : List UInt8) : hashN l < 18446744073709551616 := by
  rcases List.eq_nil_or_concat l with rfl | ⟨l, c, rfl⟩
  · decide
  · unfold hashN; rw [List.concat_eq_append, List.foldl_append, List.foldl_cons, List.foldl_nil]; exact hashStep_lt _ _
theorem hashN_snoc (l : List UInt8) (c : UInt8) : hashN (l ++ [c]) = hashStep (hashN l) c := by unfold hashN; rw [List.foldl_append, List.foldl_cons, List.foldl_nil]
theorem hash_walk (h : Nat) (c : UInt8) (hh : h < 18446744073709551616) : IntKind.u64.wrap (bits .xor .u64 (h : Int) (IntKind.u64.wrap (c.toNat : Int)) * 1099511628211) = ((hashStep h c : Nat) : Int) := by
  have hc := c.toNat_lt
  have e : IntKind.u64.wrap (c.toNat : Int) = (c.toNat : Int) := by rw [IntKind.wrap_u64]; omega
  rw [e, bits_xor_u64_nat h c.toNat hh (by omega), IntKind.wrap_u64]
  unfold hashStep
  omega
theorem hash_walk' (h : Nat) (c : UInt8) (hh : h < 18446744073709551616) : IntKind.u64.wrap (bits .xor .u64 (h : Int) (c.toNat : Int) * 1099511628211) = ((hashStep h c : Nat) : Int) := by
  have h1 := hash_walk h c hh
  have e : IntKind.u64.wrap (c.toNat : Int) = (c.toNat : Int) := by have := c.toNat_lt; rw [IntKind.wrap_u64]; omega
  rwa [e] at h1
theorem hashN_zero (l : List UInt8) : (14695981039346656037 : Int) = ((hashN (l.take 0) : Nat) : Int) := rfl
attribute [irreducible] hashStep hashN
theorem take_snoc8 (s : ByteArray) (k : Nat) (h : k < s.size) : s.data.toList.take (k + 1) = s.data.toList.take k ++ [s[k]] := by
  rw [List.take_succ_eq_append_getElem (by simpa using h)]; rfl

set_option maxHeartbeats 400000 in
theorem hash_any (s : ByteArray) (w : World) (hs : s.size ≤ maxLen) :
    Calls Tryd.prog 25 #[.string s] w fun e w' => e = .returned (.int .u64 (hashN s.data.toList : Nat)) ∧ w = w' := by
  unfold maxLen at hs
  go_enter Tryd.func25, Tryd.ntmps25
  go_wp2
  go_loop [3, 7] (fun h i => ∃ k : Nat, k ≤ s.size ∧ i = .int .i64 k ∧ h = .int .u64 (hashN (s.data.toList.take k) : Nat)) (fun _ i => s.size - (intOf i).toNat)
  case atStart => exact ⟨0, Nat.zero_le _, rfl, congrArg (Value.int .u64) (hashN_zero _)⟩
  case round =>
    obtain ⟨k, hk, rfl, rfl⟩ := hrel
    by_cases hlt : k < s.size
    · have hw := hash_walk (hashN (s.data.toList.take k)) s[k] (hashN_lt _)
      have ht : hashN (s.data.toList.take (k + 1)) = hashStep (hashN (s.data.toList.take k)) s[k] := by rw [take_snoc8 s k hlt, hashN_snoc]
      have Hw := Lib.hid hw
      have Ht := Lib.hid ht
      clear hw ht
      go_wp2
      go_round
      case rel => exact ⟨k + 1, by omega, by go_num, by rw [Ht.out, ← Hw.out]⟩
      case measure => simp [intOf]; omega
    · have hfull : hashN (s.data.toList.take k) = hashN s.data.toList := by rw [List.take_of_length_le (by simp; omega)]
      have Hfull := Lib.hid hfull
      clear hfull
      go_wp2
      go_ret
      exact ⟨congrArg (fun x : Nat => Ending.returned (.int .u64 (x : Int))) Hfull.out, rfl⟩

set_option maxHeartbeats 400000 in
theorem ref_hash (s : ByteArray) (w : World) (hs : s.size ≤ maxLen) :
    Calls Tryd.prog 29 #[.string s] w fun e w' => e = .returned (.int .u64 (hashN s.data.toList : Nat)) ∧ w = w' := by
  unfold maxLen at hs
  go_enter Tryd.func29, Tryd.ntmps29
  go_wp2
  go_loop [3, 4] (fun h i => ∃ k : Nat, k ≤ s.size ∧ i = .int .i64 k ∧ h = .int .u64 (hashN (s.data.toList.take k) : Nat)) (fun _ i => s.size - (intOf i).toNat)
  case atStart => exact ⟨0, Nat.zero_le _, rfl, congrArg (Value.int .u64) (hashN_zero _)⟩
  case round =>
    obtain ⟨k, hk, rfl, rfl⟩ := hrel
    by_cases hlt : k < s.size
    · have hw := hash_walk (hashN (s.data.toList.take k)) s[k] (hashN_lt _)
      have ht : hashN (s.data.toList.take (k + 1)) = hashStep (hashN (s.data.toList.take k)) s[k] := by rw [take_snoc8 s k hlt, hashN_snoc]
      have Hw := Lib.hid hw
      have Ht := Lib.hid ht
      clear hw ht
      go_wp2
      go_round
      case rel => exact ⟨k + 1, by omega, by go_num, by rw [Ht.out, ← Hw.out]⟩
      case measure => simp [intOf]; omega
    · have hfull : hashN (s.data.toList.take k) = hashN s.data.toList := by rw [List.take_of_length_le (by simp; omega)]
      have Hfull := Lib.hid hfull
      clear hfull
      go_wp2
      go_ret
      exact ⟨congrArg (fun x : Nat => Ending.returned (.int .u64 (x : Int))) Hfull.out, rfl⟩
end Go.Proofs.YtdamhohoeobfgaaDoor
