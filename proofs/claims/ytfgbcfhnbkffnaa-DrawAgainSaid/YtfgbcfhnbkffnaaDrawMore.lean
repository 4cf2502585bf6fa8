/- More of package draw: Used, Hash, Mix, Below, Two. -/
import Derived.Test.YtfgbcfhnbkffnaaDraw
set_option linter.unusedVariables false
namespace Go.Proofs.Ytfgbcfhnbkffnaa
open Go.RowKit

set_option maxHeartbeats 400000 in
theorem used_any (b r : Nat) (said : List Nat) (seed used : Nat) (w : World) (h : Drw w b r said seed used) :
    Calls Try.prog 11 #[.pointer (some ⟨b, 0, none⟩)] w fun e w' => e = .returned (.int .i64 (used : Int)) ∧ w = w' := by
  obtain ⟨f, s, hb⟩ := h.blk
  have h3 := hb.cell 3
  simp at h3
  clear hb h
  go_enter Try.func11, Try.ntmps11
  go_wp2
  go_ret
  exact ⟨rfl, rfl⟩

def hashStep (h : Nat) (c : UInt8) : Nat := (h ^^^ c.toNat) * 1099511628211 % 18446744073709551616
def hashN (l : List UInt8) : Nat := l.foldl hashStep 14695981039346656037
theorem hashStep_lt (h : Nat) (c : UInt8) : hashStep h c < 18446744073709551616 := by unfold hashStep; omega
theorem hashN_lt (l : List UInt8) : hashN l < 18446744073709551616 := by
  rcases List.eq_nil_or_concat l with rfl | ⟨l, c, rfl⟩
  · decide
  · unfold hashN; rw [List.concat_eq_append, List.foldl_append, List.foldl_cons, List.foldl_nil]; exact hashStep_lt _ _
theorem hashN_snoc (l : List UInt8) (c : UInt8) : hashN (l ++ [c]) = hashStep (hashN l) c := by unfold hashN; rw [List.foldl_append, List.foldl_cons, List.foldl_nil]
theorem hash_walk (h : Nat) (c : UInt8) (hh : h < 18446744073709551616) : IntKind.u64.wrap (bits .xor .u64 (h : Int) (IntKind.u64.wrap (c.toNat : Int)) * 1099511628211) = ((hashStep h c : Nat) : Int) := by
  have hc := c.toNat_lt
  have e : IntKind.u64.wrap (c.toNat : Int) = (c.toNat : Int) := by rw [IntKind.wrap_u64]; omega
  rw [e, bits_xor_u64_nat h c.toNat hh (by omega), IntKind.wrap_u64]
  unfold hashStep
  omega
theorem hash_walk' (h : Nat) (c : UInt8) (hh : h < 18446744073709551616) : IntKind.u64.wrap (bits .xor .u64 (h : Int) (c.toNat : Int) * 1099511628211) = ((hashStep h c : Nat) : Int) := by
  have h1 := hash_walk h c hh
  have e : IntKind.u64.wrap (c.toNat : Int) = (c.toNat : Int) := by have := c.toNat_lt; rw [IntKind.wrap_u64]; omega
  rwa [e] at h1
theorem hashN_zero (l : List UInt8) : (14695981039346656037 : Int) = ((hashN (l.take 0) : Nat) : Int) := rfl
attribute [irreducible] hashStep hashN
theorem take_snoc8 (s : ByteArray) (k : Nat) (h : k < s.size) : s.data.toList.take (k + 1) = s.data.toList.take k ++ [s[k]] := by
  rw [List.take_succ_eq_append_getElem (by simpa using h)]; rfl

set_option maxHeartbeats 400000 in
theorem hash_any (s : ByteArray) (w : World) (hs : s.size ≤ maxLen) :
    Calls Try.prog 14 #[.string s] w fun e w' => e = .returned (.int .u64 (hashN s.data.toList : Nat)) ∧ w = w' := by
  unfold maxLen at hs
  go_enter Try.func14, Try.ntmps14
  go_wp2
  go_loop [3, 7] (fun h i => ∃ k : Nat, k ≤ s.size ∧ i = .int .i64 k ∧ h = .int .u64 (hashN (s.data.toList.take k) : Nat)) (fun _ i => s.size - (intOf i).toNat)
  case atStart => exact ⟨0, Nat.zero_le _, rfl, congrArg (Value.int .u64) (hashN_zero _)⟩
  case round =>
    obtain ⟨k, hk, rfl, rfl⟩ := hrel
    by_cases hlt : k < s.size
    · have hw := hash_walk (hashN (s.data.toList.take k)) s[k] (hashN_lt _)
      have ht : hashN (s.data.toList.take (k + 1)) = hashStep (hashN (s.data.toList.take k)) s[k] := by rw [take_snoc8 s k hlt, hashN_snoc]
      have Hw := Lib.hid hw
      have Ht := Lib.hid ht
      clear hw ht
      go_wp2
      go_round
      case rel => exact ⟨k + 1, by omega, by go_num, by rw [Ht.out, ← Hw.out]⟩
      case measure => simp [intOf]; omega
    · have hfull : hashN (s.data.toList.take k) = hashN s.data.toList := by rw [List.take_of_length_le (by simp; omega)]
      have Hfull := Lib.hid hfull
      clear hfull
      go_wp2
      go_ret
      exact ⟨congrArg (fun x : Nat => Ending.returned (.int .u64 (x : Int))) Hfull.out, rfl⟩

def mix (a b : Nat) : Nat := scr (stepped (scr (stepped a) ^^^ b))
theorem step_walk (s : Nat) : IntKind.u64.wrap ((s : Int) + 11400714819323198485) = ((stepped s : Nat) : Int) := by rw [IntKind.wrap_u64]; unfold stepped; omega
theorem step_walk' (s : Nat) : IntKind.u64.wrap (11400714819323198485 + (s : Int)) = ((stepped s : Nat) : Int) := by rw [Int.add_comm]; exact step_walk s
theorem stepped_lt (s : Nat) : stepped s < 18446744073709551616 := by unfold stepped; omega

set_option maxHeartbeats 400000 in
theorem mix_any (a b : Nat) (w : World) (ha : a < 18446744073709551616) (hb : b < 18446744073709551616) :
    Calls Try.prog 15 #[.int .u64 (a : Int), .int .u64 (b : Int)] w fun e w' => e = .returned (.int .u64 (mix a b : Nat)) ∧ w = w' := by
  have e1 := Lib.hid (step_walk a)
  have e2 := Lib.hid (bits_xor_u64_nat (scr (stepped a)) b (scr_lt _) hb)
  have e3 := Lib.hid (step_walk' (scr (stepped a) ^^^ b))
  go_enter Try.func15, Try.ntmps15
  go_wp2_with fail
  rw [e1.out]
  refine (scramble_any _ _ (stepped_lt _)).mono ?_
  rintro e w' ⟨rfl, rfl⟩
  go_wp2_with fail
  rw [e2.out, e3.out]
  refine (scramble_any _ _ (stepped_lt _)).mono ?_
  rintro e w' ⟨rfl, rfl⟩
  go_wp2
  go_ret
  exact ⟨rfl, rfl⟩

set_option maxHeartbeats 400000 in
theorem below_any (b r : Nat) (said : List Nat) (seed used n : Nat) (w : World) (h : Drw w b r said seed used) (hu : used < 4611686018427387904) (hn : 0 < n) (hn1 : n ≤ 9223372036854775807) :
    Calls Try.prog 17 #[.pointer (some ⟨b, 0, none⟩), .int .i64 (n : Int)] w fun e w' => e = .returned (.int .i64 ((nxt said seed % n : Nat) : Int)) ∧
      Drw w' b r said.tail (seedOn said seed) (used + 1) ∧ Frm (oneB b) w w' := by
  have h1 : ¬ (n : Int) < 1 := by omega
  have h2 : ((n : Int) == 0) = false := by simp; omega
  have hx := nxt_lt said seed h.alls
  have hm : nxt said seed % n < n := Nat.mod_lt _ hn
  have H := Lib.hid h
  clear h
  go_enter Try.func17, Try.ntmps17
  go_wp2_with fail
  refine (next_any b r said seed used _ H.out hu).mono ?_
  rintro e w' ⟨rfl, hd, hf⟩
  have Hd := Lib.hid hd
  have Hf := Lib.hid hf
  clear hd hf
  go_wp2
  go_ret
  exact ⟨by rw [Int.natCast_emod]; rfl, Hd.out, Hf.out⟩

/-- Two, as the code has it. -/
def twoOf (x y m : Nat) : Nat × Nat := (x % m, if x % m ≤ y % (m - 1) then y % (m - 1) + 1 else y % (m - 1))

set_option maxHeartbeats 400000 in
theorem two_any (b r : Nat) (said : List Nat) (seed used n : Nat) (w : World) (h : Drw w b r said seed used) (hu : used < 4611686018427387900) (hn : 2 ≤ n) (hn1 : n ≤ 9223372036854775807) :
    Calls Try.prog 19 #[.pointer (some ⟨b, 0, none⟩), .int .i64 (n : Int)] w fun e w' =>
      e = .returned (.tuple #[.int .i64 ((twoOf (nxt said seed) (nxt said.tail (seedOn said seed)) n).1 : Int), .int .i64 ((twoOf (nxt said seed) (nxt said.tail (seedOn said seed)) n).2 : Int)]) ∧
      Drw w' b r said.tail.tail (seedOn said.tail (seedOn said seed)) (used + 2) ∧ Frm (oneB b) w w' := by
  have h1 : ¬ (n : Int) < 2 := by omega
  have hm1 : nxt said seed % n < n := Nat.mod_lt _ (by omega)
  have hm2 : nxt said.tail (seedOn said seed) % (n - 1) < n - 1 := Nat.mod_lt _ (by omega)
  have es : ((n : Int) - 1) = ((n - 1 : Nat) : Int) := by omega
  have Es := Lib.hid es
  have H := Lib.hid h
  clear h es
  by_cases hc : nxt said seed % n ≤ nxt said.tail (seedOn said seed) % (n - 1)
  · have t2 : (twoOf (nxt said seed) (nxt said.tail (seedOn said seed)) n).2 = nxt said.tail (seedOn said seed) % (n - 1) + 1 := by unfold twoOf; simp [hc]
    have T2 := Lib.hid t2
    clear t2
    go_enter Try.func19, Try.ntmps19
    go_wp2_with fail
    refine (below_any b r said seed used n _ H.out (by omega) (by omega) hn1).mono ?_
    rintro e w1 ⟨rfl, hd, hf⟩
    have Hd := Lib.hid hd
    have Hf := Lib.hid hf
    clear hd hf
    go_wp2_with fail
    rw [Es.out]
    refine (below_any b r said.tail (seedOn said seed) (used + 1) (n - 1) _ Hd.out (by omega) (by omega) (by omega)).mono ?_
    rintro e w2 ⟨rfl, hd2, hf2⟩
    have Hd2 := Lib.hid hd2
    have Hf2 := Lib.hid hf2
    clear hd2 hf2
    go_wp2
    go_ret2
    refine ⟨?_, Hd2.out, Hf.out.trans Hf2.out⟩
    rw [T2.out]; rfl
  · have t2 : (twoOf (nxt said seed) (nxt said.tail (seedOn said seed)) n).2 = nxt said.tail (seedOn said seed) % (n - 1) := by unfold twoOf; simp [hc]
    have T2 := Lib.hid t2
    clear t2
    go_enter Try.func19, Try.ntmps19
    go_wp2_with fail
    refine (below_any b r said seed used n _ H.out (by omega) (by omega) hn1).mono ?_
    rintro e w1 ⟨rfl, hd, hf⟩
    have Hd := Lib.hid hd
    have Hf := Lib.hid hf
    clear hd hf
    go_wp2_with fail
    rw [Es.out]
    refine (below_any b r said.tail (seedOn said seed) (used + 1) (n - 1) _ Hd.out (by omega) (by omega) (by omega)).mono ?_
    rintro e w2 ⟨rfl, hd2, hf2⟩
    have Hd2 := Lib.hid hd2
    have Hf2 := Lib.hid hf2
    clear hd2 hf2
    go_wp2
    go_ret2
    refine ⟨?_, Hd2.out, Hf.out.trans Hf2.out⟩
    rw [T2.out]; rfl
end Go.Proofs.Ytfgbcfhnbkffnaa
