/- Heads, Some and Names of the reference. -/
import Derived.Test.YtjehdldjfnaniaaDoorHeadSet
import Derived.Test.YtjehdldjfnaniaaDoorHeadOne
import Derived.Test.YtjehdldjfnaniaaDoorIntsL
set_option linter.unusedVariables false
namespace Go.Proofs.YtjehdldjfnaniaaDoor
open Go.RowKit

def oneZ (z : Int) : Hd := oneH (around z 100000)
def genH (xs : List Int) : List Hd := xs.foldl (fun acc z => setL acc (oneZ z)) []
theorem genH_snoc {xs : List Int} {k : Nat} {x : Int} (hx : xs[k]? = some x) : genH (xs.take (k + 1)) = setL (genH (xs.take k)) (oneZ x) := by
  unfold genH
  rw [List.take_add_one, hx, List.foldl_append]; rfl
theorem genH_len (xs : List Int) : (genH xs).length ≤ 8 := by
  unfold genH
  have key : ∀ (xs : List Int) (acc : List Hd), acc.length ≤ 8 → (xs.foldl (fun acc z => setL acc (oneZ z)) acc).length ≤ 8 := by
    intro xs
    induction xs with
    | nil => intro acc h; exact h
    | cons a l ih => intro acc h; exact ih _ ((setL_len acc _).2 h)
  exact key xs [] (by simp)
theorem take_snoc {α : Type} {xs : List α} {k : Nat} {x : α} (hx : xs[k]? = some x) : xs.take (k + 1) = xs.take k ++ [x] := by rw [List.take_add_one, hx]; rfl
theorem take_end {α : Type} {xs : List α} {n k m : Nat} (hl : xs.length = n) (h : (k < n ∧ ¬ k < m) ∨ ¬ k < n) (hk : k ≤ m) : xs.take k = xs.take m := by
  rcases h with ⟨_, h⟩ | h
  · obtain rfl : k = m := by omega
    rfl
  · rw [List.take_of_length_le (by omega), List.take_of_length_le (by omega)]

def someH (xs : List Int) : List Hd := xs.map oneZ
def namesH (xs : List Int) : List ByteArray := xs.map fun z => (oneZ z).name
theorem field_hd0 (s t : ByteArray) (w : World) : (Instr.field 36 (.agg #[.string s, .string t]) 0).run Tryd.prog w = .ok (.string s) w := by kernel_rfl

set_option maxHeartbeats 1000000 in
theorem heads_any (a : Option Addr) (n c : Nat) (xs : List Int) (w : World) (h : IntsL w a n xs) :
    Calls Tryd.prog 14 #[.slice a n c] w fun e w' => ∃ v, e = .returned v ∧ Own hdE w' w.heap.size 36 v (genH (xs.take 12)) ∧ Frm noB w w' := by
  have hl := h.len
  have hn := h.most
  have Hh := Lib.hid h
  have Hl := Lib.hid hl
  clear h hl
  go_enter Tryd.func14, Tryd.ntmps14
  go_wp2_with fail
  go_loopw [3, 4] (fun o i wr => ∃ k : Nat, k ≤ n ∧ k ≤ 12 ∧ i = .int .i64 k ∧ Own hdE wr w.heap.size 36 o (genH (xs.take k)) ∧ Frm noB w wr) (fun _ i _ => n - (intOf i).toNat)
  case atStart => exact ⟨0, by omega, by omega, rfl, Own.nil _ _ _ _, Frm.refl _ _⟩
  case round =>
    obtain ⟨k, hk, hk12, rfl, ho, hf⟩ := hrel
    by_cases hgo : k < n ∧ k < 12
    · obtain ⟨hlt, hlt12⟩ := hgo
      obtain ⟨x, hx⟩ := get_of_lt (l := xs) (j := k) (by rw [Hl.out]; exact hlt)
      obtain ⟨hb0, hb1⟩ := Hh.out.bd x (List.mem_of_getElem? hx)
      obtain ⟨b, off, rfl, hbl, c0⟩ := (Hh.out.keep hf).cells k x hx
      have hsn := genH_snoc hx
      have hle := genH_len (xs.take k)
      have Ho := Lib.hid ho
      have Hf := Lib.hid hf
      have Hx := Lib.hid hx
      have Hsn := Lib.hid hsn
      have Hle := Lib.hid hle
      clear ho hf hx hsn hle
      go_wp2_with fail
      refine (one_any x _ hb0 hb1).mono ?_
      rintro e w1 ⟨rfl, hf1⟩
      have ho1 := Ho.out.keep hf1
      have hf2 := Hf.out.trans hf1
      unfold hdV
      have Ho1 := Lib.hid ho1
      have Hf2 := Lib.hid hf2
      clear ho1 hf2
      clear hf1
      go_wp2_with fail
      refine (set_any u3 (genH (xs.take k)) (oneZ x) w.heap.size _ Ho1.out (by have := Hle.out; omega)).mono ?_
      rintro e w2 ⟨v', rfl, ho2, hf3⟩
      have ho3 := ho2.base Hf2.out.size
      rw [← Hsn.out] at ho3
      have hf4 := Hf2.out.trans hf3
      have Ho3 := Lib.hid ho3
      have Hf4 := Lib.hid hf4
      clear ho3 hf4
      clear ho2 hf3
      go_wp2_with fail
      go_roundw
      case rel => exact ⟨k + 1, by omega, by omega, by go_num, Ho3.out, Hf4.out⟩
      case measure => simp [intOf]; omega
    · have hend : (k < n ∧ ¬ k < 12) ∨ ¬ k < n := by omega
      rw [take_end Hl.out hend hk12] at ho
      have Ho := Lib.hid ho
      have Hf := Lib.hid hf
      clear ho hf
      rcases hend with ⟨h1, h2⟩ | h1
      all_goals
        go_wp2_with fail
        go_ret
        exact ⟨_, rfl, Ho.out, Hf.out⟩

end Go.Proofs.YtjehdldjfnaniaaDoor
