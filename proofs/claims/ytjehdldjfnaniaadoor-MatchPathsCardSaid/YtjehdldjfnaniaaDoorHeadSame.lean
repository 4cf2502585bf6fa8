/- Same of heads, of the reference; SameRow. -/
import Derived.Test.YtjehdldjfnaniaaDoorHeadOps
set_option linter.unusedVariables false
namespace Go.Proofs.YtjehdldjfnaniaaDoor
open Go.RowKit

def goodIn (b : List Hd) (h : Hd) : Bool := decide (getL b h.name = some h.val)
def sameL (a b : List Hd) : Bool := decide (a.length = b.length) && a.all (goodIn b)
theorem sameL_len {a b : List Hd} (h : ¬ a.length = b.length) : sameL a b = false := by unfold sameL; rw [decide_eq_false h]; rfl
theorem sameL_bad {a b : List Hd} {x : Hd} (hx : x ∈ a) (h : goodIn b x = false) : sameL a b = false := by
  unfold sameL
  rw [show a.all (goodIn b) = false from List.all_eq_false.2 ⟨x, hx, by rw [h]; simp⟩, Bool.and_false]
theorem sameL_yes {a b : List Hd} (hl : a.length = b.length) (h : (a.take a.length).all (goodIn b) = true) : sameL a b = true := by
  unfold sameL
  rw [List.take_length] at h
  rw [h, decide_eq_true hl]; rfl
theorem all_snoc {f : Hd → Bool} {l : List Hd} {k : Nat} {x : Hd} (hx : l[k]? = some x) (h : (l.take k).all f = true) (hf : f x = true) : (l.take (k + 1)).all f = true := by
  rw [List.take_add_one, hx, List.all_append, h]; simpa using hf
theorem goodIn_cases (b : List Hd) (x : Hd) : (getL b x.name = none ∧ goodIn b x = false) ∨ ∃ v, getL b x.name = some v ∧ ((v = x.val ∧ goodIn b x = true) ∨ (¬ v = x.val ∧ goodIn b x = false)) := by
  cases h : getL b x.name with
  | none => exact .inl ⟨rfl, by unfold goodIn; rw [h]; rfl⟩
  | some v =>
    refine .inr ⟨v, rfl, ?_⟩
    by_cases e : v = x.val
    · exact .inl ⟨e, by unfold goodIn; rw [h]; exact decide_eq_true (by rw [e])⟩
    · exact .inr ⟨e, by unfold goodIn; rw [h]; exact decide_eq_false (by simpa using e)⟩
theorem str_neq {x s : ByteArray} (h : ¬ x = s) : (x.toList != s.toList) = true := by
  unfold bne; rw [str_ne h]; rfl
theorem str_eq {x s : ByteArray} (h : x = s) : (x.toList != s.toList) = false := by
  unfold bne; rw [str_yes h]; rfl

def eqH (a b : Hd) : Bool := decide (a.name = b.name ∧ a.val = b.val)
theorem eqH_iff {a b : Hd} : eqH a b = true ↔ a = b := by
  obtain ⟨a1, a2⟩ := a
  obtain ⟨b1, b2⟩ := b
  simp [eqH]
def rowB (a b : List Hd) : Bool := decide (a.length = b.length) && (List.range a.length).all fun j => match a[j]?, b[j]? with
  | some x, some y => eqH x y
  | _, _ => true
theorem rowB_iff (a b : List Hd) : rowB a b = true ↔ a = b := by
  unfold rowB
  rw [Bool.and_eq_true, decide_eq_true_eq, List.all_eq_true]
  constructor
  · rintro ⟨hl, h⟩
    apply List.ext_getElem?
    intro j
    rcases Nat.lt_or_ge j a.length with hj | hj
    · obtain ⟨x, hx⟩ := get_of_lt hj
      obtain ⟨y, hy⟩ := get_of_lt (l := b) (j := j) (by omega)
      have := h j (List.mem_range.2 hj)
      rw [hx, hy] at this
      rw [hx, hy, eqH_iff.1 this]
    · rw [List.getElem?_eq_none hj, List.getElem?_eq_none (by omega)]
  · rintro rfl
    refine ⟨rfl, fun j _ => ?_⟩
    split
    · rename_i x y hx hy
      rw [hx] at hy; simp at hy; subst hy
      exact eqH_iff.2 rfl
    · rfl
theorem rowB_bad {a b : List Hd} {j : Nat} {x y : Hd} (hx : a[j]? = some x) (hy : b[j]? = some y) (h : ¬ x = y) : rowB a b = false := by
  cases hr : rowB a b
  · rfl
  · rw [rowB_iff] at hr
    subst hr
    rw [hx] at hy; simp at hy; exact absurd hy h
theorem rowB_yes {a b : List Hd} {n : Nat} (hl : a.length = n) (hl2 : b.length = n) (h : ∀ (j : Nat) (x y : Hd), j < n → a[j]? = some x → b[j]? = some y → x = y) : rowB a b = true := by
  rw [rowB_iff]
  apply List.ext_getElem?
  intro j
  rcases Nat.lt_or_ge j n with hj | hj
  · obtain ⟨x, hx⟩ := get_of_lt (l := a) (j := j) (by omega)
    obtain ⟨y, hy⟩ := get_of_lt (l := b) (j := j) (by omega)
    rw [hx, hy, h j x y hj hx hy]
  · rw [List.getElem?_eq_none (by omega), List.getElem?_eq_none (by omega)]
end Go.Proofs.YtjehdldjfnaniaaDoor
