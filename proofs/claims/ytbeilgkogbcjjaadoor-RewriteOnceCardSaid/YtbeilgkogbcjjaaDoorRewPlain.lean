/- Plain: heads that are dropped and set: what is got of them, and doing so once more. -/
import Derived.Test.YtbeilgkogbcjjaaDoorHeadDrops
import Derived.Test.YtbeilgkogbcjjaaDoorHeadHV
set_option linter.unusedVariables false
namespace Go.Proofs.YtbeilgkogbcjjaaDoor
open Go.RowKit

theorem hastext_sv (v : Value) (l : List ByteArray) (s : ByteArray) (w : World) (h : SV w v l) : Calls Tryd.prog 25 #[v, .string s] w fun e w' => e = .returned (.bool (hasT l s)) ∧ w = w' := by
  obtain ⟨a, c, rfl, hr⟩ := h.shape
  exact hasText_any a _ c l s w hr
theorem setAll_cons (l : List Hd) (h : Hd) (b : List Hd) : setAll l (h :: b) = setAll (setL l h) b := rfl
theorem hasN_cons (h : Hd) (b : List Hd) (s : ByteArray) : hasN (h :: b) s = (decide (h.name = s) || hasN b s) := by unfold hasN; rw [List.any_cons]
theorem setL_grow (l : List Hd) (h : Hd) : l.length ≤ (setL l h).length := by
  unfold setL
  split
  · rw [putL_len]; exact Nat.le_refl _
  · split
    · simp
    · exact Nat.le_refl _
theorem setAll_grow (b : List Hd) : ∀ l : List Hd, l.length ≤ (setAll l b).length := by
  induction b with
  | nil => intro l; exact Nat.le_refl _
  | cons h b ih => intro l; rw [setAll_cons]; exact Nat.le_trans (setL_grow l h) (ih _)
theorem getL_all_other (b : List Hd) : ∀ (l : List Hd) (s : ByteArray), hasN b s = false → getL (setAll l b) s = getL l s := by
  induction b with
  | nil => intro l s _; rfl
  | cons h b ih =>
    intro l s hs
    rw [hasN_cons, Bool.or_eq_false_iff, decide_eq_false_iff_not] at hs
    rw [setAll_cons, ih _ _ hs.2, getL_set_other _ _ _ (fun e => hs.1 e.symm)]
theorem NoDup.tail {h : Hd} {b : List Hd} (hn : NoDup (h :: b)) : NoDup b ∧ hasN b h.name = false := by
  unfold NoDup at *
  rw [List.map_cons, List.nodup_cons] at hn
  refine ⟨hn.2, ?_⟩
  cases e : hasN b h.name with
  | false => rfl
  | true =>
    obtain ⟨x, hx, hh⟩ := (hasN_iff _ _).1 e
    exact absurd (List.mem_map.2 ⟨x, hx, hh⟩) hn.1
theorem getL_all_in (b : List Hd) : ∀ (l : List Hd) (s : ByteArray), NoDup b → (setAll l b).length < 8 → hasN b s = true → getL (setAll l b) s = getL b s := by
  induction b with
  | nil => intro l s _ _ h; cases h
  | cons h b ih =>
    intro l s hn hl hs
    obtain ⟨hn1, hn2⟩ := hn.tail
    rw [setAll_cons] at hl ⊢
    rw [get_cons]
    by_cases e : h.name = s
    · subst e
      rw [if_pos rfl, getL_all_other _ _ _ hn2, getL_set_same, if_pos]
      have h1 := setAll_grow b (setL l h)
      have h2 := setL_grow l h
      exact .inr (by omega)
    · rw [if_neg e]
      rw [hasN_cons, decide_eq_false e, Bool.false_or] at hs
      exact ih _ _ hn1 hl hs
theorem setAll_mem (b : List Hd) : ∀ (l : List Hd) (x : Hd), x ∈ setAll l b → x ∈ l ∨ x ∈ b := by
  induction b with
  | nil => intro l x h; exact .inl h
  | cons h b ih =>
    intro l x hx
    rw [setAll_cons] at hx
    rcases ih _ _ hx with h1 | h1
    · rcases setL_mem h1 with h2 | h2
      · exact .inl h2
      · exact .inr (by rw [h2]; exact List.mem_cons_self)
    · exact .inr (List.mem_cons_of_mem _ h1)
theorem hasN_mem {l : List Hd} {x : Hd} (h : x ∈ l) : hasN l x.name = true := (hasN_iff _ _).2 ⟨x, h, rfl⟩
theorem perm_names {a b : List Hd} (ha : NoDup a) (hb : NoDup b) (h : ∀ s, getL a s = getL b s) : a.Perm b := by
  have h1 : ∀ x ∈ a, x ∈ b := fun x hx => getL_mem ((h x.name).symm.trans (getL_of ha hx))
  have h2 : ∀ x ∈ b, x ∈ a := fun x hx => getL_mem ((h x.name).trans (getL_of hb hx))
  rcases Nat.le_total a.length b.length with hl | hl
  · exact (perm_of_sub hb.elem h2 hl).symm
  · exact perm_of_sub ha.elem h1 hl
/-- The same names, or fewer: no longer. -/
theorem len_names {a b : List Hd} (ha : NoDup a) (hb : NoDup b) (h : ∀ x ∈ a, hasN b x.name = true) : a.length ≤ b.length := by
  induction a generalizing b with
  | nil => simp
  | cons x a ih =>
    obtain ⟨ha1, ha2⟩ := ha.tail
    have hx := h x List.mem_cons_self
    have hd : ∀ y ∈ a, hasN (dropL b [x.name]) y.name = true := fun y hy => by
      rw [hasN_drop]
      have hne : ¬ x.name = y.name := fun e => by
        have := hasN_mem hy
        rw [← e, ha2] at this
        cases this
      rw [hasT_cons, decide_eq_false hne, show hasT [] y.name = false from rfl, h y (List.mem_cons_of_mem _ hy)]
      rfl
    have h1 : a.length ≤ (dropL b [x.name]).length := ih ha1 ((List.Sublist.map _ List.filter_sublist).nodup hb : NoDup (dropL b [x.name])) hd
    have h2 : (dropL b [x.name]).length < b.length := by
      refine Nat.lt_of_le_of_ne (dropL_len _ _) fun e => ?_
      have e2 : dropL b [x.name] = b := List.filter_sublist.eq_of_length e
      have h3 := hasN_drop b [x.name] x.name
      rw [e2, hx, hasT_cons, decide_eq_true rfl] at h3
      cases h3
    simp only [List.length_cons]
    omega
/-- Dropped and set: what is got. -/
theorem turn_in {l S : List Hd} (D : List ByteArray) {s : ByteArray} (hS : NoDup S) (hl : (setAll (dropL l D) S).length < 8) (h : hasN S s = true) : getL (setAll (dropL l D) S) s = getL S s := getL_all_in _ _ _ hS hl h
theorem turn_out (l S : List Hd) (D : List ByteArray) {s : ByteArray} (h : hasN S s = false) : getL (setAll (dropL l D) S) s = if hasT D s then none else getL l s := by
  rw [getL_all_other _ _ _ h, getL_drop]
theorem turn_good {l S : List Hd} (hl : GoodL l) (hS : GoodL S) (D : List ByteArray) : GoodL (setAll (dropL l D) S) :=
  ⟨setAll_le _ 8 (Nat.le_refl _) _ (hl.drop D).len, fun x hx => by
    rcases setAll_mem _ _ _ hx with h | h
    · exact (hl.drop D).may x h
    · exact hS.may x h, setAll_nodup (hl.drop D).nd _⟩
/-- Turned once more: the same. -/
theorem turn_once {l S : List Hd} (hl : NoDup l) (hS : NoDup S) (D : List ByteArray) (h : S = [] ∨ (setAll (dropL l D) S).length < 8) :
    sameL (setAll (dropL (setAll (dropL l D) S) D) S) (setAll (dropL l D) S) = true := by
  have hdn : ∀ l : List Hd, NoDup l → NoDup (dropL l D) := fun l h => (List.Sublist.map _ List.filter_sublist).nodup h
  rcases h with h | h
  · subst h
    show sameL (dropL (dropL l D) D) (dropL l D) = true
    have e : dropL (dropL l D) D = dropL l D := by unfold dropL; rw [List.filter_filter]; simp
    rw [e]
    exact sameL_of (hdn l hl) (List.Perm.refl _)
  · have hA : NoDup (setAll (dropL l D) S) := setAll_nodup (hdn l hl) S
    have hgA := fun s => turn_in (l := l) D (s := s) hS h
    have hoA := fun s => turn_out l S D (s := s)
    generalize setAll (dropL l D) S = A at *
    have hB : NoDup (setAll (dropL A D) S) := setAll_nodup (hdn A hA) S
    have hBl : (setAll (dropL A D) S).length < 8 := by
      refine Nat.lt_of_le_of_lt (len_names hB hA fun x hx => ?_) h
      rcases setAll_mem _ _ _ hx with h1 | h1
      · exact hasN_mem (List.mem_filter.1 h1).1
      · have h2 := hgA x.name (hasN_mem h1)
        rw [← hasN_get, h2, hasN_get]
        exact hasN_mem h1
    refine sameL_of hA (perm_names hB hA fun s => ?_)
    cases hs : hasN S s with
    | true => rw [turn_in D hS hBl hs, hgA s hs]
    | false =>
      rw [turn_out _ _ _ hs]
      split
      · rename_i hd
        rw [hoA s hs, if_pos hd]
      · rfl
end Go.Proofs.YtbeilgkogbcjjaaDoor
