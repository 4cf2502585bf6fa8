/- Plain: which of two matches comes ahead; a forest of paths. -/
import Derived.Test.YtjehdldjfnaniaaDoorMatchRCmp
import Derived.Test.YtjehdldjfnaniaaDoorMatchFits
set_option linter.unusedVariables false
set_option linter.unusedSimpArgs false
namespace Go.Proofs.YtjehdldjfnaniaaDoor
open Go.RowKit

theorem mMp_ok (xs : List Int) : PartsOk (mMp xs) := mZ_ok _
theorem mMp_len (xs : List Int) : (pathOf (mMp xs)).length ≤ 9 := mZ_len _
theorem count_join {P : List (List UInt8)} (h : PartsOk P) : (joinP P).count 47 = P.length := by
  induction P with
  | nil => rfl
  | cons p P ih =>
    have h1 : (47 : UInt8) ∉ p := okPart_no (h p List.mem_cons_self)
    have h2 := ih (fun q hq => h q (List.mem_cons_of_mem _ hq))
    rw [joinP_cons, List.count_cons, List.count_append, List.count_eq_zero.2 h1, h2]
    simp
theorem rk1_path {P : List (List UInt8)} (h : PartsOk P) : rk1 (bs (pathOf P)) = (P.length : Int) := by
  unfold rk1
  by_cases hP : P = []
  · subst hP
    rw [if_pos (by rfl)]; rfl
  · have hne : ¬ bs (pathOf P) = ⟨#[47]⟩ := fun e => by
      have h1 : (bs (pathOf P)).data.toList = [47] := by rw [e]
      rw [bs_list, pathOf_ne hP] at h1
      exact join_ne47 h h1
    rw [if_neg hne, bs_list, pathOf_ne hP]
    unfold Lib.countByte
    rw [count_join h]
theorem pn_path {P : List (List UInt8)} (h : PartsOk P) (hl : (pathOf P).length ≤ 60) : pn (bs (pathOf P)) = P.length := by
  unfold pn
  rw [bs_list, if_pos (isPath_of h hl), parts_path h]
theorem rk_pn {P : List (List UInt8)} (h : PartsOk P) (hl : (pathOf P).length ≤ 60) : ((pn (bs (pathOf P)) : Nat) : Int) = rk1 (bs (pathOf P)) := by rw [pn_path h hl, rk1_path h]
theorem cmpI_cases (x y : Int) : (cmpI x y = -1 ∧ x < y) ∨ (cmpI x y = 0 ∧ x = y) ∨ (cmpI x y = 1 ∧ y < x) := by
  unfold cmpI
  split
  · exact .inl ⟨rfl, by assumption⟩
  · split
    · exact .inr (.inr ⟨rfl, by assumption⟩)
    · exact .inr (.inl ⟨rfl, by omega⟩)
/-- Lexicographically. -/
theorem cmpR_cases (x0 x1 x2 y0 y1 y2 : Int) : (cmpR x0 x1 x2 y0 y1 y2 = -1 ∧ (y0 < x0 ∨ (y0 = x0 ∧ (y1 < x1 ∨ (y1 = x1 ∧ y2 < x2))))) ∨
    (cmpR x0 x1 x2 y0 y1 y2 = 0 ∧ y0 = x0 ∧ y1 = x1 ∧ y2 = x2) ∨ (cmpR x0 x1 x2 y0 y1 y2 = 1 ∧ (x0 < y0 ∨ (y0 = x0 ∧ (x1 < y1 ∨ (y1 = x1 ∧ x2 < y2))))) := by
  unfold cmpR
  rcases cmpI_cases y0 x0 with ⟨e, h⟩ | ⟨e, h⟩ | ⟨e, h⟩
  · rw [if_neg (by rw [e]; decide)]; omega
  · rw [if_pos e]
    rcases cmpI_cases y1 x1 with ⟨e1, h1⟩ | ⟨e1, h1⟩ | ⟨e1, h1⟩
    · rw [if_neg (by rw [e1]; decide)]; omega
    · rw [if_pos e1]
      rcases cmpI_cases y2 x2 with ⟨e2, h2⟩ | ⟨e2, h2⟩ | ⟨e2, h2⟩ <;> omega
    · rw [if_neg (by rw [e1]; decide)]; omega
  · rw [if_neg (by rw [e]; decide)]; omega
theorem cmpR_neg (x0 x1 x2 y0 y1 y2 : Int) : cmpR y0 y1 y2 x0 x1 x2 = -cmpR x0 x1 x2 y0 y1 y2 := by
  rcases cmpR_cases x0 x1 x2 y0 y1 y2 with ⟨e, h⟩ | ⟨e, h⟩ | ⟨e, h⟩ <;> rcases cmpR_cases y0 y1 y2 x0 x1 x2 with ⟨e', h'⟩ | ⟨e', h'⟩ | ⟨e', h'⟩ <;> rw [e, e'] <;> omega
theorem cmpR_self (x0 x1 x2 : Int) : cmpR x0 x1 x2 x0 x1 x2 = 0 := by
  rcases cmpR_cases x0 x1 x2 x0 x1 x2 with ⟨e, h⟩ | ⟨e, h⟩ | ⟨e, h⟩ <;> omega
theorem cmpR_bd (x0 x1 x2 y0 y1 y2 : Int) : -1 ≤ cmpR x0 x1 x2 y0 y1 y2 ∧ cmpR x0 x1 x2 y0 y1 y2 ≤ 1 := by
  rcases cmpR_cases x0 x1 x2 y0 y1 y2 with ⟨e, h⟩ | ⟨e, h⟩ | ⟨e, h⟩ <;> omega
/-- An order: what comes ahead of what comes ahead; and what neither is ahead of is ahead of the same. -/
theorem cmpR_order (x0 x1 x2 y0 y1 y2 z0 z1 z2 ab bc ac : Int) (h1 : ab = cmpR x0 x1 x2 y0 y1 y2) (h2 : bc = cmpR y0 y1 y2 z0 z1 z2) (h3 : ac = cmpR x0 x1 x2 z0 z1 z2) :
    (ab = -1 ∧ bc = -1 ∧ ac = -1) ∨ (ab = -1 ∧ bc = 0 ∧ ac = -1) ∨ (ab = -1 ∧ bc = 1) ∨ (ab = 0 ∧ bc = -1 ∧ ac = -1) ∨ (ab = 0 ∧ bc = 0 ∧ ac = 0) ∨ (ab = 0 ∧ bc = 1 ∧ ac = 1) ∨ (ab = 1) := by
  rcases cmpR_cases x0 x1 x2 y0 y1 y2 with ⟨e, h⟩ | ⟨e, h⟩ | ⟨e, h⟩
  · rcases cmpR_cases y0 y1 y2 z0 z1 z2 with ⟨e', h'⟩ | ⟨e', h'⟩ | ⟨e', h'⟩ <;> rcases cmpR_cases x0 x1 x2 z0 z1 z2 with ⟨e'', h''⟩ | ⟨e'', h''⟩ | ⟨e'', h''⟩ <;> omega
  · rcases cmpR_cases y0 y1 y2 z0 z1 z2 with ⟨e', h'⟩ | ⟨e', h'⟩ | ⟨e', h'⟩ <;> rcases cmpR_cases x0 x1 x2 z0 z1 z2 with ⟨e'', h''⟩ | ⟨e'', h''⟩ | ⟨e'', h''⟩ <;> omega
  · omega
/-- On of two paths. -/
theorem on_path {A B : List (List UInt8)} (hA : PartsOk A) (hB : PartsOk B) (hl : (pathOf B).length ≤ 60) : onL (bs (pathOf A)) false (bs (pathOf B)) = A.isPrefixOf B := by
  unfold onL
  rw [bs_list, bs_list, isPath_of hB hl, Bool.true_and, if_neg Bool.false_ne_true, begins_path hB hA]
theorem pre_anti {A B : List (List UInt8)} (h1 : A.isPrefixOf B = true) (h2 : B.isPrefixOf A = true) : A = B := by
  rw [List.isPrefixOf_iff_prefix] at *
  exact h1.eq_of_length (Nat.le_antisymm h1.length_le h2.length_le)
theorem pre_trans {A B C : List (List UInt8)} (h1 : A.isPrefixOf B = true) (h2 : B.isPrefixOf C = true) : A.isPrefixOf C = true := by
  rw [List.isPrefixOf_iff_prefix] at *
  exact h1.trans h2
theorem pre_both {A B C : List (List UInt8)} (h1 : A.isPrefixOf C = true) (h2 : B.isPrefixOf C = true) : A.isPrefixOf B = true ∨ B.isPrefixOf A = true := by
  rw [List.isPrefixOf_iff_prefix] at *
  rw [List.isPrefixOf_iff_prefix]
  exact List.prefix_or_prefix_of_prefix h1 h2
theorem pre_self (A : List (List UInt8)) : A.isPrefixOf A = true := by
  rw [List.isPrefixOf_iff_prefix]
  exact List.prefix_rfl
/-- What is deeper comes ahead. -/
theorem cmp_deeper {A B : List (List UInt8)} (hA : PartsOk A) (hB : PartsOk B) (h : A.isPrefixOf B = true) (hne : ¬ A = B) : cmpR (rk0 false) (rk1 (bs (pathOf B))) (0 : Nat) (rk0 false) (rk1 (bs (pathOf A))) (0 : Nat) = -1 := by
  rw [rk1_path hA, rk1_path hB]
  rw [List.isPrefixOf_iff_prefix] at h
  have hl : A.length < B.length := by
    rcases Nat.lt_or_ge A.length B.length with h' | h'
    · exact h'
    · exact absurd (h.eq_of_length (Nat.le_antisymm h.length_le h')) hne
  rcases cmpR_cases (rk0 false) (B.length : Int) ((0 : Nat) : Int) (rk0 false) (A.length : Int) ((0 : Nat) : Int) with ⟨e, _⟩ | ⟨e, _⟩ | ⟨e, _⟩
  · exact e
  · omega
  · omega
/-- One part more. -/
theorem on_more {C : List (List UInt8)} (hC : PartsOk C) (hl : (pathOf C).length ≤ 9) : onL (bs (pathOf C)) false (bs (pathOf C) ++ ⟨#[47, 113]⟩) = !decide (bs (pathOf C) = ⟨#[47]⟩) := by
  by_cases h : C = []
  · subst h
    decide +kernel
  · have hne : ¬ bs (pathOf C) = ⟨#[47]⟩ := fun e => by
      have h1 : (bs (pathOf C)).data.toList = [47] := by rw [e]
      rw [bs_list, pathOf_ne h] at h1
      exact join_ne47 hC h1
    have hq : PartsOk (C ++ [[113]]) := fun p hp => by
      rw [List.mem_append] at hp
      rcases hp with hp | hp
      · exact hC p hp
      · simp at hp; subst hp; decide
    have he : bs (pathOf C) ++ ⟨#[47, 113]⟩ = bs (pathOf (C ++ [[113]])) := by
      rw [show (⟨#[47, 113]⟩ : ByteArray) = bs [47, 113] from rfl, bs_app, pathOf_ne h, pathOf_ne (by simp), joinP_app]
      rfl
    have hlq : (pathOf (C ++ [[113]])).length ≤ 60 := by
      have h1 : (bs (pathOf C) ++ ⟨#[47, 113]⟩).size = (bs (pathOf (C ++ [[113]]))).size := by rw [he]
      rw [ByteArray.size_append, bs_size, bs_size, show (⟨#[47, 113]⟩ : ByteArray).size = 2 from rfl] at h1
      omega
    rw [he, on_path hC hq hlq, decide_eq_false hne]
    show C.isPrefixOf (C ++ [[113]]) = true
    rw [List.isPrefixOf_iff_prefix]
    exact List.prefix_append _ _
theorem fitsB_bare (mp : ByteArray) (ex : Bool) (path : ByteArray) (l : List Hd) : fitsB mp ex [] path l = onL mp ex path := by unfold fitsB; simp
theorem fitsB_on {mp : ByteArray} {ex : Bool} {HS : List Hd} {path : ByteArray} {l : List Hd} (h : fitsB mp ex HS path l = true) : onL mp ex path = true := by unfold fitsB at h; rw [Bool.and_eq_true] at h; exact h.1
theorem fitsB_strict {mp : ByteArray} {ex : Bool} {HS : List Hd} {x : Hd} {path : ByteArray} {l : List Hd} (h : fitsB mp ex (HS ++ [x]) path l = true) : fitsB mp ex HS path l = true := by
  unfold fitsB at *
  rw [List.all_append, Bool.and_eq_true, Bool.and_eq_true] at h
  rw [h.1, h.2.1]; rfl
theorem getL_app1 {l : List Hd} {x : Hd} {s : ByteArray} (h : hasN l s = true) : getL (l ++ [x]) s = getL l s := by
  unfold getL
  rw [List.find?_append]
  have := hasN_get l s
  rw [h] at this
  unfold getL at this
  cases e : l.find? (fun h => decide (h.name = s)) with
  | none => rw [e] at this; cases this
  | some y => rfl
theorem hasN_app1 {l : List Hd} {x : Hd} {s : ByteArray} (h : hasN l s = true) : hasN (l ++ [x]) s = true := by
  unfold hasN at *
  rw [List.any_append, h]; rfl
theorem fitsB_more {mp : ByteArray} {ex : Bool} {HS : List Hd} {path : ByteArray} {l : List Hd} (x : Hd) (h : fitsB mp ex HS path l = true) : fitsB mp ex HS path (l ++ [x]) = true := by
  unfold fitsB at *
  rw [Bool.and_eq_true] at *
  refine ⟨h.1, ?_⟩
  have h2 := h.2
  rw [List.all_eq_true] at h2 ⊢
  intro y hy
  have h3 := h2 y hy
  unfold fitH at *
  rw [Bool.and_eq_true] at *
  exact ⟨hasN_app1 h3.1, by rw [getL_app1 h3.1]; exact h3.2⟩
end Go.Proofs.YtjehdldjfnaniaaDoor
