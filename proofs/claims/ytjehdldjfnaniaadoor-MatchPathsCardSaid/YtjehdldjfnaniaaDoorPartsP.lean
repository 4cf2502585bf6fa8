/- Plain: a path's parts, byte by byte. -/
import Derived.Test.YtjehdldjfnaniaaDoorPathP
set_option linter.unusedVariables false
namespace Go.Proofs.YtjehdldjfnaniaaDoor

theorem cutL_pre {a r h : List UInt8} {t : List (List UInt8)} (ha : 47 ∉ a) (hr : cutL r = h :: t) : cutL (a ++ r) = (a ++ h) :: t := by
  induction a with
  | nil => exact hr
  | cons c a ih =>
    rw [List.mem_cons, not_or] at ha
    exact cutL_other (fun e => ha.1 e.symm) (ih ha.2)
theorem okB_no47 {a : List UInt8} (h : a.all okB = true) : 47 ∉ a := fun hm => by
  have := (List.all_eq_true.1 h) 47 hm
  exact absurd this (by decide)
/-- The state of the reading: the part that begins at fr has been read up to j; acc are the parts ahead of it. -/
def PS (l : List UInt8) (fr j : Nat) (acc : List (List UInt8)) : Prop :=
  acc.all okPart = true ∧ ((j ≤ l.length ∧ fr ≤ j ∧ 1 ≤ fr ∧ cutL l.tail = acc ++ cutL (l.drop fr) ∧ ((l.drop fr).take (j - fr)).all okB = true) ∨ (j = l.length + 1 ∧ cutL l.tail = acc))
theorem PS.first {l : List UInt8} (h : 1 ≤ l.length) : PS l 1 1 [] := ⟨rfl, .inl ⟨h, Nat.le_refl _, Nat.le_refl _, by rw [List.drop_one]; rfl, by simp⟩⟩
theorem drop_split {l : List UInt8} {fr j : Nat} (h : fr ≤ j) : l.drop fr = (l.drop fr).take (j - fr) ++ l.drop j := by
  conv => lhs; rw [← List.take_append_drop (j - fr) (l.drop fr)]
  rw [List.drop_drop]; congr 2; omega
theorem drop_at {l : List UInt8} {j : Nat} {c : UInt8} (h : l[j]? = some c) : l.drop j = c :: l.drop (j + 1) := by
  have hj : j < l.length := by
    rcases Nat.lt_or_ge j l.length with h' | h'
    · exact h'
    · rw [List.getElem?_eq_none h'] at h; cases h
  rw [List.drop_eq_getElem_cons hj]
  rw [List.getElem?_eq_getElem hj] at h
  cases h; rfl
theorem PS.inside {l : List UInt8} {fr j : Nat} {acc : List (List UInt8)} (h : PS l fr j acc) (hj : j ≤ l.length) : fr ≤ j ∧ 1 ≤ fr ∧ cutL l.tail = acc ++ cutL (l.drop fr) ∧ ((l.drop fr).take (j - fr)).all okB = true := by
  rcases h.2 with ⟨_, h2⟩ | ⟨h2, _⟩
  · exact h2
  · omega
theorem PS.sign {l : List UInt8} {fr j : Nat} {acc : List (List UInt8)} {c : UInt8} (h : PS l fr j acc) (hc : l[j]? = some c) (hj : j < l.length) (hok : okB c = true) : PS l fr (j + 1) acc := by
  obtain ⟨h1, h2, h3, h4⟩ := h.inside (by omega)
  refine ⟨h.1, .inl ⟨by omega, by omega, h2, h3, ?_⟩⟩
  have e : (l.drop fr)[j - fr]? = some c := by rw [List.getElem?_drop]; rw [← hc]; congr 1; omega
  rw [show j + 1 - fr = (j - fr) + 1 from by omega, List.take_add_one, e, List.all_append, h4]
  simp [hok]
theorem PS.bad {l : List UInt8} {fr j : Nat} {acc : List (List UInt8)} {c : UInt8} (h : PS l fr j acc) (hc : l[j]? = some c) (hj : j < l.length) (h47 : ¬ c = 47) (hok : okB c = false) : (cutL l.tail).all okPart = false := by
  obtain ⟨h1, h2, h3, h4⟩ := h.inside (by omega)
  obtain ⟨p, t, e⟩ := cutL_ne (l.drop (j + 1))
  have e2 := cutL_pre (okB_no47 h4) (cutL_other h47 e)
  rw [← drop_at hc, ← drop_split h1] at e2
  rw [h3, e2, List.all_append, List.all_cons]
  have : okPart ((l.drop fr).take (j - fr) ++ c :: p) = false := by
    unfold okPart
    rw [List.all_append, List.all_cons, hok]; simp
  rw [this]; simp
theorem PS.none {l : List UInt8} {j : Nat} {acc : List (List UInt8)} (h : PS l j j acc) (hj : j ≤ l.length) (hc : j = l.length ∨ l[j]? = some 47) : (cutL l.tail).all okPart = false := by
  obtain ⟨h1, h2, h3, h4⟩ := h.inside hj
  have : ∃ t, cutL (l.drop j) = [] :: t := by
    rcases hc with hc | hc
    · rw [List.drop_of_length_le (by omega)]; exact ⟨[], rfl⟩
    · rw [drop_at hc, cutL_slash]; exact ⟨_, rfl⟩
  obtain ⟨t, e⟩ := this
  rw [h3, e, List.all_append, List.all_cons]
  simp [okPart]
theorem PS.part {l : List UInt8} {fr j : Nat} {acc : List (List UInt8)} (h : PS l fr j acc) (hj : j ≤ l.length) (hne : ¬ j = fr) (hc : j = l.length ∨ l[j]? = some 47) : PS l (j + 1) (j + 1) (acc ++ [(l.drop fr).take (j - fr)]) := by
  obtain ⟨h1, h2, h3, h4⟩ := h.inside hj
  have hlen : ((l.drop fr).take (j - fr)).length = j - fr := by rw [List.length_take, List.length_drop]; omega
  have hp : okPart ((l.drop fr).take (j - fr)) = true := by
    unfold okPart
    rw [h4, Bool.and_true]
    cases e : (l.drop fr).take (j - fr) with
    | nil => rw [e] at hlen; simp at hlen; omega
    | cons a b => rfl
  refine ⟨by rw [List.all_append, h.1]; simp [hp], ?_⟩
  rcases hc with hc | hc
  · refine .inr ⟨by omega, ?_⟩
    rw [h3]
    congr 1
    have e := drop_split (l := l) h1
    rw [List.drop_of_length_le (by omega : l.length ≤ j), List.append_nil] at e
    rw [← e]
    rw [← e] at h4
    exact cutL_no (okB_no47 h4)
  · have hjl : j < l.length := by
      rcases Nat.lt_or_ge j l.length with h' | h'
      · exact h'
      · rw [List.getElem?_eq_none h'] at hc; cases hc
    refine .inl ⟨by omega, Nat.le_refl _, by omega, ?_, by simp⟩
    rw [h3]
    have e := drop_split (l := l) h1
    rw [drop_at hc] at e
    have e2 := cutL_app (okB_no47 h4) (l.drop (j + 1))
    rw [← e] at e2
    rw [e2, List.append_assoc]; rfl
theorem PS.over {l : List UInt8} {fr j : Nat} {acc : List (List UInt8)} (h : PS l fr j acc) (hj : l.length < j) : cutL l.tail = acc ∧ (cutL l.tail).all okPart = true := by
  rcases h.2 with ⟨h1, _⟩ | ⟨_, h2⟩
  · omega
  · exact ⟨h2, by rw [h2]; exact h.1⟩
theorem isPath_long {l : List UInt8} (h1 : ¬ l = [47]) (h2 : l.length < 2 ∨ 60 < l.length ∨ ¬ l.head? = some 47) : isPathL l = false := by
  unfold isPathL
  rw [decide_eq_false h1, Bool.false_or]
  rcases h2 with h2 | h2 | h2
  · cases l with
    | nil => rfl
    | cons a t =>
      cases t with
      | nil =>
        have : ¬ a = 47 := fun e => h1 (by rw [e])
        simp [this]
      | cons b t => exact absurd h2 (by simp only [List.length_cons]; omega)
  · rw [decide_eq_false (by omega), Bool.false_and]
  · rw [decide_eq_false h2, Bool.false_and, Bool.and_false]
theorem isPath_short {l : List UInt8} (h1 : ¬ l = [47]) (h3 : l.length ≤ 60) (h4 : l.head? = some 47) : isPathL l = (cutL l.tail).all okPart := by
  unfold isPathL
  rw [decide_eq_false h1, Bool.false_or, decide_eq_true h3, decide_eq_true h4, Bool.true_and, Bool.true_and]
theorem parts_long {l : List UInt8} (h1 : ¬ l = [47]) (h2 : 2 ≤ l.length) : partsL l = cutL l.tail := by
  unfold partsL
  rw [if_neg]
  rintro (h | h)
  · rw [h] at h2; simp at h2
  · exact h1 h
end Go.Proofs.YtjehdldjfnaniaaDoor
