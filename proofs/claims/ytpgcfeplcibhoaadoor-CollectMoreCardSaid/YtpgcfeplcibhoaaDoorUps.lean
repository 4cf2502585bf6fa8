/- Names around names, plainly. -/
import Derived.Test.YtpgcfeplcibhoaaDoorTraceUp
set_option linter.unusedVariables false
namespace Go.Proofs.YtpgcfeplcibhoaaDoor
open Go.RowKit

theorem up_split {l : List UInt8} (h : upL l ≠ []) : ∃ y, l = upL l ++ 47 :: y ∧ 47 ∉ y := by
  unfold upL at *
  cases hl : lastN 47 l with
  | zero => rw [hl] at h; simp at h
  | succ k =>
    obtain ⟨h1, h2, h3⟩ := lastN_split hl
    exact ⟨_, by simpa using h2, h3⟩
theorem up_read {l : List UInt8} {r : Int} (h : readL l = some (r, true)) (hu : upL l ≠ []) : readL (upL l) = some (r, true) := by
  obtain ⟨y, hy, _⟩ := up_split hu
  generalize upL l = u at *
  subst hy
  rw [readL_split u y 47 isDig_47] at h
  cases hr : readL u with
  | none => rw [hr] at h; simp at h
  | some p =>
    obtain ⟨r', t⟩ := p
    rw [hr] at h
    simp only [Option.bind_some, Option.map_eq_some_iff, Prod.mk.injEq] at h
    obtain ⟨u', hg, rfl, rfl⟩ := h
    cases t
    · rw [goL_false_other 47 y (by decide) (by decide)] at hg; simp at hg
    · rfl
theorem reqL_of {l : List UInt8} {r : Int} {t : Bool} (h : readL l = some (r, t)) : reqL l = r := by unfold reqL; rw [h]
theorem readT_of {l : List UInt8} {r : Int} {t : Bool} (h : readL l = some (r, t)) : readT l = t := by unfold readT; rw [h]
theorem ups_len {l a : List UInt8} (h : a ∈ ups l) : a.length < l.length ∧ a ≠ [] := by
  generalize hn : l.length = n at *
  induction n using Nat.strongRecOn generalizing l with
  | _ n ih =>
    subst hn
    by_cases hu : upL l = []
    · rw [ups_nil hu] at h; simp at h
    · rw [ups_cons hu] at h
      have hl := upL_len hu
      rcases List.mem_cons.1 h with rfl | h
      · exact ⟨hl, hu⟩
      · have := ih _ hl h rfl
        exact ⟨by omega, this.2⟩
theorem ups_trans {a b c : List UInt8} (h1 : a ∈ ups b) (h2 : b ∈ ups c) : a ∈ ups c := by
  generalize hn : c.length = n at *
  induction n using Nat.strongRecOn generalizing c with
  | _ n ih =>
    subst hn
    by_cases hu : upL c = []
    · rw [ups_nil hu] at h2; simp at h2
    · rw [ups_cons hu] at h2 ⊢
      rcases List.mem_cons.1 h2 with rfl | h
      · exact List.mem_cons_of_mem _ h1
      · exact List.mem_cons_of_mem _ (ih _ (upL_len hu) h rfl)
theorem ups_line {a b c : List UInt8} (h1 : a ∈ ups c) (h2 : b ∈ ups c) : a = b ∨ a ∈ ups b ∨ b ∈ ups a := by
  generalize hn : c.length = n at *
  induction n using Nat.strongRecOn generalizing c with
  | _ n ih =>
    subst hn
    by_cases hu : upL c = []
    · rw [ups_nil hu] at h2; simp at h2
    · rw [ups_cons hu] at h1 h2
      rcases List.mem_cons.1 h1 with rfl | h1
      · rcases List.mem_cons.1 h2 with rfl | h2
        · exact .inl rfl
        · exact .inr (.inr h2)
      · rcases List.mem_cons.1 h2 with rfl | h2
        · exact .inr (.inl h1)
        · exact ih _ (upL_len hu) h1 h2 rfl
theorem befL_iff {a b : List UInt8} : befL a b = true ↔ a ∈ ups b := by unfold befL; simp
end Go.Proofs.YtpgcfeplcibhoaaDoor
