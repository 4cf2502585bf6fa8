/- slices.Clone of spans. -/
import Derived.Test.YtnmcdecdgcnmbaaSpan
set_option linter.unusedVariables false
namespace Go.Proofs.Ytnmcdecdgcnmbaa
open Go.RowKit

set_option maxHeartbeats 400000 in
theorem clone_spn_some (g c : Nat) (l : List Spn) (w : World) (base n : Nat) (hn : n ≤ 1000) (hl : l.length = n) (h : Own spnE w base 35 (.slice (some ⟨g, 0, none⟩) n c) l) :
    Calls Try.prog 29 #[.slice (some ⟨g, 0, none⟩) n c] w fun e w' => ∃ v, e = .returned v ∧ Own spnE w' w.heap.size 35 v l ∧ Frm noB w w' := by
  obtain ⟨i0, hi, hz0, hz1, hz2⟩ := info_parts info_spn
  have heq := fun (w : World) => Lib.run_eql_slice_nil (P := Try.prog) w 30 35 (some ⟨g, 0, none⟩) n c 0 0 Try.underlying30
  have H := Lib.hid h
  have Hl := Lib.hid hl
  clear h hl
  go_enter Try.func29, Try.ntmps29
  go_wp2_with (at_builtin; refine wpList_append_own _ rfl _ _ 30 rfl w.heap.size 35 i0 _ 6 56 Try.underlying30 hi hz0 hz1 hz2 rfl (by decide) _ 0 [] rfl (World.ownsRow_made w #[] 0 (Nat.le_refl _) (by decide) rfl) ⟨g, 0, none⟩ n c (rowOf spnE l) rfl ?c1 ?c2 (rowOf_one _ _) ?c3 ?c4 ?c5 ?_)
  case c1 => rw [rowOf_len, Hl.out]; rfl
  case c2 =>
    intro j u hu
    exact World.ownsRow.cells (H.out.keep ((Frm.refl noB w).alloc (.cells #[] 35))) rfl j u hu
  case c3 => simp only [maxLen]; omega
  case c4 => omega
  case c5 => simp
  intro v' w1 hown hg hnil
  have Hown := Lib.hid hown
  have Hg := Lib.hid hg
  clear hown hg hnil
  go_wp2
  go_ret
  refine ⟨_, rfl, by unfold Own; rw [Hl.out]; exact Hown.out, ?_⟩
  exact (((Frm.refl noB w).alloc _).new (Frm.ofGrown Hg.out) (fun i hi h => by simp [Value.ownBlock] at h; omega))

set_option maxHeartbeats 400000 in
theorem clone_spn_nil (w : World) :
    Calls Try.prog 29 #[.slice none 0 0] w fun e w' => e = .returned (.slice none 0 0) ∧ w = w' := by
  have heq := fun (w : World) => Lib.run_eql_slice_nil (P := Try.prog) w 30 35 none 0 0 0 0 Try.underlying30
  go_enter Try.func29, Try.ntmps29
  go_wp2
  go_ret
  exact ⟨rfl, rfl⟩
/-- A fresh copy, whatever the slice. -/
theorem clone_spn (v : Value) (l : List Spn) (w : World) (base : Nat) (hn : l.length ≤ 1000) (h : Own spnE w base 35 v l) :
    Calls Try.prog 29 #[v] w fun e w' => ∃ v', e = .returned v' ∧ Own spnE w' w.heap.size 35 v' l ∧ Frm noB w w' := by
  rcases h.2 with ⟨hv, h0⟩ | ⟨g, cap, cur, hv, _⟩
  · subst hv
    refine (clone_spn_nil w).mono ?_
    rintro e w' ⟨rfl, rfl⟩
    have hl : l = [] := List.eq_nil_of_length_eq_zero h0
    subst hl
    exact ⟨_, rfl, Own.nil _ _ _ _, Frm.refl _ _⟩
  · subst hv
    exact clone_spn_some g cap l w base l.length hn rfl h
end Go.Proofs.Ytnmcdecdgcnmbaa
