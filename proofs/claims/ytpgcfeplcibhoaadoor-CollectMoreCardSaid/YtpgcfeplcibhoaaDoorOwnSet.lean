/- A store into one cell of a row that the call owns. -/
import Derived.Test.YtpgcfeplcibhoaaDoorRows2
set_option linter.unusedVariables false
namespace Go.Proofs.YtpgcfeplcibhoaaDoor
open Go.RowKit

theorem rowOf_set {α : Type} (E : Enc α) (l : List α) (p i : Nat) (x y : α) (u : Value) (hp : l[p]? = some x) (hi : i < E.k) (hy : E.enc y = (E.enc x).set i u) : rowOf E (l.set p y) = (rowOf E l).set (p * E.k + i) u := by
  induction l generalizing p with
  | nil => simp at hp
  | cons a l ih =>
    cases p with
    | zero =>
      simp at hp
      subst hp
      rw [List.set_cons_zero, rowOf_cons, rowOf_cons, hy, Nat.zero_mul, Nat.zero_add, List.set_append_left _ _ (by rw [E.len]; exact hi)]
    | succ p =>
      rw [List.set_cons_succ, rowOf_cons, rowOf_cons, ih p (by simpa using hp)]
      have e : (p + 1) * E.k + i = E.k + (p * E.k + i) := by rw [Nat.add_mul]; omega
      rw [e, List.set_append_right _ _ (by rw [E.len]; omega), E.len, Nat.add_sub_cancel_left]
theorem Own.set {α : Type} {E : Enc α} {w : World} {base g n c : Nat} {T : TypeId} {l : List α} (h : Own E w base T (.slice (some ⟨g, 0, none⟩) n c) l) {p i : Nat} {x y : α} {u : Value} (hp : l[p]? = some x) (hi : i < E.k) (hy : E.enc y = (E.enc x).set i u) :
    Own E (w.setCell ⟨g, p * E.k + i, none⟩ u) base T (.slice (some ⟨g, 0, none⟩) n c) (l.set p y) := by
  have hlen : (l.set p y).length = l.length := List.length_set
  unfold Own at *
  rw [hlen, rowOf_set E l p i x y u hp hi hy]
  refine ⟨by rw [List.length_set]; exact h.1, ?_⟩
  rcases h.2 with ⟨h1, _⟩ | ⟨g', cap, cur, hv, hb, hg, hnc, hcm, hcs, htk⟩
  · simp at h1
  · simp only [Value.slice.injEq, Option.some.injEq, Addr.mk.injEq, and_true] at hv
    obtain ⟨rfl, hvn, rfl⟩ := hv
    have hbk : Blk w g cur T := hg
    refine .inr ⟨g, c, cur.setIfInBounds (p * E.k + i) u, ?_, hb, hbk.set _ _, hnc, hcm, by rw [Array.size_setIfInBounds]; exact hcs, ?_⟩
    · rw [hvn]
    · rw [Array.toList_setIfInBounds, ← htk, List.take_set]
theorem Own.cell? {α : Type} {E : Enc α} {w : World} {base g n c : Nat} {T : TypeId} {l : List α} (h : Own E w base T (.slice (some ⟨g, 0, none⟩) n c) l) (o : Nat) : w.frozen? ⟨g, o, none⟩ = false := by
  rcases h.2 with ⟨h1, _⟩ | ⟨g', cap, cur, hv, hb, hg, _⟩
  · simp at h1
  · simp only [Value.slice.injEq, Option.some.injEq, Addr.mk.injEq, and_true] at hv
    obtain ⟨rfl, _, rfl⟩ := hv
    exact (show Blk w g cur T from hg).free o
theorem Own.cap {α : Type} {E : Enc α} {w : World} {base n c : Nat} {a : Option Addr} {T : TypeId} {l : List α} (h : Own E w base T (.slice a n c) l) : n ≤ c ∧ c ≤ 9223372036854775807 ∧ ∀ x, a = some x → x.spot = none := by
  rcases h.2 with ⟨h1, h0⟩ | ⟨g', cap, cur, hv, hb, hg, hnc, hcm, _⟩
  · simp only [Value.slice.injEq] at h1
    obtain ⟨rfl, rfl, rfl⟩ := h1
    exact ⟨Nat.le_refl _, by omega, by simp⟩
  · simp only [Value.slice.injEq] at hv
    obtain ⟨rfl, rfl, rfl⟩ := hv
    exact ⟨hnc, by simpa only [maxLen] using hcm, fun x hx => by simp at hx; subst hx; rfl⟩
end Go.Proofs.YtpgcfeplcibhoaaDoor
