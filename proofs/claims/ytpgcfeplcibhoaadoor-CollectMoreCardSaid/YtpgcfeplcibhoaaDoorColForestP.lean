/- A tree is a forest, plainly. -/
import Derived.Test.YtpgcfeplcibhoaaDoorColSmall
import Derived.Test.YtpgcfeplcibhoaaDoorColTr
set_option linter.unusedVariables false
set_option linter.unusedSimpArgs false
namespace Go.Proofs.YtpgcfeplcibhoaaDoor
open Go.RowKit

theorem cmp_prefix : ∀ (u : List UInt8) (c : UInt8) (y : List UInt8), Lib.compareBytes u (u ++ c :: y) < 0
  | [], c, y => by simp [Lib.compareBytes]
  | a :: u, c, y => by
    unfold Lib.compareBytes
    have h : ¬ a < a := UInt8.lt_irrefl a
    simp only [List.cons_append, h, if_false]
    exact cmp_prefix u c y
theorem srt_lt {l : List Nod} (h : Srt l) {i j : Nat} {x y : Nod} (hi : l[i]? = some x) (hj : l[j]? = some y) (hc : cfN x y < 0) : i < j := by
  rcases Nat.lt_trichotomy i j with h1 | h1 | h1
  · exact h1
  · subst h1; rw [hi] at hj; cases hj; exact absurd hc (cf_irr x)
  · unfold Srt at h
    rw [List.pairwise_iff_getElem] at h
    have hli := get_lt hi
    have hlj := get_lt hj
    have := h j i hlj hli h1
    rw [List.getElem?_eq_getElem hli] at hi
    rw [List.getElem?_eq_getElem hlj] at hj
    cases hi; cases hj
    exact absurd (cf_trans hc this) (cf_irr _)
theorem srt_name {l : List Nod} (h : Srt l) {i j : Nat} {x y : Nod} (hi : l[i]? = some x) (hj : l[j]? = some y) (hn : x.name = y.name) : i = j := by
  rcases Nat.lt_trichotomy i j with h1 | h1 | h1
  · unfold Srt at h
    rw [List.pairwise_iff_getElem] at h
    have hli := get_lt hi
    have hlj := get_lt hj
    have := h i j hli hlj h1
    rw [List.getElem?_eq_getElem hli] at hi
    rw [List.getElem?_eq_getElem hlj] at hj
    cases hi; cases hj
    exact absurd hn (cf_ne this)
  · exact h1
  · unfold Srt at h
    rw [List.pairwise_iff_getElem] at h
    have hli := get_lt hi
    have hlj := get_lt hj
    have := h j i hlj hli h1
    rw [List.getElem?_eq_getElem hli] at hi
    rw [List.getElem?_eq_getElem hlj] at hj
    cases hi; cases hj
    exact absurd hn.symm (cf_ne this)
theorem at_place {l : List Nod} (h : Srt l) {i : Nat} {x : Nod} (hi : l[i]? = some x) : atL l x.name = (i : Int) :=
  atL_hit hi rfl (fun q y hq hy e => by have := srt_name h hy hi e; omega)
theorem at_pos {l : List Nod} {s : ByteArray} (h : 0 ≤ atL l s) : ∃ (k : Nat) (x : Nod), l[k]? = some x ∧ x.name = s ∧ atL l s = (k : Int) := by
  unfold atL at *
  cases hf : l.findIdx? (fun x => decide (x.name = s)) with
  | none => rw [hf] at h; simp at h
  | some k =>
    rw [List.findIdx?_eq_some_iff_getElem] at hf
    obtain ⟨hk, h1, _⟩ := hf
    exact ⟨k, l[k], List.getElem?_eq_getElem hk, of_decide_eq_true h1, rfl⟩
theorem at_neg {l : List Nod} {s : ByteArray} (h : atL l s < 0) : ∀ y ∈ l, y.name ≠ s := by
  intro y hy e
  unfold atL at h
  cases hf : l.findIdx? (fun x => decide (x.name = s)) with
  | none =>
    rw [List.findIdx?_eq_none_iff] at hf
    have := hf y hy
    exact of_decide_eq_false this e
  | some k => rw [hf] at h; simp only at h; omega
theorem isT_good {L : List Spn} (hG : ∀ s ∈ L, GoodS s) {r : Int} {x : Nod} (hx : isT (fndS L) r x) : GoodB x.name.data.toList ∧ reqL x.name.data.toList = r := by
  rcases hx with ⟨_, h2, h3⟩ | ⟨_, _, _, s, hs, hr, hu⟩
  · obtain ⟨hm, hn⟩ := fndS_some h2
    exact ⟨by rw [← hn]; exact (hG _ hm).nm, h3⟩
  · obtain ⟨hm, hn⟩ := fndS_some hs
    exact ⟨goodB_ups (hG _ hm).nm hu, by rw [ups_req30 (hG _ hm).nm hu]; exact hr⟩
/-- What is around a node is a node. -/
theorem isT_up {L : List Spn} (hG : ∀ s ∈ L, GoodS s) {r : Int} {x : Nod} (hx : isT (fndS L) r x) {a : List UInt8} (ha : a ∈ ups x.name.data.toList) : ∃ y, isT (fndS L) r y ∧ y.name = bs a := by
  obtain ⟨hg, hrx⟩ := isT_good hG hx
  have hra : reqL a = r := by rw [ups_req30 hg ha]; exact hrx
  cases hf : fndS L a with
  | some s => exact ⟨⟨bs a, false, s⟩, .inl ⟨rfl, hf, hra⟩, rfl⟩
  | none =>
    refine ⟨goneN (bs a), .inr ⟨rfl, rfl, hf, ?_⟩, rfl⟩
    rcases hx with ⟨_, h2, h3⟩ | ⟨_, _, _, s, hs, hr, hu⟩
    · obtain ⟨hm, hn⟩ := fndS_some h2
      exact ⟨x.s, by rw [hn]; exact h2, by unfold rqS; rw [hn]; exact h3, by rw [hn]; exact ha⟩
    · exact ⟨s, hs, hr, ups_trans ha hu⟩
theorem forest_up {L : List Spn} (ho : Once L) (hG : ∀ s ∈ L, GoodS s) {r : Int} {i : Nat} {x : Nod} (hx : (treeL L r)[i]? = some x) (hu : upL x.name.data.toList ≠ []) :
    0 ≤ atL (treeL L r) (bs (upL x.name.data.toList)) ∧ atL (treeL L r) (bs (upL x.name.data.toList)) < (i : Int) := by
  have hm := (tree_mem ho r x).1 (List.mem_of_getElem? hx)
  obtain ⟨y, hy, hn⟩ := isT_up hG hm (a := upL x.name.data.toList) (by rw [ups_cons hu]; simp)
  obtain ⟨j, hj⟩ := List.getElem?_of_mem ((tree_mem ho r y).2 hy)
  have h1 := at_place (tree_srt L r) hj
  rw [hn] at h1
  have hc : cfN y x < 0 := by
    unfold cfN
    rw [hn]
    obtain ⟨z, hz, _⟩ := up_split hu
    conv => lhs; arg 2; rw [hz]
    exact cmp_prefix _ _ _
  have := srt_lt (tree_srt L r) hj hx hc
  rw [h1]
  omega
end Go.Proofs.YtpgcfeplcibhoaaDoor
