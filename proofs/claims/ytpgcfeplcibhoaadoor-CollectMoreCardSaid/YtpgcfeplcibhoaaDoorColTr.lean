/- Tree and Whole of a collector, in one form: the row of the tree. -/
import Derived.Test.YtpgcfeplcibhoaaDoorColTree
import Derived.Test.YtpgcfeplcibhoaaDoorColPrP
set_option linter.unusedVariables false
set_option linter.unusedSimpArgs false
namespace Go.Proofs.YtpgcfeplcibhoaaDoor
open Go.RowKit

theorem addUps_len : ∀ (l S : List (List UInt8)), (addUps S l).length ≤ S.length + l.length
  | [], S => by simp [addUps]
  | a :: r, S => by
    unfold addUps
    split
    · simp
    · have := addUps_len r (S ++ [a])
      simp only [List.length_append, List.length_cons, List.length_nil] at *; omega
theorem seenL_len : ∀ (nms : List ByteArray) (S : List (List UInt8)), (∀ x ∈ nms, GoodB x.data.toList) → (seenL S nms).length ≤ S.length + 16 * nms.length
  | [], S, _ => by simp [seenL]
  | nm :: r, S, h => by
    have h1 := seenL_len r (addUps S (ups nm.data.toList)) (fun x hx => h x (List.mem_cons_of_mem _ hx))
    have h2 := addUps_len (ups nm.data.toList) S
    have h3 := ups_cnt (h nm (by simp))
    show (seenL (addUps S (ups nm.data.toList)) r).length ≤ _
    rw [List.length_cons]; omega
theorem namesL_len (L : List Spn) (r : Int) : (namesL L r).length ≤ L.length := by unfold namesL; rw [List.length_map]; exact List.length_filter_le _ _
theorem missL_len {L : List Spn} (hG : ∀ s ∈ L, GoodS s) (r : Int) : (missL L r).length ≤ 16 * L.length := by
  unfold missL misS
  rw [List.length_map]
  have h1 := seenL_len (namesL L r) [] (fun x hx => by
    obtain ⟨s, hs, rfl⟩ := namesL_in hx
    exact (hG s hs).nm)
  have h2 := namesL_len L r
  have h3 := List.length_filter_le (fun a => (fndS L a).isNone) (seenL [] (namesL L r))
  simp only [List.length_nil] at h1
  omega
theorem treeL_len {L : List Spn} (hG : ∀ s ∈ L, GoodS s) (r : Int) : (treeL L r).length ≤ 17 * L.length := by
  have h1 := putAll_len (nodesL L r) []
  have h2 : (nodesL L r).length = (namesL L r).length + (missL L r).length := by unfold nodesL; rw [List.length_append, List.length_map, List.length_map]
  have h3 := missL_len hG r
  have h4 := namesL_len L r
  simp only [List.length_nil] at h1
  unfold treeL
  omega
theorem tree_good {L : List Spn} (ho : Once L) (hG : ∀ s ∈ L, GoodS s) (r : Int) : ∀ x ∈ treeL L r, GoodN x := by
  intro x hx
  rcases (tree_mem ho r x).1 hx with ⟨h1, h2, _⟩ | ⟨h1, h2, h3, s, hs, hr, hu⟩
  · obtain ⟨hm, hn⟩ := fndS_some h2
    have hg := hG _ hm
    refine ⟨?_, hg.serv, hg.frm, hg.til⟩
    have := hg.nm.len
    rw [hn, ba_len] at this
    exact this
  · obtain ⟨hm, hn⟩ := fndS_some hs
    have hg := goodB_ups (hG _ hm).nm hu
    refine ⟨?_, ?_, ?_, ?_⟩
    · have := hg.len; rwa [ba_len] at this
    · rw [h2]; unfold spn0; exact ⟨by decide, by decide⟩
    · rw [h2]; unfold spn0; exact ⟨by decide, by decide⟩
    · rw [h2]; unfold spn0; exact ⟨by decide, by decide⟩
theorem tree_is (b k : Nat) (L : List Spn) (O : Nat → Prop) (r : Int) (w : World) (h : ColIs w b L k O) (ho : Once L) (hG : ∀ s ∈ L, GoodS s) (hL : L.length ≤ 500) (hr : (Lit.int .i64 r).wf = true) :
    Calls Tryd.prog 14 #[.pointer (some ⟨b, 0, none⟩), .int .i64 r] w fun e w' => ∃ v, e = .returned v ∧ Own nodE w' w.heap.size 49 v (treeL L r) ∧ Frm noB w w' := by
  obtain ⟨m1, m2, rows, h⟩ := h
  refine (ctree_any b m1 m2 k L rows O r w h hr (fun s hs => by have := goods_size (hG s hs); omega) hL (by have := missL_len hG r; omega)).mono ?_
  rintro e w' ⟨v, l', rfl, h1, h2, h3, h4⟩
  rw [perm_tree ho r h2 h3 (nodes_once ho r)] at h1
  exact ⟨v, rfl, h1, h4⟩
theorem whole_is (b k : Nat) (L : List Spn) (O : Nat → Prop) (r : Int) (w : World) (h : ColIs w b L k O) (hG : ∀ s ∈ L, GoodS s) (hL : L.length ≤ 500) (hr : (Lit.int .i64 r).wf = true) :
    Calls Tryd.prog 17 #[.pointer (some ⟨b, 0, none⟩), .int .i64 r] w fun e w' => e = .returned (.bool (missL L r).isEmpty) ∧ Frm noB w w' :=
  whole_any b k L O r w h hr (fun s hs => by have := goods_size (hG s hs); omega) hL
/-- Whole: no node is missing. -/
theorem whole_all {L : List Spn} (ho : Once L) (r : Int) : (missL L r).isEmpty = (treeL L r).all fun x => !x.miss := by
  cases hm : (missL L r).isEmpty
  · rw [eq_comm, List.all_eq_false]
    cases hl : missL L r with
    | nil => rw [hl] at hm; simp at hm
    | cons nm t =>
      obtain ⟨⟨nm2, h1, h2⟩, h3⟩ := (missL_mem L r nm).1 (by rw [hl]; simp)
      obtain ⟨s, hs, hr, rfl⟩ := names_mem.1 h1
      refine ⟨goneN nm, (tree_mem ho r _).2 (.inr ⟨rfl, rfl, h3, s, (once_fnd ho s).1 hs, hr, h2⟩), by simp [goneN]⟩
  · rw [eq_comm, List.all_eq_true]
    intro x hx
    rcases (tree_mem ho r x).1 hx with ⟨h1, _⟩ | ⟨h1, h2, h3, s, hs, hr, hu⟩
    · rw [h1]; rfl
    · have : x.name ∈ missL L r := (missL_mem L r x.name).2 ⟨⟨s.name, names_mem.2 ⟨s, (once_fnd ho s).2 hs, hr, rfl⟩, hu⟩, h3⟩
      rw [List.isEmpty_iff] at hm
      rw [hm] at this; simp at this
/-- What spans of numbers leave behind is well. -/
theorem col_good {l : List Spn} (h : ∀ s ∈ l, GoodS s) : ∀ s ∈ l.foldl takeL [], GoodS s := fun s hs => by
  rcases col_mem l [] s hs with h1 | h1
  · simp at h1
  · exact h s h1
end Go.Proofs.YtpgcfeplcibhoaaDoor
