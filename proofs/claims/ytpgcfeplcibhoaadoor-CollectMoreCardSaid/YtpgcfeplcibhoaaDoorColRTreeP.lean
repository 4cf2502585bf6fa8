/- The reference's tree, plainly: it is the collector's. -/
import Derived.Test.YtpgcfeplcibhoaaDoorColBase
import Derived.Test.YtpgcfeplcibhoaaDoorColNames
set_option linter.unusedVariables false
set_option linter.unusedSimpArgs false
namespace Go.Proofs.YtpgcfeplcibhoaaDoor
open Go.RowKit

def isR (r : Int) (s : Spn) : Bool := rq30 (nmB s) == r
def goneB (a : List UInt8) : Nod := goneN (bs a)
def cameOne (s : Spn) : Nod := ⟨s.name, false, s⟩
def cameR (L : List Spn) (r : Int) : List Nod := (L.filter (isR r)).map cameOne
def goneR (L : List Spn) (r : Int) : List Nod := (L.filter (isR r)).flatMap fun s => (ups (nmB s)).map goneB
def refT (L : List Spn) (r : Int) : List Nod := putAll (putAll [] (cameR L r)) (goneR L r)
theorem putAll_app (l a b : List Nod) : putAll l (a ++ b) = putAll (putAll l a) b := by unfold putAll; rw [List.foldl_append]
theorem cameR_snoc {L : List Spn} {k : Nat} {x : Spn} (hk : L[k]? = some x) (r : Int) : cameR (L.take (k + 1)) r = if isR r x then cameR (L.take k) r ++ [cameOne x] else cameR (L.take k) r := by
  unfold cameR
  rw [List.take_add_one, hk, List.filter_append, List.map_append]
  cases h : isR r x <;> simp [h]
theorem goneR_snoc {L : List Spn} {k : Nat} {x : Spn} (hk : L[k]? = some x) (r : Int) : goneR (L.take (k + 1)) r = if isR r x then goneR (L.take k) r ++ (ups (nmB x)).map goneB else goneR (L.take k) r := by
  unfold goneR
  rw [List.take_add_one, hk, List.filter_append, List.flatMap_append]
  cases h : isR r x <;> simp [h]
def upsFrom (u : List UInt8) : List (List UInt8) := if u = [] then [] else u :: ups u
theorem ups_from (l : List UInt8) : ups l = upsFrom (upL l) := by
  unfold upsFrom
  by_cases h : upL l = []
  · rw [if_pos h, ups_nil h]
  · rw [if_neg h, ups_cons h]
theorem upsFrom_cons {u : List UInt8} (h : u ≠ []) : upsFrom u = u :: upsFrom (upL u) := by
  conv => lhs; unfold upsFrom
  rw [if_neg h, ups_from]
theorem putL_len : ∀ (l : List Nod) (x : Nod), (putL l x).length ≤ l.length + 1
  | [], x => by simp [putL]
  | a :: r, x => by
    show (if cfN a x < 0 then a :: putL r x else if a.name = x.name then a :: r else x :: a :: r).length ≤ _
    split
    · have := putL_len r x; simp; omega
    · split <;> simp
theorem putAll_len (xs : List Nod) : ∀ l, (putAll l xs).length ≤ l.length + xs.length := by
  induction xs with
  | nil => intro l; simp [putAll]
  | cons x r ih =>
    intro l
    have h1 := ih (putL l x)
    have h2 := putL_len l x
    show (putAll (putL l x) r).length ≤ _
    rw [List.length_cons]; omega
theorem ups_cnt {l : List UInt8} (h : GoodB l) : (ups l).length ≤ 16 := by
  have := ups_count l.length l (Nat.le_refl _)
  have := h.len
  omega
theorem cameR_len (L : List Spn) (r : Int) : (cameR L r).length ≤ L.length := by unfold cameR; rw [List.length_map]; exact List.length_filter_le _ _
theorem flat_len {α β : Type} (f : α → List β) (k : Nat) : ∀ l : List α, (∀ x ∈ l, (f x).length ≤ k) → (l.flatMap f).length ≤ l.length * k
  | [], _ => by simp
  | x :: r, h => by
    have h1 := flat_len f k r (fun y hy => h y (List.mem_cons_of_mem _ hy))
    have h2 := h x (by simp)
    rw [List.flatMap_cons, List.length_append, List.length_cons, Nat.add_mul]; omega
theorem goneR_len (L : List Spn) (r : Int) (hG : ∀ s ∈ L, GoodS s) : (goneR L r).length ≤ L.length * 16 := by
  unfold goneR
  refine Nat.le_trans (flat_len _ 16 _ (fun x hx => ?_)) (Nat.mul_le_mul_right _ (List.length_filter_le _ _))
  rw [List.length_map]
  exact ups_cnt (hG x (List.mem_filter.1 hx).1).nm
theorem putAll_find {xs : List Nod} (ys : List Nod) (y : Nod) : y ∈ putAll (putAll [] xs) ys ↔ (xs ++ ys).find? (fun z => decide (z.name = y.name)) = some y := by
  rw [← putAll_app, putAll_mem _ _ List.Pairwise.nil]
  simp
theorem req_isR {s : Spn} (h : GoodS s) (r : Int) : isR r s = true ↔ rqS s = r := by
  unfold isR rqS
  rw [(goodB_req h.nm).1]; simp
theorem refT_tree {L : List Spn} (ho : Once L) (hG : ∀ s ∈ L, GoodS s) (r : Int) : refT L r = treeL L r := by
  have hs : Srt (refT L r) := putAll_srt _ _ (putAll_srt _ _ List.Pairwise.nil)
  refine srt_ext _ _ hs (tree_srt L r) (fun x => ?_)
  rw [tree_mem ho]
  unfold refT
  rw [putAll_find, List.find?_append]
  have hc : ∀ y, (cameR L r).find? (fun z => decide (z.name = x.name)) = some y ↔ (y.miss = false ∧ y.name = x.name ∧ fndS L (nmB y.s) = some y.s ∧ y.s.name = y.name ∧ rqS y.s = r) := by
    intro y
    constructor
    · intro h
      have h1 := List.mem_of_find?_eq_some h
      have h2 := List.find?_some h
      unfold cameR at h1
      rw [List.mem_map] at h1
      obtain ⟨s, hs, rfl⟩ := h1
      rw [List.mem_filter] at hs
      exact ⟨rfl, by simpa using h2, (once_fnd ho s).1 hs.1, rfl, (req_isR (hG s hs.1) r).1 hs.2⟩
    · rintro ⟨h1, h2, h3, h4, h5⟩
      have hm := (once_fnd ho y.s).2 h3
      have hin : cameOne y.s ∈ cameR L r := by
        unfold cameR
        rw [List.mem_map]
        exact ⟨y.s, by rw [List.mem_filter]; exact ⟨hm, (req_isR (hG _ hm) r).2 h5⟩, rfl⟩
      have hy : cameOne y.s = y := by
        obtain ⟨a, b, c⟩ := y
        simp only at h1 h4
        unfold cameOne
        simp only at *
        rw [h1, h4]
      rw [hy] at hin
      cases hf : (cameR L r).find? (fun z => decide (z.name = x.name)) with
      | none => rw [List.find?_eq_none] at hf; have := hf y hin; simp at this; exact absurd h2 this
      | some z =>
        have g1 := List.mem_of_find?_eq_some hf
        have g2 := List.find?_some hf
        unfold cameR at g1
        rw [List.mem_map] at g1
        obtain ⟨s, hs2, rfl⟩ := g1
        rw [List.mem_filter] at hs2
        have e1 : s.name = y.s.name := by have : s.name = x.name := of_decide_eq_true g2
                                          rw [this, h4, h2]
        have e2 := (once_fnd ho s).1 hs2.1
        rw [show nmB s = nmB y.s from nmB_inj.2 e1, h3] at e2
        cases e2
        rw [hy]
  cases hf : (cameR L r).find? (fun z => decide (z.name = x.name)) with
  | some y =>
    obtain ⟨h1, h2, h3, h4, h5⟩ := (hc y).1 hf
    simp only [Option.some_or, Option.some.injEq]
    constructor
    · rintro rfl
      refine .inl ⟨h1, ?_, ?_⟩
      · have : y.name.data.toList = nmB y.s := by unfold nmB; rw [h4]
        rw [this]; exact h3
      · have : y.name.data.toList = nmB y.s := by unfold nmB; rw [h4]
        rw [this]; exact h5
    · intro hx
      refine isT_name (F := fndS L) (r := r) (.inl ⟨h1, ?_, ?_⟩) hx h2
      · have : y.name.data.toList = nmB y.s := by unfold nmB; rw [h4]
        rw [this]; exact h3
      · have : y.name.data.toList = nmB y.s := by unfold nmB; rw [h4]
        rw [this]; exact h5
  | none =>
    simp only [Option.none_or]
    have hnc : ∀ s ∈ L, isR r s = true → s.name ≠ x.name := fun s hs hr e => by
      rw [List.find?_eq_none] at hf
      have := hf (cameOne s) (by unfold cameR; rw [List.mem_map]; exact ⟨s, by rw [List.mem_filter]; exact ⟨hs, hr⟩, rfl⟩)
      simp [cameOne] at this
      exact of_decide_eq_false this e
    have hall : ∀ z ∈ goneR L r, z.name = x.name → z = goneN x.name := by
      intro z hz e
      unfold goneR at hz
      rw [List.mem_flatMap] at hz
      obtain ⟨s, _, hz⟩ := hz
      rw [List.mem_map] at hz
      obtain ⟨a, _, rfl⟩ := hz
      unfold goneB at e ⊢
      rw [← e]; rfl
    constructor
    · intro h
      have h1 := List.mem_of_find?_eq_some h
      have h2 := hall x h1 rfl
      unfold goneR at h1
      rw [List.mem_flatMap] at h1
      obtain ⟨s, hs, hz⟩ := h1
      rw [List.mem_map] at hz
      obtain ⟨a, ha, hax⟩ := hz
      rw [List.mem_filter] at hs
      have hxn : x.name = bs a := by rw [← hax]; rfl
      have hxa : x.name.data.toList = a := by rw [hxn]; rfl
      refine .inr ⟨by rw [h2]; rfl, by rw [h2]; rfl, ?_, s, (once_fnd ho s).1 hs.1, (req_isR (hG s hs.1) r).1 hs.2, by rw [hxa]; exact ha⟩
      rw [fndS_none]
      intro t ht e
      refine hnc t ht ?_ (ba_ext e)
      have hg := ups_req30 (hG s hs.1).nm ha
      rw [req_isR (hG t ht)]
      unfold rqS
      rw [e, hxa, hg]
      exact (req_isR (hG s hs.1) r).1 hs.2
    · rintro (⟨h1, h2, h3⟩ | ⟨h1, h2, h3, s, hs, hr, hu⟩)
      · obtain ⟨hm, hn⟩ := fndS_some h2
        exact absurd (ba_ext hn) (hnc _ hm ((req_isR (hG _ hm) r).2 (by unfold rqS; rw [hn]; exact h3)))
      · have hm := (once_fnd ho s).2 hs
        have hx : x = goneN x.name := by
          obtain ⟨a, b, c⟩ := x
          simp only at h1 h2
          rw [h1, h2]; rfl
        have hin : x ∈ goneR L r := by
          unfold goneR
          rw [List.mem_flatMap]
          refine ⟨s, by rw [List.mem_filter]; exact ⟨hm, (req_isR (hG _ hm) r).2 hr⟩, ?_⟩
          rw [List.mem_map]
          exact ⟨x.name.data.toList, hu, by unfold goneB; rw [show bs x.name.data.toList = x.name from bs_of _]; exact hx.symm⟩
        cases hf2 : (goneR L r).find? (fun z => decide (z.name = x.name)) with
        | none => rw [List.find?_eq_none] at hf2; have := hf2 x hin; simp at this
        | some z =>
          have g1 := List.mem_of_find?_eq_some hf2
          have g2 := List.find?_some hf2
          rw [hall z g1 (by simpa using g2), ← hx]
end Go.Proofs.YtpgcfeplcibhoaaDoor
