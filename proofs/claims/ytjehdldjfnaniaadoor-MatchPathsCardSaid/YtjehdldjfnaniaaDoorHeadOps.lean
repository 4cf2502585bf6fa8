/- Set, Drop, Same, SameRow of heads. -/
import Derived.Test.YtjehdldjfnaniaaDoorHeadSet
import Derived.Test.YtjehdldjfnaniaaDoorOwnSet
import Derived.Test.YtjehdldjfnaniaaDoorAppR
set_option linter.unusedVariables false
namespace Go.Proofs.YtjehdldjfnaniaaDoor
open Go.RowKit

def NoDup (l : List Hd) : Prop := (l.map (·.name)).Nodup
theorem putL_names (l : List Hd) (h : Hd) : (putL l h).map (·.name) = l.map (·.name) := by
  unfold putL
  rw [List.map_map]
  refine List.map_congr_left fun x _ => ?_
  simp only [Function.comp_apply]
  split
  · rename_i e; exact e.symm
  · rfl
theorem hasN_map (l : List Hd) (s : ByteArray) : hasN l s = true ↔ s ∈ l.map (·.name) := by
  rw [hasN_iff, List.mem_map]
theorem setL_nodup {l : List Hd} (h : Hd) (hl : NoDup l) : NoDup (setL l h) := by
  unfold NoDup at *
  unfold setL
  split
  · rw [putL_names]; exact hl
  · rename_i hh
    split
    · rw [List.map_append, List.nodup_append]
      refine ⟨hl, by simp, ?_⟩
      intro a ha b hb
      simp at hb
      subst hb
      intro e
      subst e
      exact hh ((hasN_map l h.name).2 ha)
    · exact hl
theorem nodup_at {l : List Hd} (hl : NoDup l) {i j : Nat} {x y : Hd} (hi : l[i]? = some x) (hj : l[j]? = some y) (e : x.name = y.name) : i = j := by
  have h1 : (l.map (·.name))[i]? = some x.name := by rw [List.getElem?_map, hi]; rfl
  have h2 : (l.map (·.name))[j]? = some x.name := by rw [List.getElem?_map, hj, e]; rfl
  have hlt : i < (l.map (·.name)).length := by rw [List.length_map]; exact get_lt hi
  exact (List.getElem?_inj hlt hl).1 (h1.trans h2.symm)
theorem put_set {l : List Hd} (hl : NoDup l) {k : Nat} {x h : Hd} (hk : l[k]? = some x) (e : x.name = h.name) : putL l h = l.set k h := by
  apply List.ext_getElem?
  intro j
  unfold putL
  rw [List.getElem?_map, List.getElem?_set]
  by_cases hj : k = j
  · subst hj
    rw [hk, if_pos rfl, if_pos (get_lt hk)]
    simp [e]
  · rw [if_neg hj]
    cases hh : l[j]? with
    | none => rfl
    | some y =>
      simp only [Option.map_some]
      rw [if_neg]
      intro e2
      exact hj (nodup_at hl hk hh (e.trans e2.symm))
def setAll (l by_ : List Hd) : List Hd := by_.foldl setL l
theorem setAll_snoc {l b : List Hd} {k : Nat} {h : Hd} (hk : b[k]? = some h) : setAll l (b.take (k + 1)) = setL (setAll l (b.take k)) h := by
  unfold setAll
  rw [List.take_add_one, hk, List.foldl_append]; rfl
theorem setAll_nodup {l : List Hd} (hl : NoDup l) (b : List Hd) : NoDup (setAll l b) := by
  unfold setAll
  induction b generalizing l with
  | nil => exact hl
  | cons h t ih => exact ih (setL_nodup h hl)
theorem setL_le (l : List Hd) (h : Hd) (m : Nat) (hm : 8 ≤ m) (hl : l.length ≤ m) : (setL l h).length ≤ m := by
  unfold setL
  split
  · rw [putL_len]; exact hl
  · split
    · simp; omega
    · exact hl
theorem setAll_le (b : List Hd) (m : Nat) (hm : 8 ≤ m) : ∀ l : List Hd, l.length ≤ m → (setAll l b).length ≤ m := by
  unfold setAll
  induction b with
  | nil => intro l hl; exact hl
  | cons h t ih => intro l hl; exact ih _ (setL_le l h m hm hl)

end Go.Proofs.YtjehdldjfnaniaaDoor
