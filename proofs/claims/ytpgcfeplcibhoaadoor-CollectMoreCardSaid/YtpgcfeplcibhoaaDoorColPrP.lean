/- Nodes in print, plainly. -/
import Derived.Test.YtpgcfeplcibhoaaDoorColRTreeP
import Derived.Test.YtpgcfeplcibhoaaDoorColDep
set_option linter.unusedVariables false
set_option linter.unusedSimpArgs false
namespace Go.Proofs.YtpgcfeplcibhoaaDoor
open Go.RowKit

def spcB (x : Nod) : List UInt8 := List.replicate (depL x.name.data.toList) 32
def tailB (x : Nod) : List UInt8 := if x.miss then [32, 63, 10] else 32 :: (decL x.s.serv ++ 32 :: (decL x.s.frm ++ 45 :: (decL x.s.til ++ ((if x.s.well then [] else [32, 33]) ++ [10]))))
def lineB (x : Nod) : List UInt8 := spcB x ++ x.name.data.toList ++ tailB x
def prN (l : List Nod) : List UInt8 := l.flatMap lineB
theorem prN_snoc {l : List Nod} {k : Nat} {x : Nod} (hx : l[k]? = some x) : prN (l.take (k + 1)) = prN (l.take k) ++ lineB x := by
  unfold prN
  rw [List.take_add_one, hx, List.flatMap_append]; simp
/-- A node that can be printed. -/
structure GoodN (x : Nod) : Prop where
  nm : x.name.size ≤ 16
  serv : 0 ≤ x.s.serv ∧ x.s.serv ≤ 99
  frm : 0 ≤ x.s.frm ∧ x.s.frm ≤ 99
  til : 0 ≤ x.s.til ∧ x.s.til ≤ 99
theorem dec99 {n : Int} (h0 : 0 ≤ n) (h1 : n ≤ 99) : (decL n).length ≤ 2 := by
  unfold decL
  rw [if_neg (by omega)]
  exact digN_len_le 1 _ (by omega)
theorem line_len {x : Nod} (h : GoodN x) : (lineB x).length ≤ 60 := by
  have h1 := dec99 h.serv.1 h.serv.2
  have h2 := dec99 h.frm.1 h.frm.2
  have h3 := dec99 h.til.1 h.til.2
  have h4 := depL_le x.name.data.toList
  rw [ba_len] at h4
  have h5 := h.nm
  unfold lineB spcB tailB
  rw [List.length_append, List.length_append, List.length_replicate, ba_len]
  split
  · simp; omega
  · simp only [List.length_cons, List.length_append, List.length_nil]
    split <;> simp <;> omega
theorem prN_len (l : List Nod) (h : ∀ x ∈ l, GoodN x) : (prN l).length ≤ 60 * l.length := by
  unfold prN
  have := flat_len lineB 60 l (fun x hx => line_len (h x hx))
  omega
theorem nod_cells {w : World} {base g n c : Nat} {T : TypeId} {l : List Nod} (h : Own nodE w base T (.slice (some ⟨g, 0, none⟩) n c) l) {j : Nat} {x : Nod} (hj : l[j]? = some x) :
    w.cell? ⟨g, j * 8, none⟩ = some (.string x.name) ∧ w.cell? ⟨g, j * 8 + 1, none⟩ = some (.bool x.miss) ∧ w.cell? ⟨g, j * 8 + 2, none⟩ = some (.string x.s.name) ∧ w.cell? ⟨g, j * 8 + 3, none⟩ = some (.int .i64 x.s.serv) ∧
      w.cell? ⟨g, j * 8 + 4, none⟩ = some (.int .i64 x.s.frm) ∧ w.cell? ⟨g, j * 8 + 5, none⟩ = some (.int .i64 x.s.til) ∧ w.cell? ⟨g, j * 8 + 6, none⟩ = some (.bool x.s.well) ∧ w.cell? ⟨g, j * 8 + 7, none⟩ = some (.int .i64 x.s.kids) :=
  ⟨h.cell j 0 x _ hj rfl, h.cell j 1 x _ hj rfl, h.cell j 2 x _ hj rfl, h.cell j 3 x _ hj rfl, h.cell j 4 x _ hj rfl, h.cell j 5 x _ hj rfl, h.cell j 6 x _ hj rfl, h.cell j 7 x _ hj rfl⟩
end Go.Proofs.YtpgcfeplcibhoaaDoor
