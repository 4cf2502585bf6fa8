/- A slice of ints that came in, as a list. -/
import Derived.Test.YtpgcfeplcibhoaaDoorLib
set_option linter.unusedVariables false
namespace Go.Proofs.YtpgcfeplcibhoaaDoor
open Go.RowKit

structure IntsL (w : World) (a : Option Addr) (n : Nat) (xs : List Int) : Prop where
  len : xs.length = n
  most : n ≤ 9223372036854775807
  bd : ∀ x ∈ xs, -9223372036854775808 ≤ x ∧ x ≤ 9223372036854775807
  cells : ∀ (j : Nat) (x : Int), xs[j]? = some x → ∃ b off, a = some ⟨b, off, none⟩ ∧ b < w.heap.size ∧ w.cell? ⟨b, off + j, none⟩ = some (.int .i64 x)
theorem IsRow.list {w : World} {a : Option Addr} {n c : Nat} {z : List Int} (h : IsRow .i64 w a n c z) : ∃ xs, IntsL w a n xs := by
  rcases h with ⟨rfl, rfl, _⟩ | ⟨x, rfl, hl, hm, hz, hcell, hwz⟩
  · exact ⟨[], rfl, by omega, by simp, by simp⟩
  · refine ⟨z.take n, by rw [List.length_take]; omega, by have := hm; simp only [maxLen] at this; omega, fun y hy => wf_i64 (hwz y (List.mem_of_mem_take hy)), fun j y hj => ?_⟩
    obtain ⟨b, off, spot⟩ := x
    have hjn := get_lt hj
    rw [List.length_take] at hjn
    have hspot : spot = none := by
      have h0 := hcell 0 (by omega)
      simpa [Addr.add] using World.cell?_spot h0
    subst hspot
    have hc := hcell j (by omega)
    rw [Addr.add_lit] at hc
    rw [List.getElem?_take] at hj
    split at hj
    · have e : z.getD j 0 = y := by simp [List.getD, hj]
      rw [e] at hc
      exact ⟨b, off, rfl, World.block_lt_of_cell? w ⟨b, off + j, none⟩ hc, hc⟩
    · simp at hj
theorem IntsL.frm {S : Nat → Prop} {w w' : World} {a : Option Addr} {n : Nat} {xs : List Int} (h : IntsL w a n xs) (f : Frm S w w') (hs : ∀ i, i < w.heap.size → ¬ S i) : IntsL w' a n xs :=
  ⟨h.len, h.most, h.bd, fun j x hj => by
    obtain ⟨b, off, ha, hb, hc⟩ := h.cells j x hj
    exact ⟨b, off, ha, Nat.lt_of_lt_of_le hb f.size, cell_frm f (hs b hb) hc⟩⟩
theorem IntsL.keep {w w' : World} {a : Option Addr} {n : Nat} {xs : List Int} (h : IntsL w a n xs) (f : Frm noB w w') : IntsL w' a n xs := h.frm f (fun _ _ h => h)
theorem IntsL.in {w : World} {a : Option Addr} {n : Nat} {xs : List Int} (h : IntsL w a n xs) : IntsIn w a n :=
  ⟨h.most, fun j hj => by
    obtain ⟨x, hx⟩ := get_of_lt (l := xs) (j := j) (by rw [h.len]; exact hj)
    obtain ⟨b, off, ha, _, hc⟩ := h.cells j x hx
    exact ⟨b, off, x, ha, h.bd x (List.mem_of_getElem? hx), hc⟩⟩
end Go.Proofs.YtpgcfeplcibhoaaDoor
