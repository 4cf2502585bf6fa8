/- Acts that came in, as a list. -/
import Derived.Test.YtdamhohoeobfgaaDoorRows2
import Derived.Deep.Slices
import Derived.ChangeArms
set_option linter.unusedVariables false
namespace Go.Proofs.YtdamhohoeobfgaaDoor
open Go.RowKit

structure ActD where
  n : Int
  over : Bool
  well : Bool
  took : Int
def actL (a : ActD) : List Value := [.int .i64 a.n, .bool a.over, .bool a.well, .int .i64 a.took]
def actE : Enc ActD := ⟨actL, 4, fun _ => rfl, fun s u h => by simp [actL] at h; rcases h with rfl | rfl | rfl | rfl <;> rfl⟩
theorem act_rd {w : World} {a : Option Addr} {n : Nat} {l : List ActD} (h : Rd actE w a n l) {j : Nat} {x : ActD} (hj : l[j]? = some x) :
    ∃ b off, a = some ⟨b, off, none⟩ ∧ b < w.heap.size ∧ w.cell? ⟨b, off + j * 4, none⟩ = some (.int .i64 x.n) ∧ w.cell? ⟨b, off + j * 4 + 1, none⟩ = some (.bool x.over) ∧ w.cell? ⟨b, off + j * 4 + 2, none⟩ = some (.bool x.well) ∧ w.cell? ⟨b, off + j * 4 + 3, none⟩ = some (.int .i64 x.took) := by
  obtain ⟨b, off, ha, hb, hc⟩ := h.2.2 j x hj
  exact ⟨b, off, ha, hb, hc 0 _ rfl, hc 1 _ rfl, hc 2 _ rfl, hc 3 _ rfl⟩
theorem act_open {H : Type} {enc : TypeId × Value → H} {W : World} {base : Nat} {sp : Nat → Bool} {held : Bool} {n : Nat} {cs : List Value} {x : DataW H × List MemPlace}
    (h : DataW.trod enc Tryd.prog W base sp held n 33 cs = some x) : ∃ a : ActD, cs = actL a ∧ (Lit.int .i64 a.n).wf = true := by
  obtain ⟨xs, k, hk, hxy, hcl, hxl, hf⟩ := DataW.trod_struct Tryd.underlying33 h
  have hc4 : Tryd.prog.cellsOf 33 = 4 := by kernel_rfl
  have c1 : Tryd.prog.cellsOf 3 = 1 := by kernel_rfl
  have c2 : Tryd.prog.cellsOf 4 = 1 := by kernel_rfl
  rw [hc4] at hcl
  match xs, hxl, cs, hcl with
  | [y0, y1, y2, y3], _, [v0, v1, v2, v3], _ =>
    have g0 := hf 0 _ rfl
    have g1 := hf 1 _ rfl
    have g2 := hf 2 _ rfl
    have g3 := hf 3 _ rfl
    simp [c1, c2] at g0 g1 g2 g3
    obtain ⟨z0, e0, _, q0⟩ := DataW.trod_int Tryd.underlying3 g0
    obtain ⟨z1, e1, _⟩ := DataW.trod_bool Tryd.underlying4 g1
    obtain ⟨z2, e2, _⟩ := DataW.trod_bool Tryd.underlying4 g2
    obtain ⟨z3, e3, _, q3⟩ := DataW.trod_int Tryd.underlying3 g3
    simp only [List.cons.injEq, and_true] at e0 e1 e2 e3
    exact ⟨⟨z0, z1, z2, z3⟩, by rw [e0, e1, e2, e3]; rfl, q0⟩
theorem acts_of {W : World} (x : Addr) (n c : Nat) (hn : n ≤ c) (hc : c ≤ maxLen) (h : ∀ i, i < n → ∃ a : ActD, (∀ j, j < 4 → W.cell? ((x.add (i * 4)).add j) = (actL a)[j]?) ∧ (Lit.int .i64 a.n).wf = true) :
    ∃ L, Rd actE W (some x) n L ∧ ∀ y ∈ L, (Lit.int .i64 y.n).wf = true := by
  have hn63 : n ≤ 9223372036854775807 := by simp only [maxLen] at hc; omega
  have key : ∀ k, k ≤ n → ∃ L : List ActD, L.length = k ∧ (∀ y ∈ L, (Lit.int .i64 y.n).wf = true) ∧ ∀ j y, L[j]? = some y → ∀ i, i < 4 → W.cell? ((x.add (j * 4)).add i) = (actL y)[i]? := by
    intro k
    induction k with
    | zero => intro _; exact ⟨[], rfl, by simp, by simp⟩
    | succ k ih =>
      intro hk
      obtain ⟨L, hl, hs, hcell⟩ := ih (by omega)
      obtain ⟨a, ca, wa⟩ := h k (by omega)
      refine ⟨L ++ [a], by simp [hl], fun y hy => ?_, fun j y hy => ?_⟩
      · rcases List.mem_append.1 hy with h1 | h1
        · exact hs y h1
        · simp at h1; subst h1; exact wa
      · by_cases hj : j < L.length
        · rw [List.getElem?_append_left hj] at hy; exact hcell j y hy
        · rw [List.getElem?_append_right (by omega)] at hy
          have hj2 : j - L.length < 1 := by
            rcases Nat.lt_or_ge (j - L.length) 1 with h' | h'
            · exact h'
            · rw [List.getElem?_eq_none (by simpa using h')] at hy; cases hy
          have : j = k := by omega
          subst this
          rw [show j - L.length = 0 from by omega] at hy
          simp at hy
          subst hy
          exact ca
  obtain ⟨L, hl, hs, hcell⟩ := key n (Nat.le_refl _)
  refine ⟨L, ⟨hl, hn63, fun j y hj => ?_⟩, hs⟩
  have hq := hcell j y hj
  obtain ⟨b, off, spot⟩ := x
  have hspot : spot = none := by
    obtain ⟨z, hz⟩ := get_of_lt (l := L) (j := 0) (by have := get_lt hj; omega)
    have := World.cell?_spot ((hcell 0 z hz 0 (by omega)).trans (show _ = some (Value.int .i64 z.n) from rfl))
    simpa [Addr.add] using this
  subst hspot
  have h0 := (hq 0 (by omega)).trans (show _ = some (Value.int .i64 y.n) from rfl)
  rw [Addr.add_lit, Addr.add_lit] at h0
  refine ⟨b, off, rfl, World.block_lt_of_cell? W ⟨b, off + j * 4 + 0, none⟩ h0, fun i u hu => ?_⟩
  have hi : i < 4 := by have := get_lt hu; exact this
  have h1 := hq i hi
  rw [Addr.add_lit, Addr.add_lit] at h1
  have hk : j * actE.k = j * 4 := rfl
  rw [hk, ← Nat.add_assoc, h1]
  exact hu
end Go.Proofs.YtdamhohoeobfgaaDoor
