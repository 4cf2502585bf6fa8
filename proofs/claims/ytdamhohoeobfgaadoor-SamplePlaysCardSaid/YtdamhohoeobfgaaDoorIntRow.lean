/- Rows of ints that a call owns. -/
import Derived.Test.YtdamhohoeobfgaaDoorRows2
import Derived.Test.YtdamhohoeobfgaaDoorHas
set_option linter.unusedVariables false
namespace Go.Proofs.YtdamhohoeobfgaaDoor
open Go.RowKit

def numE : Enc Int := ⟨fun z => [.int .i64 z], 1, fun _ => rfl, fun s u h => by simp at h; subst h; rfl⟩
theorem numE_row (l : List Int) : rowOf numE l = i64s l := by
  induction l with
  | nil => rfl
  | cons a l ih => rw [rowOf_cons, ih]; rfl
theorem num_own {w : World} {base : Nat} {T : TypeId} {v : Value} {l : List Int} (h : Own numE w base T v l) : w.ownsRow base T 1 v l.length (i64s l) := by
  unfold Own at h
  rw [numE_row] at h
  exact h
theorem num_cell {w : World} {base g n c : Nat} {T : TypeId} {l : List Int} (h : Own numE w base T (.slice (some ⟨g, 0, none⟩) n c) l) {j : Nat} {x : Int} (hj : l[j]? = some x) : w.cell? ⟨g, j, none⟩ = some (.int .i64 x) := by
  have := h.cell j 0 x _ hj rfl
  simpa [numE] using this
theorem info_num : (Tryd.prog.info? 3).map (fun i => (i.zero, i.size, i.bytes)) = some (some (.int .i64 0), 1, 8) := by kernel_rfl
theorem app_num (w : World) {ops : Array Oper} {rest : List Oper} {o : Oper} {a : Act} {Q : Exit → Act → World → Prop} (hgd : o.guard = none) (s x : Operand)
    (ho : o.op = .call { callee := .builtin .append, args := #[s, x], argTypes := #[44, 44] }) (base : Nat)
    (v : Value) (l : List Int) (hs : a.eval s = v) (hown : Own numE w base 3 v l) (el : Int) (cs : Array Value) (hcs : cs.toList = [.int .i64 el])
    (H : Nat) (hH : w.heap.size = H) (hx : a.eval x = .slice (some ⟨H, 0, none⟩) 1 1) (hsm : l.length ≤ 1000000) (hbase : base ≤ w.heap.size)
    (h : ∀ v' w', Own numE w' base 3 v' (l ++ [el]) → Frm (fun i => some i = v.ownBlock) (w.alloc (.cells cs 3)) w' → Frm (fun i => some i = v.ownBlock) w w' → (v'.ownBlock = v.ownBlock ∨ ∃ g, v'.ownBlock = some g ∧ w.heap.size < g ∧ g < w'.heap.size) →
      v' ≠ .slice none 0 0 → wpList Tryd.prog ops Q rest (a.put o.dst v') w') : wpList Tryd.prog ops Q (o :: rest) a (w.alloc (.cells cs 3)) := by
  obtain ⟨i, hi, hz, h1, h2⟩ := info_parts info_num
  exact wpl_app1 numE w hgd s x 44 ho base 3 i _ 8 Tryd.underlying44 hi hz h1 h2 rfl (by decide) (by omega) v l hs hown el cs hcs H hH hx hsm hbase h
end Go.Proofs.YtdamhohoeobfgaaDoor
