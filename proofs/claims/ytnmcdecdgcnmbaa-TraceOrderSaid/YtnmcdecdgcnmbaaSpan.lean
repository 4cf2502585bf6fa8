/- Spans: their cells, slices of them, cloned ones. -/
import Derived.Test.YtnmcdecdgcnmbaaRows2
import Derived.Test.YtnmcdecdgcnmbaaBs
set_option linter.unusedVariables false
namespace Go.Proofs.Ytnmcdecdgcnmbaa
open Go.RowKit

structure Spn where
  name : ByteArray
  serv : Int
  frm : Int
  til : Int
  well : Bool
  kids : Int
def spnL (s : Spn) : List Value := [.string s.name, .int .i64 s.serv, .int .i64 s.frm, .int .i64 s.til, .bool s.well, .int .i64 s.kids]
def spnV (s : Spn) : Value := .agg #[.string s.name, .int .i64 s.serv, .int .i64 s.frm, .int .i64 s.til, .bool s.well, .int .i64 s.kids]
def spnE : Enc Spn := ⟨spnL, 6, fun _ => rfl, fun s u h => by simp [spnL] at h; rcases h with rfl | rfl | rfl | rfl | rfl | rfl <;> rfl⟩
theorem info_spn : (Try.prog.info? 35).map (fun i => (i.zero, i.size, i.bytes)) = some (some (.agg #[.string ⟨#[]⟩, .int .i64 0, .int .i64 0, .int .i64 0, .bool false, .int .i64 0]), 6, 56) := by kernel_rfl
theorem spn_cells {w : World} {base g n c : Nat} {T : TypeId} {l : List Spn} (h : Own spnE w base T (.slice (some ⟨g, 0, none⟩) n c) l) {j : Nat} {x : Spn} (hj : l[j]? = some x) :
    w.cell? ⟨g, j * 6, none⟩ = some (.string x.name) ∧ w.cell? ⟨g, j * 6 + 1, none⟩ = some (.int .i64 x.serv) ∧ w.cell? ⟨g, j * 6 + 2, none⟩ = some (.int .i64 x.frm) ∧ w.cell? ⟨g, j * 6 + 3, none⟩ = some (.int .i64 x.til) ∧
      w.cell? ⟨g, j * 6 + 4, none⟩ = some (.bool x.well) ∧ w.cell? ⟨g, j * 6 + 5, none⟩ = some (.int .i64 x.kids) :=
  ⟨h.cell j 0 x _ hj rfl, h.cell j 1 x _ hj rfl, h.cell j 2 x _ hj rfl, h.cell j 3 x _ hj rfl, h.cell j 4 x _ hj rfl, h.cell j 5 x _ hj rfl⟩
theorem spn_rd {w : World} {a : Option Addr} {n : Nat} {l : List Spn} (h : Rd spnE w a n l) {j : Nat} {x : Spn} (hj : l[j]? = some x) :
    ∃ b off, a = some ⟨b, off, none⟩ ∧ b < w.heap.size ∧ w.cell? ⟨b, off + j * 6, none⟩ = some (.string x.name) ∧ w.cell? ⟨b, off + j * 6 + 1, none⟩ = some (.int .i64 x.serv) ∧ w.cell? ⟨b, off + j * 6 + 2, none⟩ = some (.int .i64 x.frm) ∧ w.cell? ⟨b, off + j * 6 + 3, none⟩ = some (.int .i64 x.til) ∧
      w.cell? ⟨b, off + j * 6 + 4, none⟩ = some (.bool x.well) ∧ w.cell? ⟨b, off + j * 6 + 5, none⟩ = some (.int .i64 x.kids) := by
  obtain ⟨b, off, ha, hb, hc⟩ := h.2.2 j x hj
  exact ⟨b, off, ha, hb, hc 0 _ rfl, hc 1 _ rfl, hc 2 _ rfl, hc 3 _ rfl, hc 4 _ rfl, hc 5 _ rfl⟩

theorem app_spn (w : World) {ops : Array Oper} {rest : List Oper} {o : Oper} {a : Act} {Q : Exit → Act → World → Prop} (hgd : o.guard = none) (s x : Operand)
    (ho : o.op = .call { callee := .builtin .append, args := #[s, x], argTypes := #[30, 30] }) (base : Nat)
    (v : Value) (l : List Spn) (hs : a.eval s = v) (hown : Own spnE w base 35 v l) (el : Spn) (cs : Array Value) (hcs : cs.toList = spnL el)
    (H : Nat) (hH : w.heap.size = H) (hx : a.eval x = .slice (some ⟨H, 0, none⟩) 1 1) (hsm : l.length ≤ 1000000) (hbase : base ≤ w.heap.size)
    (h : ∀ v' w', Own spnE w' base 35 v' (l ++ [el]) → Frm (fun i => some i = v.ownBlock) (w.alloc (.cells cs 35)) w' → Frm (fun i => some i = v.ownBlock) w w' → (v'.ownBlock = v.ownBlock ∨ ∃ g, v'.ownBlock = some g ∧ w.heap.size < g ∧ g < w'.heap.size) →
      v' ≠ .slice none 0 0 → wpList Try.prog ops Q rest (a.put o.dst v') w') : wpList Try.prog ops Q (o :: rest) a (w.alloc (.cells cs 35)) := by
  obtain ⟨i, hi, hz, h1, h2⟩ := info_parts info_spn
  exact wpl_app1 spnE w hgd s x 30 ho base 35 i _ 56 Try.underlying30 hi hz h1 h2 rfl (by decide) (by omega) v l hs hown el cs hcs H hH hx hsm hbase h
/-- .. at a step of a region that draws its order. -/
theorem step_app_spn (w : World) {ops : Array Oper} {o : Oper} {a : Act} {K : Act → World → Prop} {Q : Exit → Act → World → Prop} {X : Prop} (hgd : o.guard = none) (s x : Operand)
    (ho : o.op = .call { callee := .builtin .append, args := #[s, x], argTypes := #[30, 30] }) (base : Nat)
    (v : Value) (l : List Spn) (hs : a.eval s = v) (hown : Own spnE w base 35 v l) (el : Spn) (B : Nat) (hx : a.eval x = .slice (some ⟨B, 0, none⟩) 1 1) (cs : Array Value) (hB : Blk w B cs 35) (hcs : cs.toList = spnL el)
    (hsm : l.length ≤ 1000000) (hbase : base ≤ w.heap.size)
    (h : ∀ v' w', Own spnE w' base 35 v' (l ++ [el]) → Frm (fun i => some i = v.ownBlock) w w' → (v'.ownBlock = v.ownBlock ∨ v'.ownBlock = some w.heap.size) → v' ≠ .slice none 0 0 → K (a.put o.dst v') w') :
    if Region.wanted o (yielded ops a.tmps) = true then Oper.wp Try.prog o a w K Q else X := by
  have hw : Region.wanted o (yielded ops a.tmps) = true := by simp [Region.wanted, hgd]
  rw [if_pos hw]
  obtain ⟨i, hi, hz, h1, h2⟩ := info_parts info_spn
  exact wp_app1g spnE w s x 30 ho base 35 i _ 56 Try.underlying30 hi hz h1 h2 rfl (by decide) (by omega) v l hs hown el B hx cs hB hcs hsm hbase h
end Go.Proofs.Ytnmcdecdgcnmbaa
