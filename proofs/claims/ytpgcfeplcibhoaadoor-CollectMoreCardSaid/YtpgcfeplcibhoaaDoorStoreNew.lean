/- A whole block that has just been laid, stored into: no unrolling. -/
import Derived.Test.YtpgcfeplcibhoaaDoorLib
import Derived.Laws.Tables
import Derived.Deep.WholeRow
import Derived.Deep.MidRow
set_option linter.unusedVariables false
namespace Go.Proofs.YtpgcfeplcibhoaaDoor
open Go.RowKit

theorem blk_range {w : World} {B : Nat} {cs : Array Value} {T : TypeId} (h : Blk w B cs T) : w.rangeAt B 0 cs.toList := fun j v hv => by
  rw [Nat.zero_add, h.cell]; simpa using hv
section
variable {P : Program}
theorem wpl_store_new (w : World) {ops : Array Oper} {rest : List Oper} {o : Oper} {a : Act} {Q : Exit → Act → World → Prop} (hgd : o.guard = none) (ty : TypeId) (x y : Operand) (ho : o.op = .store ty x y)
    (H : Nat) (hx : a.eval x = .pointer (some ⟨H, 0, none⟩)) (hH : w.heap.size = H) (cells old : Array Value) (T : TypeId) (hy : a.eval y = .agg cells) (hi : (P.info? ty).map (·.size) = some cells.size)
    (hold : old.size = cells.size) (h1 : cells.all (·.oneCell') = true)
    (h : wpList P ops Q rest (a.put o.dst undef) (w.alloc (.cells cells T))) : wpList P ops Q (o :: rest) a (w.alloc (.cells old T)) := by
  subst hH
  refine wpList_store_row hgd ty x y ho _ cells hx hy T old (heap_alloc_new w _) hi hold h1 ?_
  rw [World.setRow_alloc_new]
  exact h
theorem setRow_frm (w : World) (g : Nat) (cs : Array Value) : Frm (oneB g) w (w.setRow g cs) :=
  ⟨rfl, rfl, rfl, by simp [World.setRow], fun k hk hs => by
    unfold World.setRow
    simp only [Array.getElem?_modify]
    rw [if_neg (fun e => hs e.symm)]⟩
/-- A whole block that is known, stored into. -/
theorem wp_store_blk {w : World} {o : Oper} {a : Act} {K : Act → World → Prop} {Q : Exit → Act → World → Prop} (ty : TypeId) (x y : Operand) (ho : o.op = .store ty x y)
    (B : Nat) (hx : a.eval x = .pointer (some ⟨B, 0, none⟩)) (old : Array Value) (T : TypeId) (hB : Blk w B old T) (cells : Array Value) (hy : a.eval y = .agg cells) (hi : (P.info? ty).map (·.size) = some cells.size)
    (hold : old.size = cells.size) (h1 : cells.all (·.oneCell') = true)
    (h : ∀ w', Blk w' B cells T → Frm (oneB B) w w' → K (a.put o.dst undef) w') : o.wp P a w K Q :=
  wp_store_row ty x y ho B cells hx hy T old hB hi hold h1 (h _ (setRow_heap w B old cells T _ hB) (setRow_frm w B cells))
theorem wpl_store_blk {w : World} {ops : Array Oper} {rest : List Oper} {o : Oper} {a : Act} {Q : Exit → Act → World → Prop} (hgd : o.guard = none) (ty : TypeId) (x y : Operand) (ho : o.op = .store ty x y)
    (B : Nat) (hx : a.eval x = .pointer (some ⟨B, 0, none⟩)) (old : Array Value) (T : TypeId) (hB : Blk w B old T) (cells : Array Value) (hy : a.eval y = .agg cells) (hi : (P.info? ty).map (·.size) = some cells.size)
    (hold : old.size = cells.size) (h1 : cells.all (·.oneCell') = true)
    (h : ∀ w', Blk w' B cells T → Frm (oneB B) w w' → wpList P ops Q rest (a.put o.dst undef) w') : wpList P ops Q (o :: rest) a w :=
  wpList_plain hgd fun _ hK => wp_store_blk ty x y ho B hx old T hB cells hy hi hold h1 (fun w' h1 h2 => hK _ _ (h w' h1 h2))
/-- .. read whole. -/
theorem wpl_load_blk {w : World} {ops : Array Oper} {rest : List Oper} {o : Oper} {a : Act} {Q : Exit → Act → World → Prop} (hw : Region.wanted o (yielded ops a.tmps) = true) (ty : TypeId) (x : Operand) (ho : o.op = .load ty x)
    (B : Nat) (hx : a.eval x = .pointer (some ⟨B, 0, none⟩)) (cs : Array Value) (T : TypeId) (hB : Blk w B cs T) (d : TypeDesc) (hu : P.underlying ty = some d) (hd : d.isRow = true) (hi : (P.info? ty).map (·.size) = some cs.size)
    (h : wpList P ops Q rest (a.put o.dst (.agg cs)) w) : wpList P ops Q (o :: rest) a w := by
  refine wpList_step fun K hK => ?_
  rw [if_pos hw]
  refine wp_load_mid ty x ho B 0 hx cs.toList d (fun j v hv => ?_) hu hd (by rw [hi]; simp) ?_
  · rw [Nat.zero_add, hB.cell]; simpa using hv
  · exact hK _ _ (by simpa using h)
end
end Go.Proofs.YtpgcfeplcibhoaaDoor
