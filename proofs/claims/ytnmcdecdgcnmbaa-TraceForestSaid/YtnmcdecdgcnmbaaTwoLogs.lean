/- Two logs and a tree side by side. -/
import Derived.Test.YtnmcdecdgcnmbaaTreeC
import Derived.Test.YtnmcdecdgcnmbaaTraceLives
set_option linter.unusedVariables false
namespace Go.Proofs.Ytnmcdecdgcnmbaa
open Go.RowKit

structure Two (w wr : World) (b1 b2 : Nat) (L1 L2 : List Spn) (O1 O2 : Nat → Prop) (v : Value) (T : List Spn) : Prop where
  l1 : LogIs wr b1 L1 O1
  l2 : LogIs wr b2 L2 O2
  dis : ∀ j, O1 j → ¬ O2 j
  row : Own spnE wr w.heap.size 35 v T
  r1 : ∀ j, v.ownBlock = some j → ¬ O1 j ∧ ¬ O2 j
  n1 : ∀ j, O1 j → w.heap.size ≤ j
  n2 : ∀ j, O2 j → w.heap.size ≤ j
  frm : Frm noB w wr
theorem Two.swap {w wr : World} {b1 b2 : Nat} {L1 L2 : List Spn} {O1 O2 : Nat → Prop} {v : Value} {T : List Spn} (h : Two w wr b1 b2 L1 L2 O1 O2 v T) : Two w wr b2 b1 L2 L1 O2 O1 v T :=
  ⟨h.l2, h.l1, fun j h2 h1 => h.dis j h1 h2, h.row, fun j hj => ⟨(h.r1 j hj).2, (h.r1 j hj).1⟩, h.n2, h.n1, h.frm⟩
theorem Two.keep {w wr wx : World} {b1 b2 : Nat} {L1 L2 : List Spn} {O1 O2 : Nat → Prop} {v : Value} {T : List Spn} (h : Two w wr b1 b2 L1 L2 O1 O2 v T) (f : Frm noB wr wx) : Two w wx b1 b2 L1 L2 O1 O2 v T :=
  ⟨h.l1.frm f (fun _ _ h => h), h.l2.frm f (fun _ _ h => h), h.dis, h.row.keep f, h.r1, h.n1, h.n2, h.frm.trans f⟩
/-- .. where a block has turned that is newer than all of them. -/
theorem Two.keepN {w wr wx : World} {b1 b2 : Nat} {L1 L2 : List Spn} {O1 O2 S : Nat → Prop} {v : Value} {T : List Spn} (h : Two w wr b1 b2 L1 L2 O1 O2 v T) (f : Frm S wr wx) (hS : ∀ j, S j → wr.heap.size ≤ j) : Two w wx b1 b2 L1 L2 O1 O2 v T :=
  ⟨h.l1.frm f (fun j hj hs => by have := h.l1.lt j hj; have := hS j hs; omega), h.l2.frm f (fun j hj hs => by have := h.l2.lt j hj; have := hS j hs; omega), h.dis,
    h.row.frm f (fun j hj hs => by have := (h.row.lt j hj).2; have := hS j hs; omega), h.r1, h.n1, h.n2, h.frm.new f (fun i hi hs => by have := h.frm.size; have := hS i hs; omega)⟩
theorem Two.note {w wr w' : World} {b1 b2 : Nat} {L1 L1' L2 : List Spn} {O1 O1' O2 : Nat → Prop} {v : Value} {T : List Spn} (h : Two w wr b1 b2 L1 L2 O1 O2 v T) (hl : LogIs w' b1 L1' O1') (hf : Frm O1 wr w') (hO : ∀ j, O1' j → O1 j ∨ wr.heap.size ≤ j) :
    Two w w' b1 b2 L1' L2 O1' O2 v T := by
  have hz := h.frm.size
  refine ⟨hl, h.l2.frm hf (fun j h2 h1 => h.dis j h1 h2), ?_, h.row.frm hf (fun j hj => (h.r1 j hj).1), ?_, ?_, h.n2, h.frm.new hf (fun i hi hh => by have := h.n1 i hh; omega)⟩
  · intro j h1 h2
    rcases hO j h1 with h3 | h3
    · exact h.dis j h3 h2
    · have := h.l2.lt j h2; omega
  · intro j hj
    refine ⟨fun h1 => ?_, (h.r1 j hj).2⟩
    rcases hO j h1 with h3 | h3
    · exact (h.r1 j hj).1 h3
    · have := (h.row.lt j hj).2; omega
  · intro j h1
    rcases hO j h1 with h3 | h3
    · exact h.n1 j h3
    · omega
theorem Own.blk {α : Type} {E : Enc α} {w : World} {base : Nat} {T : TypeId} {v : Value} {l : List α} (h : Own E w base T v l) (hl : 0 < l.length) :
    ∃ g cap cur, v = .slice (some ⟨g, 0, none⟩) l.length cap ∧ base ≤ g ∧ Blk w g cur T ∧ l.length ≤ cap ∧ cap ≤ 9223372036854775807 ∧ cur.size = cap * E.k := by
  rcases h.2 with ⟨_, h0⟩ | ⟨g, cap, cur, hv, hb, hg, hnc, hcm, hcs, htk⟩
  · omega
  · exact ⟨g, cap, cur, hv, hb, hg, hnc, by simpa only [maxLen] using hcm, by simpa using hcs⟩
theorem nm_size (x : Spn) : x.name.size = (nm x).length := (ba_len _).symm
theorem ownL_own (T : List Spn) : ownL (ownL T 1) 1 = ownL T 1 ∧ ownL (ownL T 1) 2 = [] := by
  unfold ownL
  rw [List.filter_filter, List.filter_filter]
  refine ⟨by congr 1; funext s; simp, ?_⟩
  rw [List.filter_eq_nil_iff]
  intro s _ h
  simp at h
  omega

/-- One log and a tree. -/
structure One (w wr : World) (b : Nat) (L : List Spn) (O : Nat → Prop) (v : Value) (T : List Spn) : Prop where
  l : LogIs wr b L O
  row : Own spnE wr w.heap.size 35 v T
  r : ∀ j, v.ownBlock = some j → ¬ O j
  n : ∀ j, O j → w.heap.size ≤ j
  frm : Frm noB w wr
theorem One.keep {w wr wx : World} {b : Nat} {L : List Spn} {O : Nat → Prop} {v : Value} {T : List Spn} (h : One w wr b L O v T) (f : Frm noB wr wx) : One w wx b L O v T :=
  ⟨h.l.frm f (fun _ _ h => h), h.row.keep f, h.r, h.n, h.frm.trans f⟩
theorem One.note {w wr w' : World} {b : Nat} {L L' : List Spn} {O O' : Nat → Prop} {v : Value} {T : List Spn} (h : One w wr b L O v T) (hl : LogIs w' b L' O') (hf : Frm O wr w') (hO : ∀ j, O' j → O j ∨ wr.heap.size ≤ j) : One w w' b L' O' v T := by
  have hz := h.frm.size
  refine ⟨hl, h.row.frm hf h.r, ?_, ?_, h.frm.new hf (fun i hi hh => by have := h.n i hh; omega)⟩
  · intro j hj h1
    rcases hO j h1 with h3 | h3
    · exact h.r j hj h3
    · have := (h.row.lt j hj).2; omega
  · intro j h1
    rcases hO j h1 with h3 | h3
    · exact h.n j h3
    · omega

/-- append of some elements that lie in a block, at an operation's step. -/
theorem wp_appg {P : Program} {α : Type} (E : Enc α) (w : World) {o : Oper} {a : Act} {K : Act → World → Prop} {Q : Exit → Act → World → Prop} (s x : Operand) (t : TypeId)
    (ho : o.op = .call { callee := .builtin .append, args := #[s, x], argTypes := #[t, t] })
    (base : Nat) (e : TypeId) (i : TypeInfo) (z : Value) (bytes : Nat) (ht : P.underlying t = some (.slice e)) (hi : P.info? e = some i) (hz : i.zero = some z)
    (hsize : i.size = E.k) (hby : i.bytes = bytes) (hzs : z.cells.size = E.k) (hsz : 0 < E.k) (hb8 : bytes ≤ 10000)
    (v : Value) (l : List α) (hs : a.eval s = v) (hown : Own E w base e v l) (els : List α) (n : Nat) (hn : els.length = n) (hn0 : 0 < n) (hn1 : n ≤ 1000) (B : Nat) (hx : a.eval x = .slice (some ⟨B, 0, none⟩) n n) (cs : Array Value) (hB : Blk w B cs e) (hcs : cs.toList = rowOf E els)
    (hsm : l.length ≤ 1000000) (hbase : base ≤ w.heap.size)
    (h : ∀ v' w', Own E w' base e v' (l ++ els) → Frm (fun i => some i = v.ownBlock) w w' → (v'.ownBlock = v.ownBlock ∨ v'.ownBlock = some w.heap.size) → v' ≠ .slice none 0 0 → K (a.put o.dst v') w') : Oper.wp P o a w K Q := by
  subst hn
  have hnews : ∀ (j : Nat) (u : Value), (rowOf E els)[j]? = some u → w.cell? ((⟨B, 0, none⟩ : Addr).add j) = some u := by
    intro j u hu
    rw [Addr.add_lit, Nat.zero_add, hB.cell]
    rw [← hcs] at hu
    simpa using hu
  obtain ⟨v', w', hrun, h1, h2, h3, h4⟩ := run_append_own_at (P := P) w base t o.type e i z E.k bytes ht hi hz hsize hby hzs hsz v l.length (rowOf E l) hown ⟨B, 0, none⟩ els.length els.length (rowOf E els)
    (by rw [rowOf_len]) hnews (rowOf_one E _) (by simp only [maxLen]; omega) (by have := Nat.mul_le_mul (show l.length + els.length ≤ 1001000 by omega) hb8; omega) hbase
  have hown' : Own E w' base e v' (l ++ els) := by unfold Own; rw [rowOf_app, List.length_append]; exact h1
  have := h v' w' hown' (Frm.ofGrown h2) h4 (by intro hh; have := h3.1 hh; omega)
  unfold Oper.wp
  simp [execOp, ho, resolve, invoke, builtin, hs, hx, hrun, Result.andThen]
  exact this
theorem step_appg_spn (w : World) {ops : Array Oper} {o : Oper} {a : Act} {K : Act → World → Prop} {Q : Exit → Act → World → Prop} {X : Prop} (hgd : Region.wanted o (yielded ops a.tmps) = true) (s x : Operand)
    (ho : o.op = .call { callee := .builtin .append, args := #[s, x], argTypes := #[30, 30] }) (base : Nat)
    (v : Value) (l : List Spn) (hs : a.eval s = v) (hown : Own spnE w base 35 v l) (els : List Spn) (n : Nat) (hn : els.length = n) (hn0 : 0 < n) (hn1 : n ≤ 1000) (B : Nat) (hx : a.eval x = .slice (some ⟨B, 0, none⟩) n n) (cs : Array Value) (hB : Blk w B cs 35) (hcs : cs.toList = rowOf spnE els)
    (hsm : l.length ≤ 1000000) (hbase : base ≤ w.heap.size)
    (h : ∀ v' w', Own spnE w' base 35 v' (l ++ els) → Frm (fun i => some i = v.ownBlock) w w' → (v'.ownBlock = v.ownBlock ∨ v'.ownBlock = some w.heap.size) → v' ≠ .slice none 0 0 → K (a.put o.dst v') w') :
    if Region.wanted o (yielded ops a.tmps) = true then Oper.wp Try.prog o a w K Q else X := by
  rw [if_pos hgd]
  obtain ⟨i, hi, hz, h1, h2⟩ := info_parts info_spn
  exact wp_appg spnE w s x 30 ho base 35 i _ 56 Try.underlying30 hi hz h1 h2 rfl (by decide) (by omega) v l hs hown els n hn hn0 hn1 B hx cs hB hcs hsm hbase h
end Go.Proofs.Ytnmcdecdgcnmbaa
