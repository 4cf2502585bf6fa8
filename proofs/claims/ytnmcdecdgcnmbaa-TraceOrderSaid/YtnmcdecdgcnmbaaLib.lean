/- Facts on worlds that know no program: frames by a set of blocks, blocks known whole. -/
import Derived.Test.YtnmcdecdgcnmbaaRows
import Derived.WalkKit
import Derived.WalkSpells
import Derived.WalkLawsBesides
import Derived.Lib.Hide
import Derived.Deep.QuietTactic
import Derived.BigQuiet
import Derived.Laws.EntriesVeiled
set_option linter.unusedVariables false
namespace Go.Proofs.Ytnmcdecdgcnmbaa
open Go.RowKit

/-- Beside the blocks of S all that was there is as it was. -/
structure Frm (S : Nat → Prop) (w w' : World) : Prop where
  os : w'.os = w.os
  tape : w'.tape = w.tape
  output : w'.output = w.output
  size : w.heap.size ≤ w'.heap.size
  block : ∀ k, k < w.heap.size → ¬ S k → w'.heap[k]? = w.heap[k]?

def noB : Nat → Prop := fun _ => False
def oneB (b : Nat) : Nat → Prop := fun k => k = b

theorem Frm.refl (S : Nat → Prop) (w : World) : Frm S w w := ⟨rfl, rfl, rfl, Nat.le_refl _, fun _ _ _ => rfl⟩
theorem Frm.trans {S : Nat → Prop} {a b c : World} (h : Frm S a b) (k : Frm S b c) : Frm S a c :=
  ⟨k.os.trans h.os, k.tape.trans h.tape, k.output.trans h.output, Nat.le_trans h.size k.size,
   fun i hi hs => (k.block i (Nat.lt_of_lt_of_le hi h.size) hs).trans (h.block i hi hs)⟩
theorem Frm.mono {S T : Nat → Prop} {w w' : World} (h : Frm S w w') (hs : ∀ k, k < w.heap.size → S k → T k) : Frm T w w' :=
  ⟨h.os, h.tape, h.output, h.size, fun k hk ht => h.block k hk (fun s => ht (hs k hk s))⟩
theorem Frm.drew {S : Nat → Prop} {a w : World} (h : Frm S a w) : Frm S a w.drew := ⟨h.os, h.tape, h.output, h.size, h.block⟩
theorem Frm.drewN {S : Nat → Prop} {a w : World} (h : Frm S a w) (n : Nat) : Frm S a (w.drewN n) := ⟨h.os, h.tape, h.output, h.size, h.block⟩
theorem Frm.alloc {S : Nat → Prop} {a w : World} (h : Frm S a w) (o : Obj) : Frm S a (w.alloc o) :=
  h.trans ⟨rfl, rfl, rfl, by simp, fun k hk _ => Below.heap_alloc _ _ _ hk⟩
theorem Frm.setCell {S : Nat → Prop} {a w : World} (h : Frm S a w) {p : Addr} (hp : S p.block) (u : Value) : Frm S a (w.setCell p u) :=
  h.trans ⟨rfl, rfl, rfl, by simp [World.setCell], fun k _ hs => Below.heap_setCell _ _ _ _ (fun e => hs (e ▸ hp))⟩
theorem Frm.setOne {b : Nat} {a w : World} (h : Frm (oneB b) a w) (o : Nat) (u : Value) : Frm (oneB b) a (w.setCell ⟨b, o, none⟩ u) := h.setCell (p := ⟨b, o, none⟩) rfl u
/-- A store into a block that was not there at the beginning. -/
theorem Frm.setNew {S : Nat → Prop} {a w : World} (h : Frm S a w) {p : Addr} (hp : a.heap.size ≤ p.block) (u : Value) : Frm S a (w.setCell p u) :=
  ⟨h.os, h.tape, h.output, by simpa [World.setCell] using h.size, fun k hk hs => (Below.heap_setCell _ _ _ _ (by omega)).trans (h.block k hk hs)⟩
/-- A frame whose set lies behind the first world's blocks. -/
theorem Frm.new {S T : Nat → Prop} {a w w' : World} (h : Frm S a w) (k : Frm T w w') (ht : ∀ i, i < a.heap.size → T i → S i) : Frm S a w' :=
  ⟨k.os.trans h.os, k.tape.trans h.tape, k.output.trans h.output, Nat.le_trans h.size k.size,
   fun i hi hs => (k.block i (Nat.lt_of_lt_of_le hi h.size) (fun t => hs (ht i hi t))).trans (h.block i hi hs)⟩
theorem Frm.below {S : Nat → Prop} {B : Nat} {w w' : World} (h : Frm S w w') (hB : B ≤ w.heap.size) (hs : ∀ k, k < B → ¬ S k) : Below B w w' :=
  ⟨h.os, h.tape, h.output, h.size, fun k hk => h.block k (by omega) (hs k hk)⟩
theorem Frm.ofBelow {w w' : World} {B : Nat} (h : Below B w w') (hB : w.heap.size ≤ B) (S : Nat → Prop) : Frm S w w' :=
  ⟨h.os, h.tape, h.output, h.size, fun k hk _ => h.block k (by omega)⟩
theorem Frm.ofGrown {w w' : World} {row : Option Nat} (h : w.grownBy w' row) : Frm (fun k => some k = row) w w' :=
  ⟨h.os, h.tape, h.output, h.size, fun k hk hs => h.block k hk hs⟩

/-- A block of cells that is known whole. -/
def Blk (w : World) (b : Nat) (cs : Array Value) (T : TypeId) : Prop := w.heap[b]? = some (.cells cs T (0, 0))
theorem Blk.lt {w : World} {b : Nat} {cs : Array Value} {T : TypeId} (h : Blk w b cs T) : b < w.heap.size := by
  unfold Blk at h
  exact (Array.getElem?_eq_some_iff.1 h).1
theorem Blk.cell {w : World} {b : Nat} {cs : Array Value} {T : TypeId} (h : Blk w b cs T) (o : Nat) : w.cell? ⟨b, o, none⟩ = cs[o]? := by
  simp [World.cell?, show w.heap[b]? = _ from h]
theorem Blk.free {w : World} {b : Nat} {cs : Array Value} {T : TypeId} (h : Blk w b cs T) (o : Nat) : w.frozen? ⟨b, o, none⟩ = false := by
  simp [World.frozen?, show w.heap[b]? = _ from h]
theorem Blk.set {w : World} {b : Nat} {cs : Array Value} {T : TypeId} (h : Blk w b cs T) (o : Nat) (v : Value) : Blk (w.setCell ⟨b, o, none⟩ v) b (cs.setIfInBounds o v) T := by
  unfold Blk at *
  simp [World.setCell, Array.getElem?_modify, h]
theorem Blk.set_ne {w : World} {b : Nat} {cs : Array Value} {T : TypeId} (h : Blk w b cs T) {a : Addr} (hne : b ≠ a.block) (v : Value) : Blk (w.setCell a v) b cs T := by
  unfold Blk at *
  rw [Below.heap_setCell _ _ _ _ hne]; exact h
theorem Blk.drew {w : World} {b : Nat} {cs : Array Value} {T : TypeId} (h : Blk w b cs T) : Blk w.drew b cs T := h
theorem Blk.alloc {w : World} {b : Nat} {cs : Array Value} {T : TypeId} (h : Blk w b cs T) (o : Obj) : Blk (w.alloc o) b cs T := by
  have := h.lt
  unfold Blk at *
  rw [Below.heap_alloc _ _ _ this]; exact h
theorem Blk.made (w : World) (cs : Array Value) (T : TypeId) : Blk (w.alloc (.cells cs T)) w.heap.size cs T := by
  unfold Blk; exact heap_alloc_new w _
theorem Blk.frm {S : Nat → Prop} {w w' : World} {b : Nat} {cs : Array Value} {T : TypeId} (h : Blk w b cs T) (f : Frm S w w') (hs : ¬ S b) : Blk w' b cs T := by
  have := h.lt
  unfold Blk at *
  rw [f.block b this hs]; exact h

/-- A slice of n elements whose cells, one behind the other, hold xs. -/
def Sl (w : World) (v : Value) (n : Nat) (xs : List Value) : Prop :=
  (∃ a c, v = .slice a n c ∧ n = 0 ∧ xs = []) ∨ ∃ b off c, v = .slice (some ⟨b, off, none⟩) n c ∧ n ≤ c ∧ b < w.heap.size ∧ ∀ j, j < xs.length → w.cell? ⟨b, off + j, none⟩ = xs[j]?
theorem cell_frm {S : Nat → Prop} {w w' : World} (f : Frm S w w') {b o : Nat} {v : Value} (hb : ¬ S b) (h : w.cell? ⟨b, o, none⟩ = some v) : w'.cell? ⟨b, o, none⟩ = some v := by
  have hlt : b < w.heap.size := World.block_lt_of_cell? w ⟨b, o, none⟩ h
  rw [World.cell?_of_block (w := w) (f.block b hlt hb)]; exact h
theorem ownsRow_cells1 {w : World} {base : Nat} {e : TypeId} {size g n cap : Nat} {xs : List Value} (h : w.ownsRow base e size (.slice (some ⟨g, 0, none⟩) n cap) n xs) :
    ∀ j u, xs[j]? = some u → w.cell? ⟨g, j, none⟩ = some u := by
  intro j u hu
  have := h.cells (g := g) rfl j u hu
  rwa [Addr.add_lit, Nat.zero_add] at this

/-- A row of one-cell elements that the call owns, as a block known whole. -/
theorem ownsRow_blk {w : World} {base : Nat} {e : TypeId} {v : Value} {n : Nat} {xs : List Value} (h : w.ownsRow base e 1 v n xs) (hn : v ≠ .slice none 0 0) :
    ∃ g cap cur, v = .slice (some ⟨g, 0, none⟩) n cap ∧ base ≤ g ∧ Blk w g cur e ∧ n ≤ cap ∧ cap ≤ 9223372036854775807 ∧ cur.size = cap ∧ xs.length = n ∧ ∀ (j : Nat) (u : Value), xs[j]? = some u → cur[j]? = some u := by
  rcases h.2 with ⟨h1, _⟩ | ⟨g, cap, cur, hv, hb, hg, hnc, hcm, hcs, htk⟩
  · exact absurd h1 hn
  · refine ⟨g, cap, cur, hv, hb, hg, hnc, by simpa only [maxLen] using hcm, by simpa using hcs, by simpa using h.1, ?_⟩
    intro j u hu
    rw [← htk, List.getElem?_take] at hu
    split at hu
    · simpa using hu
    · simp at hu

def i64s (l : List Int) : List Value := l.map (Value.int .i64)
theorem i64s_get {l : List Int} {j : Nat} {x : Int} (h : l[j]? = some x) : (i64s l)[j]? = some (.int .i64 x) := by unfold i64s; rw [List.getElem?_map, h]; rfl
theorem i64s_len (l : List Int) : (i64s l).length = l.length := by unfold i64s; simp
theorem i64s_snoc (l : List Int) (x : Int) : i64s (l ++ [x]) = i64s l ++ [.int .i64 x] := by unfold i64s; simp
theorem i64s_one (l : List Int) : ∀ u ∈ i64s l, u.oneCell' = true := by simp [i64s, Value.oneCell']
def u64s (l : List Nat) : List Value := l.map fun (x : Nat) => Value.int .u64 (x : Int)
theorem u64s_one (l : List Nat) : ∀ u ∈ u64s l, u.oneCell' = true := by simp [u64s, Value.oneCell']
theorem u64s_get {l : List Nat} {j x : Nat} (h : l[j]? = some x) : (u64s l)[j]? = some (.int .u64 (x : Int)) := by unfold u64s; rw [List.getElem?_map, h]; rfl
theorem u64s_snoc (l : List Nat) (x : Nat) : u64s (l ++ [x]) = u64s l ++ [.int .u64 (x : Int)] := by unfold u64s; simp
/-- The one cell of a block that has just been laid. -/
theorem one_new (w : World) (x : Value) (T : TypeId) : ∀ (j : Nat) (u : Value), [x][j]? = some u → (w.alloc (.cells #[x] T)).cell? ((⟨w.heap.size, 0, none⟩ : Addr).add j) = some u := by
  intro j u hu
  rw [Addr.add_lit, World.cell?_alloc_new]
  rcases j with _ | j
  · simpa using hu
  · simp at hu
theorem get_lt {α : Type} {l : List α} {j : Nat} {x : α} (h : l[j]? = some x) : j < l.length := by
  rcases Nat.lt_or_ge j l.length with h' | h'
  · exact h'
  · rw [List.getElem?_eq_none h'] at h; simp at h
theorem get_of_lt {α : Type} {l : List α} {j : Nat} (h : j < l.length) : ∃ x, l[j]? = some x := ⟨_, List.getElem?_eq_getElem h⟩
/-- Behind an append to a row that the call owns, with a block laid between. -/
theorem Frm.grownOwn {S : Nat → Prop} {a w w' : World} {v : Value} {o : Obj} {base : Nat} {e : TypeId} {size n : Nat} {xs : List Value} (h : Frm S a w) (hg : (w.alloc o).grownBy w' v.ownBlock)
    (ho : w.ownsRow base e size v n xs) (hb : a.heap.size ≤ base) : Frm S a w' :=
  (h.alloc o).new (Frm.ofGrown hg) (fun i hi hk => by have := ho.lt i hk.symm; omega)

theorem ownsRow_at {w w' : World} {base : Nat} {e : TypeId} {size : Nat} {v : Value} {n : Nat} {xs : List Value} (h : w.ownsRow base e size v n xs) (f : ∀ k, v.ownBlock = some k → w'.heap[k]? = w.heap[k]?) :
    w'.ownsRow base e size v n xs := by
  refine ⟨h.1, ?_⟩
  rcases h.2 with h1 | ⟨g, cap, cur, h1, h2, h3, h4⟩
  · exact .inl h1
  · refine .inr ⟨g, cap, cur, h1, h2, ?_, h4⟩
    rw [f g (by rw [h1]; rfl)]; exact h3

theorem ownsRow_frm {S : Nat → Prop} {w w' : World} {base : Nat} {e : TypeId} {size : Nat} {v : Value} {n : Nat} {xs : List Value} (h : w.ownsRow base e size v n xs) (f : Frm S w w') (hs : ∀ b, base ≤ b → ¬ S b) :
    w'.ownsRow base e size v n xs := by
  refine ⟨h.1, ?_⟩
  rcases h.2 with h1 | ⟨g, cap, cur, h1, h2, h3, h4⟩
  · exact .inl h1
  · refine .inr ⟨g, cap, cur, h1, h2, ?_, h4⟩
    rw [f.block g (Array.getElem?_eq_some_iff.1 h3).1 (hs g h2)]; exact h3

theorem ret_bool {a b : Bool} (h : a = b) : Ending.returned (.bool a) = .returned (.bool b) := by rw [h]
theorem ret_int {k : IntKind} {a b : Int} (h : a = b) : Ending.returned (.int k a) = .returned (.int k b) := by rw [h]

theorem wf_i64 {a : Int} (h : (Lit.int .i64 a).wf = true) : -9223372036854775808 ≤ a ∧ a ≤ 9223372036854775807 := by
  simpa [Lit.wf, IntKind.min, IntKind.max, IntKind.signed, IntKind.bits] using h
theorem wf_u64 {a : Int} (h : (Lit.int .u64 a).wf = true) : ∃ n : Nat, a = (n : Int) ∧ n < 18446744073709551616 := by
  have h' : 0 ≤ a ∧ a ≤ 18446744073709551615 := by simpa [Lit.wf, IntKind.min, IntKind.max, IntKind.signed, IntKind.bits] using h
  exact ⟨a.toNat, by omega, by omega⟩
theorem wf_u8 {a : Int} (h : (Lit.int .u8 a).wf = true) : ∃ c : UInt8, a = (c.toNat : Int) := by
  have h' : 0 ≤ a ∧ a ≤ 255 := by simpa [Lit.wf, IntKind.min, IntKind.max, IntKind.signed, IntKind.bits] using h
  exact ⟨UInt8.ofNat a.toNat, by simp; omega⟩

/-- A slice of integers that came in: nil, or a row of cells. -/
def IsRow (k : IntKind) (w : World) (a : Option Addr) (len cap : Nat) (zs : List Int) : Prop :=
  (a = none ∧ len = 0 ∧ cap = 0 ∧ zs = []) ∨
  ∃ x, a = some x ∧ len ≤ cap ∧ cap ≤ maxLen ∧ zs.length = cap ∧ (∀ i, i < zs.length → w.cell? (x.add i) = some (.int k (zs.getD i 0))) ∧ ∀ n ∈ zs, (Lit.int k n).wf = true

/-- A slice of u64 that came in, as naturals. -/
theorem IsRow.u64 {w : World} {a : Option Addr} {n c : Nat} {z : List Int} (h : IsRow .u64 w a n c z) :
    n = 0 ∨ ∃ b off, ∃ said : List Nat, a = some ⟨b, off, none⟩ ∧ 0 < n ∧ n ≤ c ∧ c ≤ 9223372036854775807 ∧ said.length = n ∧ (∀ x ∈ said, x < 18446744073709551616) ∧
      ∀ (j x : Nat), said[j]? = some x → w.cell? ⟨b, off + j, none⟩ = some (.int .u64 (x : Int)) := by
  by_cases hn : n = 0
  · exact .inl hn
  rcases h with ⟨_, h0, _⟩ | ⟨x, rfl, hl, hm, hz, hcell, hwz⟩
  · exact absurd h0 hn
  · refine .inr ?_
    obtain ⟨b, off, spot⟩ := x
    have hc0 := hcell 0 (by omega)
    have hspot : spot = none := by simpa [Addr.add] using World.cell?_spot hc0
    subst hspot
    have hb : ∀ y ∈ z, ((y.toNat : Nat) : Int) = y ∧ y.toNat < 18446744073709551616 := fun y hy => by
      obtain ⟨m, rfl, hm2⟩ := wf_u64 (hwz y hy)
      exact ⟨by omega, by omega⟩
    refine ⟨b, off, (z.take n).map Int.toNat, rfl, by omega, hl, by simpa only [maxLen] using hm, by simp; omega, ?_, ?_⟩
    · intro x hx
      obtain ⟨y, hy, rfl⟩ := List.mem_map.1 hx
      exact (hb y (List.mem_of_mem_take hy)).2
    · intro j x hx
      rw [List.getElem?_map] at hx
      cases hj : (z.take n)[j]? with
      | none => rw [hj] at hx; simp at hx
      | some y =>
        rw [hj] at hx
        simp at hx
        subst hx
        rw [List.getElem?_take] at hj
        split at hj
        · have hy := List.mem_of_getElem? hj
          have hlt : j < z.length := by
            rcases Nat.lt_or_ge j z.length with h | h
            · exact h
            · rw [List.getElem?_eq_none h] at hj; simp at hj
          have hc := hcell j hlt
          rw [Addr.add_lit] at hc
          rw [hc, (hb y hy).1]
          simp [List.getD, hj]
        · simp at hj

/-- A slice of ints that came in: each of its cells can be read. -/
def IntsIn (w : World) (a : Option Addr) (n : Nat) : Prop :=
  n ≤ 9223372036854775807 ∧ ∀ j, j < n → ∃ b off x, a = some ⟨b, off, none⟩ ∧ (-9223372036854775808 ≤ x ∧ x ≤ 9223372036854775807) ∧ w.cell? ⟨b, off + j, none⟩ = some (.int .i64 x)
theorem IsRow.ints {w : World} {a : Option Addr} {n c : Nat} {z : List Int} (h : IsRow .i64 w a n c z) : IntsIn w a n := by
  rcases h with ⟨_, rfl, _⟩ | ⟨x, rfl, hl, hm, hz, hcell, hwz⟩
  · exact ⟨by omega, fun j hj => by omega⟩
  · refine ⟨by have := hm; simp only [maxLen] at this; omega, fun j hj => ?_⟩
    obtain ⟨b, off, spot⟩ := x
    have hc := hcell j (by omega)
    have hspot : spot = none := by
      have h0 := hcell 0 (by omega)
      simpa [Addr.add] using World.cell?_spot h0
    subst hspot
    rw [Addr.add_lit] at hc
    obtain ⟨y, hy⟩ := get_of_lt (l := z) (j := j) (by omega)
    have e : z.getD j 0 = y := by simp [List.getD, hy]
    rw [e] at hc
    exact ⟨b, off, y, rfl, wf_i64 (hwz y (List.mem_of_getElem? hy)), hc⟩
theorem IntsIn.frm {S : Nat → Prop} {w w' : World} {a : Option Addr} {n : Nat} (h : IntsIn w a n) (f : Frm S w w') (hs : ∀ i, i < w.heap.size → ¬ S i) : IntsIn w' a n :=
  ⟨h.1, fun j hj => by
    obtain ⟨b, off, x, ha, hb, hc⟩ := h.2 j hj
    exact ⟨b, off, x, ha, hb, cell_frm f (hs b (World.block_lt_of_cell? w ⟨b, off + j, none⟩ hc)) hc⟩⟩

/-- A slice of ints that holds the list xs. -/
structure IntsAt (w : World) (a : Option Addr) (n : Nat) (xs : List Int) : Prop where
  len : xs.length = n
  cells : ∀ (j : Nat) (x : Int), xs[j]? = some x → ∃ b off, a = some ⟨b, off, none⟩ ∧ w.cell? ⟨b, off + j, none⟩ = some (.int .i64 x)
theorem ownsRow_ints {w : World} {base : Nat} {e : TypeId} {v : Value} {n : Nat} {xs : List Int} (h : w.ownsRow base e 1 v n (i64s xs)) : ∃ a c, v = .slice a n c ∧ n ≤ 9223372036854775807 ∧ IntsAt w a n xs := by
  have hl : xs.length = n := by have := h.1; rw [i64s_len] at this; omega
  by_cases hv : v = .slice none 0 0
  · rcases h.2 with ⟨_, h0⟩ | ⟨g, cap, cur, h1, _⟩
    · subst hv; subst h0
      exact ⟨none, 0, rfl, by omega, hl, fun j x hx => by have := get_lt hx; omega⟩
    · rw [hv] at h1; simp at h1
  · obtain ⟨g, cap, cur, rfl, _, hb, h1, h2, h3, h4, h5⟩ := ownsRow_blk h hv
    refine ⟨_, _, rfl, by omega, hl, fun j x hx => ⟨g, 0, rfl, ?_⟩⟩
    rw [hb.cell, Nat.zero_add]
    exact h5 j _ (i64s_get hx)

theorem ownsRow_shape {w : World} {base : Nat} {e : TypeId} {size : Nat} {v : Value} {n : Nat} {xs : List Value} (h : w.ownsRow base e size v n xs) :
    ∃ a c, v = .slice a n c ∧ n ≤ 9223372036854775807 ∧ (0 < n → ∃ g, a = some ⟨g, 0, none⟩ ∧ base ≤ g ∧ g < w.heap.size) := by
  rcases h.2 with ⟨h1, h0⟩ | ⟨g, cap, cur, h1, h2, h3, h4, h5, _⟩
  · subst h0
    exact ⟨none, 0, h1, by omega, fun h => by omega⟩
  · exact ⟨_, cap, h1, by simp only [maxLen] at h5; omega, fun _ => ⟨g, rfl, h2, (Array.getElem?_eq_some_iff.1 h3).1⟩⟩

end Go.Proofs.Ytnmcdecdgcnmbaa
