/- Rows of elements of k cells each, as lists of plain data: owned, and read. -/
import Derived.Test.YtnmcdecdgcnmbaaLib
import Derived.Maps.AppendAt
set_option linter.unusedVariables false
namespace Go.Proofs.Ytnmcdecdgcnmbaa
open Go.RowKit

/-- How an element lies in cells. -/
structure Enc (α : Type) where
  enc : α → List Value
  k : Nat
  len : ∀ a, (enc a).length = k
  one : ∀ a, ∀ u ∈ enc a, u.oneCell' = true
def rowOf {α : Type} (E : Enc α) (l : List α) : List Value := l.flatMap E.enc
theorem rowOf_nil {α : Type} (E : Enc α) : rowOf E [] = [] := rfl
theorem rowOf_app {α : Type} (E : Enc α) (a b : List α) : rowOf E (a ++ b) = rowOf E a ++ rowOf E b := by unfold rowOf; rw [List.flatMap_append]
theorem rowOf_cons {α : Type} (E : Enc α) (a : α) (b : List α) : rowOf E (a :: b) = E.enc a ++ rowOf E b := rfl
theorem rowOf_len {α : Type} (E : Enc α) (l : List α) : (rowOf E l).length = l.length * E.k := by
  induction l with
  | nil => simp [rowOf_nil]
  | cons a l ih => rw [rowOf_cons, List.length_append, ih, E.len, List.length_cons, Nat.add_mul]; omega
theorem rowOf_one {α : Type} (E : Enc α) (l : List α) : ∀ u ∈ rowOf E l, u.oneCell' = true := by
  intro u hu
  unfold rowOf at hu
  obtain ⟨a, _, h⟩ := List.mem_flatMap.1 hu
  exact E.one a u h
theorem rowOf_get {α : Type} (E : Enc α) (l : List α) (j i : Nat) (x : α) (hj : l[j]? = some x) (hi : i < E.k) : (rowOf E l)[j * E.k + i]? = (E.enc x)[i]? := by
  induction l generalizing j with
  | nil => simp at hj
  | cons a l ih =>
    rw [rowOf_cons]
    cases j with
    | zero =>
      simp at hj
      subst hj
      rw [Nat.zero_mul, Nat.zero_add, List.getElem?_append_left (by rw [E.len]; exact hi)]
    | succ j =>
      have e : (j + 1) * E.k + i = E.k + (j * E.k + i) := by rw [Nat.add_mul]; omega
      rw [e, List.getElem?_append_right (by rw [E.len]; omega), E.len, Nat.add_sub_cancel_left]
      exact ih j (by simpa using hj)

/-- The slice value v owns the elements l. -/
def Own {α : Type} (E : Enc α) (w : World) (base : Nat) (T : TypeId) (v : Value) (l : List α) : Prop := w.ownsRow base T E.k v l.length (rowOf E l)
theorem Own.nil {α : Type} (E : Enc α) (w : World) (base : Nat) (T : TypeId) : Own E w base T (.slice none 0 0) [] := World.ownsRow_nil _ _ _ _
theorem Own.frm {α : Type} {E : Enc α} {w w' : World} {base : Nat} {T : TypeId} {v : Value} {l : List α} {S : Nat → Prop} (h : Own E w base T v l) (f : Frm S w w') (hs : ∀ b, v.ownBlock = some b → ¬ S b) : Own E w' base T v l :=
  ownsRow_at h (fun b hb => f.block b (h.lt b hb).2 (hs b hb))
theorem Own.keep {α : Type} {E : Enc α} {w w' : World} {base : Nat} {T : TypeId} {v : Value} {l : List α} (h : Own E w base T v l) (f : Frm noB w w') : Own E w' base T v l := h.frm f (fun _ _ h => h)
theorem Own.base {α : Type} {E : Enc α} {w : World} {base base' : Nat} {T : TypeId} {v : Value} {l : List α} (h : Own E w base T v l) (hb : base' ≤ base) : Own E w base' T v l := by
  refine ⟨h.1, ?_⟩
  rcases h.2 with h1 | ⟨g, cap, cur, h1, h2, h3⟩
  · exact .inl h1
  · exact .inr ⟨g, cap, cur, h1, Nat.le_trans hb h2, h3⟩
theorem Own.shape {α : Type} {E : Enc α} {w : World} {base : Nat} {T : TypeId} {v : Value} {l : List α} (h : Own E w base T v l) :
    ∃ a c, v = .slice a l.length c ∧ l.length ≤ 9223372036854775807 ∧ (0 < l.length → ∃ g, a = some ⟨g, 0, none⟩ ∧ base ≤ g ∧ g < w.heap.size) := ownsRow_shape h
theorem Own.lt {α : Type} {E : Enc α} {w : World} {base : Nat} {T : TypeId} {v : Value} {l : List α} (h : Own E w base T v l) : ∀ k, v.ownBlock = some k → base ≤ k ∧ k < w.heap.size := World.ownsRow.lt h
theorem Own.cell {α : Type} {E : Enc α} {w : World} {base g n c : Nat} {T : TypeId} {l : List α} (h : Own E w base T (.slice (some ⟨g, 0, none⟩) n c) l) (j i : Nat) (x : α) (u : Value) (hj : l[j]? = some x) (hu : (E.enc x)[i]? = some u) :
    w.cell? ⟨g, j * E.k + i, none⟩ = some u := by
  have hi : i < E.k := by rw [← E.len x]; exact get_lt hu
  have h1 := rowOf_get E l j i x hj hi
  rw [hu] at h1
  have := World.ownsRow.cells h (g := g) rfl _ _ h1
  rwa [Addr.add_lit, Nat.zero_add] at this

/-- A slice that can be read: its elements are l. -/
def Rd {α : Type} (E : Enc α) (w : World) (a : Option Addr) (n : Nat) (l : List α) : Prop :=
  l.length = n ∧ n ≤ 9223372036854775807 ∧ ∀ j x, l[j]? = some x → ∃ b off, a = some ⟨b, off, none⟩ ∧ b < w.heap.size ∧ ∀ i u, (E.enc x)[i]? = some u → w.cell? ⟨b, off + (j * E.k + i), none⟩ = some u
theorem Own.rd {α : Type} {E : Enc α} {w : World} {base : Nat} {T : TypeId} {v : Value} {l : List α} (h : Own E w base T v l) : ∃ a c, v = .slice a l.length c ∧ Rd E w a l.length l := by
  obtain ⟨a, c, rfl, hn, hg⟩ := h.shape
  refine ⟨a, c, rfl, rfl, hn, fun j x hj => ?_⟩
  obtain ⟨g, rfl, _, hlt⟩ := hg (by have := get_lt hj; omega)
  exact ⟨g, 0, rfl, hlt, fun i u hu => by rw [Nat.zero_add]; exact h.cell j i x u hj hu⟩
theorem Rd.frm {α : Type} {E : Enc α} {w w' : World} {a : Option Addr} {n : Nat} {l : List α} {S : Nat → Prop} (h : Rd E w a n l) (f : Frm S w w') (hs : ∀ x, a = some x → ¬ S x.block) : Rd E w' a n l :=
  ⟨h.1, h.2.1, fun j x hj => by
    obtain ⟨b, off, ha, hb, hc⟩ := h.2.2 j x hj
    exact ⟨b, off, ha, Nat.lt_of_lt_of_le hb f.size, fun i u hu => cell_frm f (hs _ ha) (hc i u hu)⟩⟩
theorem Rd.keep {α : Type} {E : Enc α} {w w' : World} {a : Option Addr} {n : Nat} {l : List α} (h : Rd E w a n l) (f : Frm noB w w') : Rd E w' a n l := h.frm f (fun _ _ h => h)
theorem Rd.nil {α : Type} (E : Enc α) (w : World) : Rd E w none 0 [] := ⟨rfl, by omega, fun j x hj => by simp at hj⟩
theorem Rd.take {α : Type} {E : Enc α} {w : World} {a : Option Addr} {n m : Nat} {l : List α} (h : Rd E w a n l) (hm : m ≤ n) : Rd E w a m (l.take m) := by
  refine ⟨by rw [List.length_take, h.1]; omega, Nat.le_trans hm h.2.1, fun j x hj => ?_⟩
  rw [List.getElem?_take] at hj
  split at hj
  · exact h.2.2 j x hj
  · simp at hj
theorem Rd.drop {α : Type} {E : Enc α} {w : World} {b off n m : Nat} {l : List α} (h : Rd E w (some ⟨b, off, none⟩) n l) (hm : m ≤ n) : Rd E w (some ⟨b, off + m * E.k, none⟩) (n - m) (l.drop m) := by
  refine ⟨by rw [List.length_drop, h.1], by have := h.2.1; omega, fun j x hj => ?_⟩
  rw [List.getElem?_drop] at hj
  obtain ⟨b', off', ha, hb, hc⟩ := h.2.2 (m + j) x hj
  simp only [Option.some.injEq, Addr.mk.injEq, and_true] at ha
  obtain ⟨rfl, rfl⟩ := ha
  refine ⟨b, _, rfl, hb, fun i u hu => ?_⟩
  have := hc i u hu
  rwa [show off + m * E.k + (j * E.k + i) = off + ((m + j) * E.k + i) from by rw [Nat.add_mul]; omega]

/-- A block of one element that has just been laid. -/
theorem enc_new {α : Type} (E : Enc α) (w : World) (x : α) (cs : Array Value) (T : TypeId) (hcs : cs.toList = E.enc x) : ∀ (j : Nat) (u : Value), (rowOf E [x])[j]? = some u → (w.alloc (.cells cs T)).cell? ((⟨w.heap.size, 0, none⟩ : Addr).add j) = some u := by
  intro j u hu
  rw [Addr.add_lit, World.cell?_alloc_new, Nat.zero_add]
  have e : rowOf E [x] = E.enc x := by simp [rowOf]
  rw [e, ← hcs] at hu
  simpa using hu

/-- A literal. -/
theorem own_lit {α : Type} (E : Enc α) (w : World) (T : TypeId) (l : List α) (cs : Array Value) (hcs : cs.toList = rowOf E l) (n : Nat) (hn : l.length = n) (base : Nat) (hb : base ≤ w.heap.size) (hm : n ≤ 1000000) :
    Own E (w.alloc (.cells cs T)) base T (.slice (some ⟨w.heap.size, 0, none⟩) n n) l := by
  unfold Own
  rw [← hcs, hn]
  refine World.ownsRow_lit w cs n hb (by simp only [maxLen]; omega) ?_
  rw [← Array.length_toList, hcs, rowOf_len, hn]
theorem Own.rdS {α : Type} {E : Enc α} {w : World} {base : Nat} {T : TypeId} {a : Option Addr} {n c : Nat} {l : List α} (h : Own E w base T (.slice a n c) l) : Rd E w a n l := by
  obtain ⟨a', c', he, hr⟩ := h.rd
  have hl := hr.1
  simp only [Value.slice.injEq] at he
  obtain ⟨rfl, rfl, _⟩ := he
  exact hr
section
variable {P : Program} {α : Type}
/-- append(v, x): onto a row that the call owns (or nil), the element in a block of its own. -/
theorem wpl_app1 (E : Enc α) (w : World) {ops : Array Oper} {rest : List Oper} {o : Oper} {a : Act} {Q : Exit → Act → World → Prop} (hgd : o.guard = none) (s x : Operand) (t : TypeId)
    (ho : o.op = .call { callee := .builtin .append, args := #[s, x], argTypes := #[t, t] })
    (base : Nat) (e : TypeId) (i : TypeInfo) (z : Value) (bytes : Nat) (ht : P.underlying t = some (.slice e)) (hi : P.info? e = some i) (hz : i.zero = some z)
    (hsize : i.size = E.k) (hby : i.bytes = bytes) (hzs : z.cells.size = E.k) (hsz : 0 < E.k) (hb8 : bytes ≤ 10000)
    (v : Value) (l : List α) (hs : a.eval s = v) (hown : Own E w base e v l) (el : α) (cs : Array Value) (hcs : cs.toList = E.enc el)
    (H : Nat) (hH : w.heap.size = H) (hx : a.eval x = .slice (some ⟨H, 0, none⟩) 1 1) (hsm : l.length ≤ 1000000) (hbase : base ≤ w.heap.size)
    (h : ∀ v' w', Own E w' base e v' (l ++ [el]) → Frm (fun i => some i = v.ownBlock) (w.alloc (.cells cs e)) w' → Frm (fun i => some i = v.ownBlock) w w' → (v'.ownBlock = v.ownBlock ∨ ∃ g, v'.ownBlock = some g ∧ w.heap.size < g ∧ g < w'.heap.size) →
      v' ≠ .slice none 0 0 → wpList P ops Q rest (a.put o.dst v') w') : wpList P ops Q (o :: rest) a (w.alloc (.cells cs e)) := by
  subst hH
  refine wpList_plain hgd fun K hK => ?_
  obtain ⟨v', w', hrun, h1, h2, h3, h4⟩ := run_append_own_at (P := P) (w.alloc (.cells cs e)) base t o.type e i z E.k bytes ht hi hz hsize hby hzs hsz v l.length (rowOf E l) (hown.keep ((Frm.refl noB w).alloc _)) ⟨w.heap.size, 0, none⟩ 1 1 (rowOf E [el])
    (by rw [rowOf_len]; simp) (enc_new E w el cs e hcs) (rowOf_one E _) (by simp only [maxLen]; omega) (by have := Nat.mul_le_mul (show l.length + 1 ≤ 1000001 by omega) hb8; omega) (by simp; omega)
  have hf := Frm.ofGrown h2
  have hf2 : Frm (fun i => some i = v.ownBlock) w w' := ((Frm.refl _ w).alloc _).trans hf
  have hown' : Own E w' base e v' (l ++ [el]) := by unfold Own; rw [rowOf_app, List.length_append]; exact h1
  have := h v' w' hown' hf hf2 (by
    rcases h4 with h4 | h4
    · exact .inl h4
    · refine .inr ⟨w.heap.size + 1, by rw [h4]; simp, by omega, ?_⟩
      exact (hown'.lt _ (by rw [h4]; simp)).2) (by intro hh; have := h3.1 hh; simp at this)
  unfold Oper.wp
  simp [execOp, ho, resolve, invoke, builtin, hs, hx, hrun, Result.andThen]
  exact hK _ _ this

/-- .. in whatever world in which the element lies in a block, at an operation's step. -/
theorem wp_app1g (E : Enc α) (w : World) {o : Oper} {a : Act} {K : Act → World → Prop} {Q : Exit → Act → World → Prop} (s x : Operand) (t : TypeId)
    (ho : o.op = .call { callee := .builtin .append, args := #[s, x], argTypes := #[t, t] })
    (base : Nat) (e : TypeId) (i : TypeInfo) (z : Value) (bytes : Nat) (ht : P.underlying t = some (.slice e)) (hi : P.info? e = some i) (hz : i.zero = some z)
    (hsize : i.size = E.k) (hby : i.bytes = bytes) (hzs : z.cells.size = E.k) (hsz : 0 < E.k) (hb8 : bytes ≤ 10000)
    (v : Value) (l : List α) (hs : a.eval s = v) (hown : Own E w base e v l) (el : α) (B : Nat) (hx : a.eval x = .slice (some ⟨B, 0, none⟩) 1 1) (cs : Array Value) (hB : Blk w B cs e) (hcs : cs.toList = E.enc el)
    (hsm : l.length ≤ 1000000) (hbase : base ≤ w.heap.size)
    (h : ∀ v' w', Own E w' base e v' (l ++ [el]) → Frm (fun i => some i = v.ownBlock) w w' → (v'.ownBlock = v.ownBlock ∨ v'.ownBlock = some w.heap.size) → v' ≠ .slice none 0 0 → K (a.put o.dst v') w') : Oper.wp P o a w K Q := by
  have hnews : ∀ (j : Nat) (u : Value), (rowOf E [el])[j]? = some u → w.cell? ((⟨B, 0, none⟩ : Addr).add j) = some u := by
    intro j u hu
    rw [Addr.add_lit, Nat.zero_add, hB.cell]
    have e : rowOf E [el] = E.enc el := by simp [rowOf]
    rw [e, ← hcs] at hu
    simpa using hu
  obtain ⟨v', w', hrun, h1, h2, h3, h4⟩ := run_append_own_at (P := P) w base t o.type e i z E.k bytes ht hi hz hsize hby hzs hsz v l.length (rowOf E l) hown ⟨B, 0, none⟩ 1 1 (rowOf E [el])
    (by rw [rowOf_len]; simp) hnews (rowOf_one E _) (by simp only [maxLen]; omega) (by have := Nat.mul_le_mul (show l.length + 1 ≤ 1000001 by omega) hb8; omega) hbase
  have hown' : Own E w' base e v' (l ++ [el]) := by unfold Own; rw [rowOf_app, List.length_append]; exact h1
  have := h v' w' hown' (Frm.ofGrown h2) h4 (by intro hh; have := h3.1 hh; simp at this)
  unfold Oper.wp
  simp [execOp, ho, resolve, invoke, builtin, hs, hx, hrun, Result.andThen]
  exact this
end
end Go.Proofs.Ytnmcdecdgcnmbaa
