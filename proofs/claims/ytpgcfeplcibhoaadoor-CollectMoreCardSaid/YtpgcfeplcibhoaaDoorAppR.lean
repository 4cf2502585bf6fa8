/- append of a slice that can be read, nil or not, to a row that the call owns. -/
import Derived.Test.YtpgcfeplcibhoaaDoorRows2
set_option linter.unusedVariables false
namespace Go.Proofs.YtpgcfeplcibhoaaDoor
open Go.RowKit
section
variable {P : Program} {α : Type}

theorem run_append_nil (w : World) (base : Nat) (t ty e : TypeId) (i : TypeInfo) (size : Nat) (ht : P.underlying t = some (.slice e)) (hi : P.info? e = some i)
    (v : Value) (n : Nat) (xs : List Value) (hown : w.ownsRow base e size v n xs) (c : Nat) : (Builtin.append_ #[t, t] ty #[v, .slice none 0 c]).run P w = .ok v w := by
  rcases hown.2 with ⟨rfl, rfl⟩ | ⟨g, cap, cur, rfl, _, _, hnc, _⟩
  · simp [Builtin.append_, run_underlying ht, sizeOf, typeInfo, hi, Builtin.lenOf, Builtin.firstCells]
  · simp [Builtin.append_, run_underlying ht, sizeOf, typeInfo, hi, Builtin.lenOf, Builtin.firstCells, hnc, storeCells]
theorem Rd.row {E : Enc α} {w : World} {b off n : Nat} {l : List α} (h : Rd E w (some ⟨b, off, none⟩) n l) (hk : 0 < E.k) : ∀ (j : Nat) (u : Value), (rowOf E l)[j]? = some u → w.cell? ((⟨b, off, none⟩ : Addr).add j) = some u := by
  intro j u hu
  have hj := get_lt hu
  rw [rowOf_len] at hj
  have hq : j / E.k < l.length := Nat.div_lt_of_lt_mul (by rw [Nat.mul_comm]; exact hj)
  obtain ⟨x, hx⟩ := get_of_lt hq
  have hi : j % E.k < E.k := Nat.mod_lt _ hk
  have hg := rowOf_get E l (j / E.k) (j % E.k) x hx hi
  have hjj : j / E.k * E.k + j % E.k = j := by rw [Nat.mul_comm]; exact Nat.div_add_mod j E.k
  rw [hjj, hu] at hg
  obtain ⟨b', off', ha, _, hc⟩ := h.2.2 _ x hx
  simp only [Option.some.injEq, Addr.mk.injEq, and_true] at ha
  obtain ⟨rfl, rfl⟩ := ha
  have := hc _ _ hg.symm
  rw [hjj] at this
  rw [Addr.add_lit]; exact this
theorem run_appR (E : Enc α) (w : World) (base : Nat) (t ty e : TypeId) (i : TypeInfo) (z : Value) (bytes : Nat) (ht : P.underlying t = some (.slice e)) (hi : P.info? e = some i) (hz : i.zero = some z)
    (hsize : i.size = E.k) (hby : i.bytes = bytes) (hzs : z.cells.size = E.k) (hsz : 0 < E.k) (hb8 : bytes ≤ 10000)
    (v : Value) (l : List α) (hown : Own E w base e v l) (a : Option Addr) (m c : Nat) (els : List α) (hr : Rd E w a m els) (hsp : ∀ x, a = some x → x.spot = none)
    (hm : l.length + m ≤ 1000000) (hbase : base ≤ w.heap.size) :
    ∃ v' w', (Builtin.append_ #[t, t] ty #[v, .slice a m c]).run P w = .ok v' w' ∧ Own E w' base e v' (l ++ els) ∧ Frm (fun i => some i = v.ownBlock) w w' ∧ (v'.ownBlock = v.ownBlock ∨ v'.ownBlock = some w.heap.size) := by
  have hlen := hr.1
  rcases a with _ | ⟨b, off, spot⟩
  · have hm0 : els = [] := by
      cases els with
      | nil => rfl
      | cons x r => obtain ⟨b, off, h, _⟩ := hr.2.2 0 x rfl; simp at h
    subst hm0
    obtain rfl : m = 0 := by simpa using hlen.symm
    exact ⟨v, w, run_append_nil w base t ty e i E.k ht hi v l.length (rowOf E l) hown c, by simpa using hown, Frm.refl _ _, .inl rfl⟩
  · obtain rfl : spot = none := hsp _ rfl
    obtain ⟨v', w', hrun, h1, h2, _, h4⟩ := run_append_own_at (P := P) w base t ty e i z E.k bytes ht hi hz hsize hby hzs hsz v l.length (rowOf E l) hown ⟨b, off, none⟩ m c (rowOf E els)
      (by rw [rowOf_len, hlen]) (hr.row hsz) (rowOf_one E _) (by simp only [maxLen]; omega) (by have := Nat.mul_le_mul (show l.length + m ≤ 1000000 by omega) hb8; omega) hbase
    exact ⟨v', w', hrun, by unfold Own; rw [rowOf_app, List.length_append, hlen]; exact h1, Frm.ofGrown h2, h4⟩
/-- append(v, src...) in a plain region. -/
theorem wpl_appR (E : Enc α) (w : World) {ops : Array Oper} {rest : List Oper} {o : Oper} {a : Act} {Q : Exit → Act → World → Prop} (hgd : o.guard = none) (s x : Operand) (t : TypeId)
    (ho : o.op = .call { callee := .builtin .append, args := #[s, x], argTypes := #[t, t] })
    (base : Nat) (e : TypeId) (i : TypeInfo) (z : Value) (bytes : Nat) (ht : P.underlying t = some (.slice e)) (hi : P.info? e = some i) (hz : i.zero = some z)
    (hsize : i.size = E.k) (hby : i.bytes = bytes) (hzs : z.cells.size = E.k) (hsz : 0 < E.k) (hb8 : bytes ≤ 10000)
    (v : Value) (l : List α) (hs : a.eval s = v) (hown : Own E w base e v l) (ad : Option Addr) (m c : Nat) (els : List α) (hx : a.eval x = .slice ad m c) (hr : Rd E w ad m els) (hsp : ∀ x, ad = some x → x.spot = none)
    (hm : l.length + m ≤ 1000000) (hbase : base ≤ w.heap.size)
    (h : ∀ v' w', Own E w' base e v' (l ++ els) → Frm (fun i => some i = v.ownBlock) w w' → (v'.ownBlock = v.ownBlock ∨ v'.ownBlock = some w.heap.size) → wpList P ops Q rest (a.put o.dst v') w') : wpList P ops Q (o :: rest) a w := by
  refine wpList_plain hgd fun K hK => ?_
  obtain ⟨v', w', hrun, h1, h2, h3⟩ := run_appR (P := P) E w base t o.type e i z bytes ht hi hz hsize hby hzs hsz hb8 v l hown ad m c els hr hsp hm hbase
  unfold Oper.wp
  simp [execOp, ho, resolve, invoke, builtin, hs, hx, hrun, Result.andThen]
  exact hK _ _ (h v' w' h1 h2 h3)
theorem wp_appR (E : Enc α) (w : World) {o : Oper} {a : Act} {K : Act → World → Prop} {Q : Exit → Act → World → Prop} (s x : Operand) (t : TypeId)
    (ho : o.op = .call { callee := .builtin .append, args := #[s, x], argTypes := #[t, t] })
    (base : Nat) (e : TypeId) (i : TypeInfo) (z : Value) (bytes : Nat) (ht : P.underlying t = some (.slice e)) (hi : P.info? e = some i) (hz : i.zero = some z)
    (hsize : i.size = E.k) (hby : i.bytes = bytes) (hzs : z.cells.size = E.k) (hsz : 0 < E.k) (hb8 : bytes ≤ 10000)
    (v : Value) (l : List α) (hs : a.eval s = v) (hown : Own E w base e v l) (ad : Option Addr) (m c : Nat) (els : List α) (hx : a.eval x = .slice ad m c) (hr : Rd E w ad m els) (hsp : ∀ x, ad = some x → x.spot = none)
    (hm : l.length + m ≤ 1000000) (hbase : base ≤ w.heap.size)
    (h : ∀ v' w', Own E w' base e v' (l ++ els) → Frm (fun i => some i = v.ownBlock) w w' → (v'.ownBlock = v.ownBlock ∨ v'.ownBlock = some w.heap.size) → K (a.put o.dst v') w') : Oper.wp P o a w K Q := by
  obtain ⟨v', w', hrun, h1, h2, h3⟩ := run_appR (P := P) E w base t o.type e i z bytes ht hi hz hsize hby hzs hsz hb8 v l hown ad m c els hr hsp hm hbase
  unfold Oper.wp
  simp [execOp, ho, resolve, invoke, builtin, hs, hx, hrun, Result.andThen]
  exact h v' w' h1 h2 h3
end
end Go.Proofs.YtpgcfeplcibhoaaDoor
