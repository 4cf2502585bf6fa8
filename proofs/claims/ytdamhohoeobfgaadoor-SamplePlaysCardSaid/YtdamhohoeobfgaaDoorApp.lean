/- Rows that may be appended to wherever in their block they begin. -/
import Derived.Test.YtdamhohoeobfgaaDoorRows2
import Derived.Test.YtdamhohoeobfgaaDoorStoreNew
import Derived.ArgAppend
import Derived.Laws.CopyRow
set_option linter.unusedVariables false
namespace Go.Proofs.YtdamhohoeobfgaaDoor
open Go.RowKit

/-- The slice v holds l in a block that the call owns, at whatever place of it. -/
def App {α : Type} (E : Enc α) (w : World) (T : TypeId) (v : Value) (l : List α) : Prop :=
  (v = .slice none 0 0 ∧ l = []) ∨ ∃ g off cap cur, v = .slice (some ⟨g, off, none⟩) l.length cap ∧ Blk w g cur T ∧ off + cap * E.k ≤ cur.size ∧ l.length ≤ cap ∧ cap ≤ maxLen ∧ ∀ (j : Nat) (u : Value), (rowOf E l)[j]? = some u → cur[off + j]? = some u
section
variable {α : Type} {E : Enc α} {w w' : World} {T : TypeId} {v : Value} {l : List α} {S : Nat → Prop}
theorem App.nil (E : Enc α) (w : World) (T : TypeId) : App E w T (.slice none 0 0) [] := .inl ⟨rfl, rfl⟩
theorem App.frm (h : App E w T v l) (f : Frm S w w') (hs : ∀ k, v.ownBlock = some k → ¬ S k) : App E w' T v l := by
  rcases h with h | ⟨g, off, cap, cur, rfl, hb, h2⟩
  · exact .inl h
  · exact .inr ⟨g, off, cap, cur, rfl, hb.frm f (hs g rfl), h2⟩
theorem App.keep (h : App E w T v l) (f : Frm noB w w') : App E w' T v l := h.frm f (fun _ _ h => h)
theorem App.lt (h : App E w T v l) : ∀ k, v.ownBlock = some k → k < w.heap.size := by
  intro k hk
  rcases h with ⟨rfl, _⟩ | ⟨g, off, cap, cur, rfl, hb, h2⟩
  · simp [Value.ownBlock] at hk
  · simp [Value.ownBlock] at hk; subst hk; exact hb.lt
theorem App.shape (h : App E w T v l) : ∃ a c, v = .slice a l.length c ∧ l.length ≤ c ∧ c ≤ maxLen ∧ Rd E w a l.length l ∧ (0 < l.length → ∃ g off, a = some ⟨g, off, none⟩ ∧ v.ownBlock = some g) := by
  rcases h with ⟨rfl, rfl⟩ | ⟨g, off, cap, cur, rfl, hb, h1, h2, h3, h4⟩
  · exact ⟨none, 0, rfl, Nat.le_refl _, by simp [maxLen], Rd.nil _ _, fun h => by simp at h⟩
  · refine ⟨_, cap, rfl, h2, h3, ⟨rfl, by simp only [maxLen] at h3; omega, fun j x hj => ⟨g, off, rfl, hb.lt, fun i u hu => ?_⟩⟩, fun _ => ⟨g, off, rfl, rfl⟩⟩
    rw [hb.cell]
    have hi : i < E.k := by rw [← E.len x]; exact get_lt hu
    exact h4 _ _ ((rowOf_get E l j i x hj hi).trans hu)
/-- The row from an element on. -/
theorem App.drop {g off cap n : Nat} (h : App E w T (.slice (some ⟨g, off, none⟩) n cap) l) (m : Nat) (hm : m ≤ n) : App E w T (.slice (some (if cap = m then ⟨g, off, none⟩ else ⟨g, off + m * E.k, none⟩)) (n - m) (cap - m)) (l.drop m) := by
  rcases h with ⟨h, _⟩ | ⟨g', off', cap', cur, hv, hb, h1, h2, h3, h4⟩
  · cases h
  · simp only [Value.slice.injEq, Option.some.injEq, Addr.mk.injEq, and_true] at hv
    obtain ⟨⟨rfl, rfl⟩, rfl, rfl⟩ := hv
    by_cases hc : cap = m
    · rw [if_pos hc]
      refine .inr ⟨g, off, cap - m, cur, by rw [List.length_drop], hb, by rw [hc, Nat.sub_self, Nat.zero_mul]; omega, by rw [List.length_drop]; omega, by omega, ?_⟩
      intro j u hu
      have : l.drop m = [] := List.drop_eq_nil_of_le (by omega)
      rw [this, rowOf_nil] at hu
      simp at hu
    · rw [if_neg hc]
      refine .inr ⟨g, off + m * E.k, cap - m, cur, by rw [List.length_drop], hb, ?_, by rw [List.length_drop]; omega, by omega, ?_⟩
      · have : m * E.k + (cap - m) * E.k = cap * E.k := by rw [← Nat.add_mul]; congr 1; omega
        omega
      · intro j u hu
        rw [show off + m * E.k + j = off + (m * E.k + j) from by omega]
        refine h4 _ _ ?_
        have e : rowOf E l = rowOf E (l.take m) ++ rowOf E (l.drop m) := by rw [← rowOf_app, List.take_append_drop]
        have e2 : (rowOf E (l.take m)).length = m * E.k := by rw [rowOf_len, List.length_take]; congr 1; omega
        rw [e, List.getElem?_append_right (by omega), e2, Nat.add_sub_cancel_left]
        exact hu
end
section
variable {P : Program} {α : Type}
theorem run_room_at (w : World) (t ty e : TypeId) (i : TypeInfo) (ht : P.underlying t = some (.slice e)) (hi : P.info? e = some i)
    (g off sLen sCap : Nat) (cur : Array Value) (hg : Blk w g cur e)
    (a : Addr) (m c : Nat) (news : List Value) (hl : news.length = m * i.size) (hnews : ∀ j u, news[j]? = some u → w.cell? (a.add j) = some u) (h1 : ∀ u ∈ news, u.oneCell' = true)
    (hroom : sLen + m ≤ sCap) (hfit : off + sLen * i.size + news.length ≤ cur.size) :
    (Builtin.append_ #[t, t] ty #[.slice (some ⟨g, off, none⟩) sLen sCap, .slice (some a) m c]).run P w =
      .ok (.slice (some ⟨g, off, none⟩) (sLen + m) sCap) (w.setRow g (cur.toList.take (off + sLen * i.size) ++ news ++ cur.toList.drop (off + sLen * i.size + news.length)).toArray) := by
  have hf := run_firstCells_some (P := P) w i.size m a m c news hl hnews
  have hst := run_storeCells_at P g (off + sLen * i.size) e news 0 cur w hg (by simpa using hfit) h1
  simp only [Nat.add_zero] at hst
  simp [Builtin.append_, run_underlying ht, sizeOf, typeInfo, hi, Builtin.lenOf, hroom, hf, Addr.add_lit, hst]
/-- append(v, x), the element in a block. -/
theorem run_app (E : Enc α) (w : World) (t ty e : TypeId) (i : TypeInfo) (z : Value) (bytes : Nat) (ht : P.underlying t = some (.slice e)) (hi : P.info? e = some i) (hz : i.zero = some z)
    (hsize : i.size = E.k) (hby : i.bytes = bytes) (hzs : z.cells.size = E.k) (hsz : 0 < E.k) (hb8 : bytes ≤ 10000)
    (v : Value) (l : List α) (hown : App E w e v l) (el : α) (B c : Nat) (cs : Array Value) (hB : Blk w B cs e) (hcs : cs.toList = E.enc el) (hsm : l.length ≤ 1000000) :
    ∃ v' w', (Builtin.append_ #[t, t] ty #[v, .slice (some ⟨B, 0, none⟩) 1 c]).run P w = .ok v' w' ∧ App E w' e v' (l ++ [el]) ∧ Frm (fun i => some i = v.ownBlock) w w' ∧ (v'.ownBlock = v.ownBlock ∨ ∃ q, v'.ownBlock = some q ∧ w.heap.size ≤ q) := by
  have hnews : ∀ (j : Nat) (u : Value), (rowOf E [el])[j]? = some u → w.cell? ((⟨B, 0, none⟩ : Addr).add j) = some u := by
    intro j u hu
    rw [Addr.add_lit, Nat.zero_add, hB.cell]
    have e : rowOf E [el] = E.enc el := by simp [rowOf]
    rw [e, ← hcs] at hu
    simpa using hu
  have hnl : (rowOf E [el]).length = 1 * i.size := by rw [rowOf_len, hsize]; rfl
  have ofOwn : ∀ (v' : Value) (w' : World) (base : Nat), w'.ownsRow base e E.k v' (l.length + 1) (rowOf E l ++ rowOf E [el]) → App E w' e v' (l ++ [el]) := fun v' w' base ho => by
    rcases ho.2 with ⟨_, h0⟩ | ⟨g, cap, cur, h1, h2, h3, h4, h5, h6, h7⟩
    · omega
    · refine .inr ⟨g, 0, cap, cur, by rw [h1]; simp, h3, by rw [h6]; omega, by simp; omega, h5, fun j u hu => ?_⟩
      rw [← rowOf_app] at h7
      rw [← h7, List.getElem?_take] at hu
      split at hu
      · rw [Nat.zero_add]; simpa using hu
      · cases hu
  rcases hown with ⟨rfl, rfl⟩ | ⟨g, off, cap, cur, rfl, hb, h1, h2, h3, h4⟩
  · obtain ⟨v', w', hrun, k1, k2, k3, k4⟩ := run_append_own_at (P := P) w w.heap.size t ty e i z E.k bytes ht hi hz hsize hby hzs hsz (.slice none 0 0) 0 [] (World.ownsRow_nil w _ e E.k) ⟨B, 0, none⟩ 1 c (rowOf E [el])
      (by rw [rowOf_len]; rfl) hnews (rowOf_one E _) (by simp [maxLen]) (by omega) (Nat.le_refl _)
    exact ⟨v', w', hrun, ofOwn v' w' _ (by simpa [rowOf_nil] using k1), Frm.ofGrown k2, by
      rcases k4 with k4 | k4
      · exact .inl k4
      · exact .inr ⟨_, k4, Nat.le_refl _⟩⟩
  · by_cases hr : l.length + 1 ≤ cap
    · have hfit : off + l.length * i.size + (rowOf E [el]).length ≤ cur.size := by
        rw [hnl, hsize, Nat.one_mul]
        have := Nat.mul_le_mul_right E.k hr
        rw [Nat.add_mul, Nat.one_mul] at this
        omega
      have hrun := run_room_at (P := P) w t ty e i ht hi g off l.length cap cur hb ⟨B, 0, none⟩ 1 c (rowOf E [el]) hnl hnews (rowOf_one E _) hr hfit
      refine ⟨_, _, hrun, .inr ⟨g, off, cap, _, by simp, setRow_heap w g cur _ e _ hb, ?_, by simpa using hr, h3, ?_⟩, (setRow_frm w g _).mono (fun k _ hk => by simpa [Value.ownBlock, oneB] using hk), .inl rfl⟩
      · simp only [List.size_toArray, List.length_append, List.length_take, List.length_drop, Array.length_toList]
        omega
      · intro j u hu
        rw [rowOf_app] at hu
        simp only [List.getElem?_toArray, List.size_toArray]
        have hl1 : (rowOf E l).length = l.length * i.size := by rw [rowOf_len, hsize]
        have hl2 : (List.take (off + l.length * i.size) cur.toList).length = off + l.length * i.size := by have hq : cur.toList.length = cur.size := Array.length_toList; rw [List.length_take]; omega
        by_cases hj : j < l.length * i.size
        · rw [List.getElem?_append_left (by omega)] at hu
          rw [List.append_assoc, List.getElem?_append_left (by rw [hl2]; omega), List.getElem?_take, if_pos (by omega)]
          simpa using h4 j u hu
        · rw [List.getElem?_append_right (by omega), hl1] at hu
          have hj2 := get_lt hu
          rw [List.append_assoc, List.getElem?_append_right (by rw [hl2]; omega), hl2, List.getElem?_append_left (by omega), show off + j - (off + l.length * i.size) = j - l.length * i.size from by omega]
          exact hu
    · obtain ⟨v', w', hrun, k1, k2⟩ := run_append_arg_grows (P := P) w t ty e i z E.k bytes ht hi hz hsize hby hzs hsz ⟨g, off, none⟩ l.length cap (rowOf E l) (rowOf_len E l)
        (fun j u hu => by rw [Addr.add_lit, hb.cell]; exact h4 j u hu) ⟨B, 0, none⟩ 1 c (rowOf E [el]) (by rw [rowOf_len]; rfl) hnews (by omega) (by simp only [maxLen]; omega) (by have := Nat.mul_le_mul (show l.length + 1 ≤ 1000001 by omega) hb8; omega)
      have hk := k1
      refine ⟨v', w', hrun, ofOwn v' w' _ k1, (Frm.ofGrown k2).mono (fun i _ h => by cases h), ?_⟩
      rcases k1.2 with ⟨_, h0⟩ | ⟨g', cap', cur', q1, q2, q3, _⟩
      · omega
      · exact .inr ⟨g', by rw [q1]; rfl, q2⟩
/-- clear(v), of elements whose cells are zero at once. -/
theorem run_clear (w : World) (t ty e : TypeId) (z : Value) (ht : P.underlying t = some (.slice e)) (hv : ∀ w, (zeroValue e).run P w = .ok z w) (g off n c : Nat) (cur : Array Value) (hg : Blk w g cur e) (k : Nat) (hk : z.cells.size = k)
    (h1 : ∀ u ∈ z.cells, u.oneCell' = true) (hfit : off + n * k ≤ cur.size) :
    ∃ w' cur', (Builtin.clear_ #[t] ty #[.slice (some ⟨g, off, none⟩) n c]).run P w = .ok (.tuple #[]) w' ∧ Blk w' g cur' e ∧ cur'.size = cur.size ∧ (∀ j, j < off → cur'[j]? = cur[j]?) ∧ Frm (oneB g) w w' := by
  cases n with
  | zero => exact ⟨w, cur, by simp [Builtin.clear_, run_underlying ht], hg, rfl, fun _ _ => rfl, Frm.refl _ _⟩
  | succ m =>
    have hzc : (Builtin.zeroCells z.cells (m + 1)).toList.length = (m + 1) * k := by rw [Array.length_toList, size_zeroCells, hk]
    have hst := run_storeCells_at P g off e (Builtin.zeroCells z.cells (m + 1)).toList 0 cur w hg (by rw [hzc]; omega) (by
      intro v hv'
      simp [Builtin.zeroCells] at hv'
      obtain ⟨q, hq, rfl⟩ := hv'
      have hz : 0 < z.cells.size := by
        rcases Nat.eq_zero_or_pos z.cells.size with h0 | h0
        · rw [h0] at hq; simp at hq
        · exact h0
      rw [getElem!_pos z.cells _ (Nat.mod_lt _ hz)]
      exact h1 _ (Array.getElem_mem _))
    simp only [Nat.add_zero] at hst
    refine ⟨w.setRow g (cur.toList.take off ++ (Builtin.zeroCells z.cells (m + 1)).toList ++ cur.toList.drop (off + (Builtin.zeroCells z.cells (m + 1)).toList.length)).toArray, _, by simp only [Builtin.clear_]; simp [run_underlying ht, hv, hst], setRow_heap w g cur _ e _ hg, ?_, ?_, setRow_frm w g _⟩
    · simp only [List.size_toArray, List.length_append, List.length_take, List.length_drop, Array.length_toList]
      rw [Array.length_toList] at hzc
      omega
    · intro j hj
      simp only [List.getElem?_toArray]
      rw [List.append_assoc, List.getElem?_append_left (by rw [List.length_take, Array.length_toList]; omega), List.getElem?_take, if_pos hj]
      simp
end
end Go.Proofs.YtdamhohoeobfgaaDoor
