/- A collector: its blocks, and what the stores of Take do. -/
import Derived.Test.YtpgcfeplcibhoaaDoorSpan
import Derived.Test.YtpgcfeplcibhoaaDoorStrs
import Derived.Test.YtpgcfeplcibhoaaDoorMapV
import Derived.Test.YtpgcfeplcibhoaaDoorTraceRead
set_option linter.unusedVariables false
namespace Go.Proofs.YtpgcfeplcibhoaaDoor
open Go.RowKit
open Go.Maps (Keyed)

theorem keyS : Keyed Tryd.prog 9 := Maps.string_keyed Tryd.underlying9
theorem keyI : Keyed Tryd.prog 3 := Maps.int_keyed Tryd.underlying3
def spn0 : Spn := ⟨⟨#[]⟩, 0, 0, 0, false, 0⟩
theorem zeroSp (w : World) : (zeroValue 30).run Tryd.prog w = .ok (spnV spn0) w := by kernel_rfl
theorem zeroSt (w : World) : (zeroValue 61).run Tryd.prog w = .ok (.slice none 0 0) w := by kernel_rfl
def nmB (s : Spn) : List UInt8 := s.name.data.toList
def rqS (s : Spn) : Int := reqL (nmB s)
def nameK (s : Spn) : Lit := .string (nmB s)
/-- The span of a name. -/
def fndS (L : List Spn) (l : List UInt8) : Option Spn := L.find? fun s => nmB s == l
def spansF (L : List Spn) : Lit → Option Value := fun kl => match kl with
  | .string l => (fndS L l).map spnV
  | _ => none
def namesL (L : List Spn) (r : Int) : List ByteArray := (L.filter fun s => rqS s == r).map (·.name)
def namesF (L : List Spn) (rows : Int → Value) : Lit → Option Value := fun kl => match kl with
  | .int .i64 r => if (namesL L r).isEmpty then none else some (rows r)
  | _ => none
structure ColM (w : World) (b m1 m2 : Nat) (L : List Spn) (rows : Int → Value) (k : Nat) (O : Nat → Prop) : Prop where
  blk : Blk w b #[.map (some m1), .map (some m2)] 59
  spans : ∃ sz, VMap w Tryd.prog 9 m1 k sz (spansF L)
  names : ∃ sz, VMap w Tryd.prog 3 m2 k sz (namesF L rows)
  row : ∀ r, Own strE w 0 9 (rows r) (namesL L r)
  none : ∀ r, namesL L r = [] → rows r = .slice none 0 0
  rowO : ∀ r i, (rows r).ownBlock = some i → O i ∧ i ≠ b ∧ i ≠ m1 ∧ i ≠ m2
  apart : ∀ r r' i, r ≠ r' → (rows r).ownBlock = some i → (rows r').ownBlock ≠ some i
  ob : O b
  o1 : O m1
  o2 : O m2
  b1 : b ≠ m1
  b2 : b ≠ m2
  m12 : m1 ≠ m2
  lt : ∀ i, O i → i < w.heap.size
theorem ColM.frm {w w' : World} {b m1 m2 k : Nat} {L : List Spn} {rows : Int → Value} {O S : Nat → Prop} (h : ColM w b m1 m2 L rows k O) (f : Frm S w w') (hs : ∀ i, O i → ¬ S i) : ColM w' b m1 m2 L rows k O := by
  obtain ⟨s1, h1⟩ := h.spans
  obtain ⟨s2, h2⟩ := h.names
  exact ⟨h.blk.frm f (hs _ h.ob), ⟨s1, h1.frm f (hs _ h.o1)⟩, ⟨s2, h2.frm f (hs _ h.o2)⟩, fun r => (h.row r).frm f (fun i hi => hs i (h.rowO r i hi).1), h.none, h.rowO, h.apart, h.ob, h.o1, h.o2, h.b1, h.b2, h.m12,
    fun i hi => Nat.lt_of_lt_of_le (h.lt i hi) f.size⟩
theorem ColM.keep {w w' : World} {b m1 m2 k : Nat} {L : List Spn} {rows : Int → Value} {O : Nat → Prop} (h : ColM w b m1 m2 L rows k O) (f : Frm noB w w') : ColM w' b m1 m2 L rows k O := h.frm f (fun _ _ h => h)
theorem ColM.mono {w : World} {b m1 m2 k k' : Nat} {L : List Spn} {rows : Int → Value} {O : Nat → Prop} (h : ColM w b m1 m2 L rows k O) (hk : k ≤ k') : ColM w b m1 m2 L rows k' O := by
  obtain ⟨s1, h1⟩ := h.spans
  obtain ⟨s2, h2⟩ := h.names
  exact ⟨h.blk, ⟨s1, h1.mono hk⟩, ⟨s2, h2.mono hk⟩, h.row, h.none, h.rowO, h.apart, h.ob, h.o1, h.o2, h.b1, h.b2, h.m12, h.lt⟩
def rowsS (rows : Int → Value) (r : Int) (v : Value) : Int → Value := fun q => if q = r then v else rows q
theorem namesL_app (L : List Spn) (s : Spn) (r : Int) : namesL (L ++ [s]) r = if rqS s = r then namesL L r ++ [s.name] else namesL L r := by
  unfold namesL
  rw [List.filter_append, List.map_append]
  by_cases h : rqS s = r <;> simp [h]
theorem fndS_app (L : List Spn) (s : Spn) (h : fndS L (nmB s) = none) (l : List UInt8) : fndS (L ++ [s]) l = if l = nmB s then some s else fndS L l := by
  unfold fndS at *
  rw [List.find?_append]
  by_cases e : l = nmB s
  · subst e; rw [h]; simp
  · have : ¬ nmB s = l := fun q => e q.symm
    rw [if_neg e]
    simp [this]
theorem spansF_app (L : List Spn) (s : Spn) (hn : fndS L (nmB s) = none) (l : Lit) (hl : WideAt.IsKeyLit l) : spansF (L ++ [s]) l = setF (spansF L) (nameK s) (some (spnV s)) l := by
  by_cases h : l = nameK s
  · subst h
    rw [setF_same hl]
    unfold spansF nameK
    simp only
    rw [fndS_app L s hn, if_pos rfl]; rfl
  · rw [setF_other h]
    unfold spansF
    split
    · rename_i q
      have hq : ¬ q = nmB s := fun e => h (by rw [e]; rfl)
      rw [fndS_app L s hn, if_neg hq]
    · rfl
theorem namesF_app (L : List Spn) (rows : Int → Value) (s : Spn) (v : Value) (l : Lit) (hl : WideAt.IsKeyLit l) :
    namesF (L ++ [s]) (rowsS rows (rqS s) v) l = setF (namesF L rows) (.int .i64 (rqS s)) (some v) l := by
  by_cases h : l = .int .i64 (rqS s)
  · subst h
    rw [setF_same (show WideAt.IsKeyLit (.int .i64 _) from trivial)]
    unfold namesF
    simp only
    rw [namesL_app, if_pos rfl]
    simp [rowsS]
  · rw [setF_other h]
    unfold namesF
    split
    · rename_i r
      have hr : ¬ rqS s = r := fun e => h (by rw [e])
      rw [namesL_app, if_neg hr]
      have hr2 : ¬ r = rqS s := fun e => hr e.symm
      simp [rowsS, hr2]
    · rfl
theorem namesF_getD {L : List Spn} {rows : Int → Value} (h : ∀ r, namesL L r = [] → rows r = .slice none 0 0) (r : Int) : (namesF L rows (.int .i64 r)).getD (.slice none 0 0) = rows r := by
  unfold namesF
  simp only
  cases ho : namesL L r with
  | nil => simp [h r ho]
  | cons a l => simp
theorem reqL_wf (l : List UInt8) : (Lit.int .i64 (reqL l)).wf = true := by
  have h : 0 ≤ reqL l ∧ reqL l ≤ 2147483647 := by
    unfold reqL
    cases h : readL l with
    | none => simp
    | some p => obtain ⟨v, t⟩ := p; have := readL_pos h; simp only; omega
  exact WalkArith.wf_i64 (by omega)
/-- The collector behind all stores. -/
theorem col_end {w wd w1 w1d w2 w3 : World} {b m1 m2 k : Nat} {L : List Spn} {rows : Int → Value} {O : Nat → Prop} {s : Spn} {v : Value} {r : Int} (hM : ColM wd b m1 m2 L rows k O) (hfw : Frm noB w wd) (hr : r = rqS s)
    (hnew : fndS L (nmB s) = none) (hn1 : ∃ sz, VMap w1 Tryd.prog 9 m1 (k + 1) sz (setF (spansF L) (nameK s) (some (spnV s)))) (f1 : Frm (oneB m1) wd w1) (f1d : Frm noB w1 w1d)
    (ho : Own strE w2 0 9 v (namesL L r ++ [s.name])) (f2 : Frm (fun i => some i = (rows r).ownBlock) w1d w2) (hv : v.ownBlock = (rows r).ownBlock ∨ ∃ g, v.ownBlock = some g ∧ w1d.heap.size < g ∧ g < w2.heap.size)
    (hs3 : ∃ sz, VMap w3 Tryd.prog 3 m2 (k + 1) sz (setF (namesF L rows) (.int .i64 r) (some v))) (f3 : Frm (oneB m2) w2 w3) :
    ∃ O'', ColM w3 b m1 m2 (L ++ [s]) (rowsS rows r v) (k + 1) O'' ∧ Frm O w w3 ∧ ∀ k, O'' k → O k ∨ w.heap.size ≤ k := by
  subst hr
  have z1 := f1.size
  have z1d := f1d.size
  have z2 := f2.size
  have z3 := f3.size
  have rl : ∀ q k, (rows q).ownBlock = some k → k < wd.heap.size := fun q k hk => ((hM.row q).lt k hk).2
  have vO : ∀ k, v.ownBlock = some k → (rows (rqS s)).ownBlock = some k ∨ (w1d.heap.size < k ∧ k < w2.heap.size) := fun k hk => by
    rcases hv with hv | ⟨g, hg, h1, h2⟩
    · exact .inl (by rw [← hv]; exact hk)
    · rw [hg] at hk; simp at hk; subst hk; exact .inr ⟨h1, h2⟩
  have vne : ∀ k, v.ownBlock = some k → k ≠ b ∧ k ≠ m1 ∧ k ≠ m2 := fun k hk => by
    rcases vO k hk with h1 | ⟨h1, h2⟩
    · exact (hM.rowO _ k h1).2
    · have e1 := hM.lt _ hM.ob
      have e2 := hM.lt _ hM.o1
      have e3 := hM.lt _ hM.o2
      omega
  have f12 : Frm (fun k => k = m1 ∨ some k = (rows (rqS s)).ownBlock) wd w2 :=
    ((f1.mono (fun k _ h => .inl h)).trans (f1d.mono (fun _ _ h => h.elim))).trans (f2.mono (fun _ _ h => .inr h))
  have f13 : Frm (fun k => k = m1 ∨ k = m2 ∨ some k = (rows (rqS s)).ownBlock) wd w3 :=
    (f12.mono (fun k _ h => by rcases h with h | h; exact .inl h; exact .inr (.inr h))).trans (f3.mono (fun _ _ h => .inr (.inl h)))
  refine ⟨fun k => O k ∨ v.ownBlock = some k, ⟨?_, ?_, ?_, ?_, ?_, ?_, ?_, .inl hM.ob, .inl hM.o1, .inl hM.o2, hM.b1, hM.b2, hM.m12, ?_⟩, ?_, ?_⟩
  · refine hM.blk.frm f13 ?_
    rintro (h1 | h1 | h1)
    · exact hM.b1 h1
    · exact hM.b2 h1
    · exact (hM.rowO _ _ h1.symm).2.1 rfl
  · obtain ⟨sz, hn⟩ := hn1
    refine ⟨sz, ?_⟩
    exact (((hn.frm f1d (fun h => h)).frm f2 (fun e => (hM.rowO _ m1 e.symm).2.2.1 rfl)).frm f3 hM.m12).congr (spansF_app L s hnew)
  · obtain ⟨sz, hn⟩ := hs3
    refine ⟨sz, ?_⟩
    exact hn.congr (namesF_app L rows s v)
  · intro q
    by_cases hq : q = rqS s
    · subst hq
      rw [namesL_app, if_pos rfl]
      simp only [rowsS, if_true]
      exact ho.frm f3 (fun k hk => (vne k hk).2.2)
    · rw [namesL_app, if_neg (fun e => hq e.symm)]
      simp only [rowsS, if_neg hq]
      refine (hM.row q).frm f13 (fun k hk => ?_)
      rintro (h1 | h1 | h1)
      · exact (hM.rowO q k hk).2.2.1 h1
      · exact (hM.rowO q k hk).2.2.2 h1
      · exact hM.apart q _ k hq hk h1.symm
  · intro q hq
    rw [namesL_app] at hq
    split at hq
    · simp at hq
    · rename_i hne
      have : ¬ q = rqS s := fun e => hne e.symm
      simp only [rowsS, if_neg this]
      exact hM.none q hq
  · intro q k hk
    by_cases hq : q = rqS s
    · subst hq
      simp only [rowsS, if_true] at hk
      exact ⟨.inr hk, vne k hk⟩
    · simp only [rowsS, if_neg hq] at hk
      exact ⟨.inl (hM.rowO q k hk).1, (hM.rowO q k hk).2⟩
  · intro q q' k hne hk hk'
    have key : ∀ p, p ≠ rqS s → (rows p).ownBlock = some k → v.ownBlock = some k → False := fun p hp h1 h2 => by
      rcases vO k h2 with h3 | ⟨h3, _⟩
      · exact hM.apart p _ k hp h1 h3
      · have := rl p k h1; omega
    by_cases hq : q = rqS s
    · by_cases hq' : q' = rqS s
      · exact hne (hq.trans hq'.symm)
      · simp only [rowsS, if_pos hq] at hk
        simp only [rowsS, if_neg hq'] at hk'
        exact key q' hq' hk' hk
    · simp only [rowsS, if_neg hq] at hk
      by_cases hq' : q' = rqS s
      · simp only [rowsS, if_pos hq'] at hk'
        exact key q hq hk hk'
      · simp only [rowsS, if_neg hq'] at hk'
        exact hM.apart q q' k hne hk hk'
  · rintro k (hk | hk)
    · have := hM.lt k hk; omega
    · rcases vO k hk with h1 | ⟨_, h2⟩
      · have := rl _ k h1; omega
      · omega
  · refine (hfw.mono (fun _ _ h => h.elim)).trans (f13.mono (fun k hk hh => ?_))
    rcases hh with rfl | rfl | hh
    · exact hM.o1
    · exact hM.o2
    · exact (hM.rowO _ k hh.symm).1
  · rintro k (hk | hk)
    · exact .inl hk
    · rcases vO k hk with h1 | ⟨h1, _⟩
      · exact .inl (hM.rowO _ k h1).1
      · right; have := hfw.size; omega

section
variable {w : World} {b m1 m2 k : Nat} {L : List Spn} {rows : Int → Value} {O : Nat → Prop}
theorem ColM.look (h : ColM w b m1 m2 L rows k O) (nm : ByteArray) (hs : nm.size ≤ 1000000) :
    (Instr.lookup 56 (.map (some m1)) (.string nm) true).run Tryd.prog w = .ok (.tuple #[spnV ((fndS L nm.data.toList).getD spn0), .bool (fndS L nm.data.toList).isSome]) w := by
  obtain ⟨sz, hm⟩ := h.spans
  have hsz : nm.size ≤ maxLen := by simp only [maxLen]; omega
  rw [hm.look_ok keyS Tryd.underlying56 (zeroSp w) (Go.WideMaps.keyOf_string_mk Tryd.underlying9 hsz)]
  show Result.ok (Value.tuple #[((fndS L nm.data.toList).map spnV).getD _, .bool ((fndS L nm.data.toList).map spnV).isSome]) w = _
  cases fndS L nm.data.toList <;> rfl
theorem ColM.look1 (h : ColM w b m1 m2 L rows k O) (nm : ByteArray) (hs : nm.size ≤ 1000000) :
    (Instr.lookup 56 (.map (some m1)) (.string nm) false).run Tryd.prog w = .ok (spnV ((fndS L nm.data.toList).getD spn0)) w := by
  obtain ⟨sz, hm⟩ := h.spans
  have hsz : nm.size ≤ maxLen := by simp only [maxLen]; omega
  rw [hm.look keyS Tryd.underlying56 (zeroSp w) (Go.WideMaps.keyOf_string_mk Tryd.underlying9 hsz)]
  show Result.ok (((fndS L nm.data.toList).map spnV).getD _) w = _
  cases fndS L nm.data.toList <;> rfl
theorem ColM.lookN (h : ColM w b m1 m2 L rows k O) (r : Int) (hr : (Lit.int .i64 r).wf = true) :
    (Instr.lookup 57 (.map (some m2)) (.int .i64 r) false).run Tryd.prog w = .ok (rows r) w := by
  obtain ⟨sz, hm⟩ := h.names
  rw [hm.look keyI Tryd.underlying57 (zeroSt w) (Maps.keyOf_int_mk Tryd.underlying3 hr), namesF_getD h.none]
end
end Go.Proofs.YtpgcfeplcibhoaaDoor
