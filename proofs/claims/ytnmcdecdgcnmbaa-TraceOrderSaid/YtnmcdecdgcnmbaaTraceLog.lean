/- The log of what truly happened: Note. -/
import Derived.Test.YtnmcdecdgcnmbaaSpan
import Derived.Test.YtnmcdecdgcnmbaaMapV
import Derived.Test.YtnmcdecdgcnmbaaTraceRead
import Derived.StillTailTactics
import Derived.Deep.DeepCutAuto
import Derived.Deep.RegionHeld3
set_option linter.unusedVariables false
namespace Go.Proofs.Ytnmcdecdgcnmbaa
open Go.RowKit
open Go.Maps (Keyed)

def nameK (s : Spn) : Lit := .string s.name.data.toList
def notedF (L : List Spn) : Lit → Option Value := fun l => if L.any (fun s => l.sameKey (nameK s)) then some (.bool true) else none
def ownL (L : List Spn) (r : Int) : List Spn := L.filter fun s => reqL s.name.data.toList == r
def spansF (L : List Spn) (rows : Int → Value) : Lit → Option Value := fun l => match l with
  | .int .i64 r => if (ownL L r).isEmpty then none else some (rows r)
  | _ => none
def logCells (m1 m2 : Option Nat) : Array Value := #[.map m1, .map m2]

structure LogM (w : World) (b m1 m2 : Nat) (L : List Spn) (rows : Int → Value) (O : Nat → Prop) : Prop where
  blk : Blk w b (logCells (some m1) (some m2)) 29
  noted : ∃ sz, VMap w Try.prog 9 m1 L.length sz (notedF L)
  spans : ∃ sz, VMap w Try.prog 3 m2 L.length sz (spansF L rows)
  row : ∀ r, Own spnE w 0 35 (rows r) (ownL L r)
  none : ∀ r, ownL L r = [] → rows r = .slice none 0 0
  rowO : ∀ r k, (rows r).ownBlock = some k → O k ∧ k ≠ b ∧ k ≠ m1 ∧ k ≠ m2
  apart : ∀ r r' k, r ≠ r' → (rows r).ownBlock = some k → (rows r').ownBlock ≠ some k
  ob : O b
  o1 : O m1
  o2 : O m2
  b1 : b ≠ m1
  b2 : b ≠ m2
  m12 : m1 ≠ m2
  lt : ∀ k, O k → k < w.heap.size
/-- Block b is a log of the spans L; O: the blocks that are its own. -/
def LogIs (w : World) (b : Nat) (L : List Spn) (O : Nat → Prop) : Prop :=
  (L = [] ∧ Blk w b (logCells none none) 29 ∧ O b ∧ ∀ k, O k → k < w.heap.size) ∨ ∃ m1 m2 rows, LogM w b m1 m2 L rows O

theorem LogM.frm {w w' : World} {b m1 m2 : Nat} {L : List Spn} {rows : Int → Value} {O S : Nat → Prop} (h : LogM w b m1 m2 L rows O) (f : Frm S w w') (hs : ∀ k, O k → ¬ S k) : LogM w' b m1 m2 L rows O := by
  obtain ⟨s1, h1⟩ := h.noted
  obtain ⟨s2, h2⟩ := h.spans
  exact ⟨h.blk.frm f (hs _ h.ob), ⟨s1, h1.frm f (hs _ h.o1)⟩, ⟨s2, h2.frm f (hs _ h.o2)⟩, fun r => (h.row r).frm f (fun k hk => hs k (h.rowO r k hk).1), h.none, h.rowO, h.apart, h.ob, h.o1, h.o2, h.b1, h.b2, h.m12,
    fun k hk => Nat.lt_of_lt_of_le (h.lt k hk) f.size⟩
theorem LogIs.frm {w w' : World} {b : Nat} {L : List Spn} {O S : Nat → Prop} (h : LogIs w b L O) (f : Frm S w w') (hs : ∀ k, O k → ¬ S k) : LogIs w' b L O := by
  rcases h with ⟨h1, h2, h3, h4⟩ | ⟨m1, m2, rows, h⟩
  · exact .inl ⟨h1, h2.frm f (hs _ h3), h3, fun k hk => Nat.lt_of_lt_of_le (h4 k hk) f.size⟩
  · exact .inr ⟨m1, m2, rows, h.frm f hs⟩
theorem LogIs.ob {w : World} {b : Nat} {L : List Spn} {O : Nat → Prop} (h : LogIs w b L O) : O b := by
  rcases h with ⟨h1, h2, h3, h4⟩ | ⟨m1, m2, rows, h⟩
  · exact h3
  · exact h.ob
theorem LogIs.lt {w : World} {b : Nat} {L : List Spn} {O : Nat → Prop} (h : LogIs w b L O) : ∀ k, O k → k < w.heap.size := by
  rcases h with ⟨h1, h2, h3, h4⟩ | ⟨m1, m2, rows, h⟩
  · exact h4
  · exact h.lt

def isIn (L : List Spn) (s : Spn) : Bool := L.any fun x => (nameK s).sameKey (nameK x)
def noteE (L : List Spn) (s : Spn) : Int := if readT s.name.data.toList then (if isIn L s then 5 else 0) else 7
def noteL (L : List Spn) (s : Spn) : List Spn := if readT s.name.data.toList && !isIn L s then L ++ [s] else L
theorem notedF_at (L : List Spn) (s : Spn) : notedF L (nameK s) = if isIn L s then some (.bool true) else none := rfl

def NoteIs (b : Nat) (L : List Spn) (s : Spn) (O : Nat → Prop) (w : World) (e : Ending) (w' : World) : Prop :=
  ∃ O', e = .returned (.int .i64 (noteE L s)) ∧ LogIs w' b (noteL L s) O' ∧ Frm O w w' ∧ ∀ k, O' k → O k ∨ w.heap.size ≤ k

theorem keyS : Keyed Try.prog 9 := Maps.string_keyed Try.underlying9
theorem keyI : Keyed Try.prog 3 := Maps.int_keyed Try.underlying3
theorem zeroB (w : World) : (zeroValue 4).run Try.prog w = .ok (.bool false) w := by kernel_rfl
theorem zeroSl (w : World) : (zeroValue 30).run Try.prog w = .ok (.slice none 0 0) w := by kernel_rfl

set_option maxHeartbeats 1000000 in
theorem note_form (b : Nat) (s : Spn) (L : List Spn) (O : Nat → Prop) (w : World) (h : LogIs w b L O) (hs : s.name.size ≤ 1000000) (ht : readT s.name.data.toList = false) :
    Calls Try.prog 14 #[.pointer (some ⟨b, 0, none⟩), spnV s] w (NoteIs b L s O w) := by
  obtain ⟨nm, s1, s2, s3, s4, s5⟩ := s
  have he : noteE L ⟨nm, s1, s2, s3, s4, s5⟩ = 7 ∧ noteL L ⟨nm, s1, s2, s3, s4, s5⟩ = L := by unfold noteE noteL; simp only; rw [ht]; exact ⟨rfl, rfl⟩
  have Hh := Lib.hid h
  have Ht := Lib.hid ht
  have He := Lib.hid he
  clear h ht he
  simp only at hs Ht
  rw [show spnV ⟨nm, s1, s2, s3, s4, s5⟩ = .agg #[.string nm, .int .i64 s1, .int .i64 s2, .int .i64 s3, .bool s4, .int .i64 s5] from rfl]
  go_enter Try.func14, Try.ntmps14
  go_wp2_with fail
  refine (read_any nm _ hs).mono ?_
  rintro e w' ⟨rfl, rfl⟩
  rw [Ht.out]
  go_wp2_with fail
  go_ret
  exact ⟨O, ret_int He.out.1.symm, by rw [He.out.2]; exact Hh.out.frm ((Frm.refl noB w).alloc _) (fun _ _ h => h), ((Frm.refl _ w).alloc _), fun k hk => .inl hk⟩
set_option maxHeartbeats 1000000 in
theorem note_two (b m1 m2 : Nat) (s : Spn) (L : List Spn) (rows : Int → Value) (O : Nat → Prop) (w : World) (h : LogM w b m1 m2 L rows O) (hs : s.name.size ≤ 1000000) (ht : readT s.name.data.toList = true) (hi : isIn L s = true) :
    Calls Try.prog 14 #[.pointer (some ⟨b, 0, none⟩), spnV s] w (NoteIs b L s O w) := by
  have he : noteE L s = 5 ∧ noteL L s = L := by unfold noteE noteL; rw [ht, hi]; exact ⟨rfl, rfl⟩
  obtain ⟨sz, hn⟩ := h.noted
  have hlk : ∀ w', Frm noB w w' → (Instr.lookup 26 (.map (some m1)) (.string s.name) false).run Try.prog w' = .ok (.bool true) w' := fun w' hf => by
    have hsz : s.name.size ≤ maxLen := by simp only [maxLen]; omega
    have := (hn.frm hf (fun h => h)).look keyS Try.underlying26 (zeroB w') (Go.WideMaps.keyOf_string_mk Try.underlying9 hsz)
    rw [this]
    rw [show notedF L (.string s.name.data.toList) = some (.bool true) from by rw [show (Lit.string s.name.data.toList) = nameK s from rfl, notedF_at, hi]; rfl]
    rfl
  obtain ⟨nm, s1, s2, s3, s4, s5⟩ := s
  have hc0 := h.blk.cell 0
  have hbl := h.blk.lt
  simp [logCells] at hc0
  simp only at hs ht hlk
  have hlk2 := fun q => hlk ((w.alloc (.cells #[.string nm, .int .i64 s1, .int .i64 s2, .int .i64 s3, .bool s4, .int .i64 s5] 35)).drewN q) (((Frm.refl noB w).alloc _).drewN q)
  have Hh := Lib.hid h
  have Ht := Lib.hid ht
  have He := Lib.hid he
  have Hlk := Lib.hid hlk
  clear h ht he hlk
  rw [show spnV ⟨nm, s1, s2, s3, s4, s5⟩ = .agg #[.string nm, .int .i64 s1, .int .i64 s2, .int .i64 s3, .bool s4, .int .i64 s5] from rfl]
  go_enter Try.func14, Try.ntmps14
  go_wp2_with fail
  refine (read_any nm _ hs).mono ?_
  rintro e w' ⟨rfl, rfl⟩
  rw [Ht.out]
  go_wp2_with fail
  go_quiet (fail)
  go_wp2
  go_ret
  exact ⟨O, ret_int He.out.1.symm, by rw [He.out.2]; exact .inr ⟨m1, m2, rows, Hh.out.frm (((Frm.refl noB w).alloc _).drewN _) (fun _ _ h => h)⟩, ((Frm.refl _ w).alloc _).drewN _, fun k hk => .inl hk⟩
def boxS (s : Spn) : Array Value := #[.string s.name, .int .i64 s.serv, .int .i64 s.frm, .int .i64 s.til, .bool s.well, .int .i64 s.kids]
/-- What is so ahead of the stores: maps are there. -/
structure Mid (w wx : World) (b m1 m2 : Nat) (L : List Spn) (rows : Int → Value) (O O' : Nat → Prop) (s : Spn) : Prop where
  log : LogM wx b m1 m2 L rows O'
  frm : Frm O w wx
  box : Blk wx w.heap.size (boxS s) 35
  new : ∀ k, O' k → O k ∨ w.heap.size ≤ k
  nobox : ¬ O' w.heap.size

theorem ownL_app (L : List Spn) (s : Spn) (r : Int) : ownL (L ++ [s]) r = if reqL s.name.data.toList = r then ownL L r ++ [s] else ownL L r := by
  unfold ownL
  rw [List.filter_append]
  by_cases h : reqL s.name.data.toList = r <;> simp [h]
def rowsS (rows : Int → Value) (r : Int) (v : Value) : Int → Value := fun q => if q = r then v else rows q
theorem notedF_app (L : List Spn) (s : Spn) (l : Lit) (hl : WideAt.IsKeyLit l) : notedF (L ++ [s]) l = setF (notedF L) (nameK s) (some (.bool true)) l := by
  unfold notedF setF
  rw [List.any_append]
  by_cases h : l.sameKey (nameK s) = true
  · simp [h]
  · simp [h]
theorem spansF_app (L : List Spn) (rows : Int → Value) (s : Spn) (v : Value) (l : Lit) (hl : WideAt.IsKeyLit l) :
    spansF (L ++ [s]) (rowsS rows (reqL s.name.data.toList) v) l = setF (spansF L rows) (.int .i64 (reqL s.name.data.toList)) (some v) l := by
  by_cases h : l = .int .i64 (reqL s.name.data.toList)
  · subst h
    rw [setF_same (show WideAt.IsKeyLit (.int .i64 _) from trivial)]
    unfold spansF
    simp only
    rw [ownL_app, if_pos rfl]
    simp [rowsS]
  · rw [setF_other h]
    unfold spansF
    split
    · rename_i r
      have hr : ¬ reqL s.name.data.toList = r := fun e => h (by rw [e])
      rw [ownL_app, if_neg hr]
      have hr2 : ¬ r = reqL s.name.data.toList := fun e => hr e.symm
      simp [rowsS, hr2]
    · rfl
/-- The log behind all stores. -/
theorem mid_end {w wd w1 w1d w2 w3 : World} {b m1 m2 : Nat} {L : List Spn} {rows : Int → Value} {O O' : Nat → Prop} {s : Spn} {v : Value} {r : Int} (h : Mid w wd b m1 m2 L rows O O' s) (hr : r = reqL s.name.data.toList)
    (hn1 : ∃ sz, VMap w1 Try.prog 9 m1 (L.length + 1) sz (setF (notedF L) (nameK s) (some (.bool true)))) (f1 : Frm (oneB m1) wd w1) (f1d : Frm noB w1 w1d)
    (ho : Own spnE w2 0 35 v (ownL L r ++ [s])) (f2 : Frm (fun i => some i = (rows r).ownBlock) w1d w2) (hv : v.ownBlock = (rows r).ownBlock ∨ ∃ g, v.ownBlock = some g ∧ w1d.heap.size < g ∧ g < w2.heap.size)
    (hs3 : ∃ sz, VMap w3 Try.prog 3 m2 (L.length + 1) sz (setF (spansF L rows) (.int .i64 r) (some v))) (f3 : Frm (oneB m2) w2 w3) :
    ∃ O'', LogM w3 b m1 m2 (L ++ [s]) (rowsS rows r v) O'' ∧ Frm O w w3 ∧ ∀ k, O'' k → O k ∨ w.heap.size ≤ k := by
  subst hr
  have hM := h.log
  have z1 := f1.size
  have z1d := f1d.size
  have z2 := f2.size
  have z3 := f3.size
  have rl : ∀ q k, (rows q).ownBlock = some k → k < wd.heap.size := fun q k hk => ((hM.row q).lt k hk).2
  have vO : ∀ k, v.ownBlock = some k → (rows (reqL s.name.data.toList)).ownBlock = some k ∨ (w1d.heap.size < k ∧ k < w2.heap.size) := fun k hk => by
    rcases hv with hv | ⟨g, hg, h1, h2⟩
    · exact .inl (by rw [← hv]; exact hk)
    · rw [hg] at hk; simp at hk; subst hk; exact .inr ⟨h1, h2⟩
  have vne : ∀ k, v.ownBlock = some k → k ≠ b ∧ k ≠ m1 ∧ k ≠ m2 := fun k hk => by
    rcases vO k hk with h1 | ⟨h1, h2⟩
    · exact (hM.rowO _ k h1).2
    · have e1 := hM.lt _ hM.ob
      have e2 := hM.lt _ hM.o1
      have e3 := hM.lt _ hM.o2
      omega
  have f12 : Frm (fun k => k = m1 ∨ some k = (rows (reqL s.name.data.toList)).ownBlock) wd w2 :=
    ((f1.mono (fun k _ h => .inl h)).trans (f1d.mono (fun _ _ h => h.elim))).trans (f2.mono (fun _ _ h => .inr h))
  have f13 : Frm (fun k => k = m1 ∨ k = m2 ∨ some k = (rows (reqL s.name.data.toList)).ownBlock) wd w3 :=
    (f12.mono (fun k _ h => by rcases h with h | h; exact .inl h; exact .inr (.inr h))).trans (f3.mono (fun _ _ h => .inr (.inl h)))
  refine ⟨fun k => O' k ∨ v.ownBlock = some k, ⟨?_, ?_, ?_, ?_, ?_, ?_, ?_, .inl hM.ob, .inl hM.o1, .inl hM.o2, hM.b1, hM.b2, hM.m12, ?_⟩, ?_, ?_⟩
  · refine hM.blk.frm f13 ?_
    rintro (h1 | h1 | h1)
    · exact hM.b1 h1
    · exact hM.b2 h1
    · exact (hM.rowO _ _ h1.symm).2.1 rfl
  · obtain ⟨sz, hn⟩ := hn1
    refine ⟨sz, ?_⟩
    rw [List.length_append]
    exact (((hn.frm f1d (fun h => h)).frm f2 (fun e => (hM.rowO _ m1 e.symm).2.2.1 rfl)).frm f3 hM.m12).congr (notedF_app L s)
  · obtain ⟨sz, hn⟩ := hs3
    refine ⟨sz, ?_⟩
    rw [List.length_append]
    exact hn.congr (spansF_app L rows s v)
  · intro q
    by_cases hq : q = reqL s.name.data.toList
    · subst hq
      rw [ownL_app, if_pos rfl]
      simp only [rowsS, if_true]
      exact ho.frm f3 (fun k hk => (vne k hk).2.2)
    · rw [ownL_app, if_neg (fun e => hq e.symm)]
      simp only [rowsS, if_neg hq]
      refine (hM.row q).frm f13 (fun k hk => ?_)
      rintro (h1 | h1 | h1)
      · exact (hM.rowO q k hk).2.2.1 h1
      · exact (hM.rowO q k hk).2.2.2 h1
      · exact hM.apart q _ k hq hk h1.symm
  · intro q hq
    rw [ownL_app] at hq
    split at hq
    · simp at hq
    · rename_i hne
      have : ¬ q = reqL s.name.data.toList := fun e => hne e.symm
      simp only [rowsS, if_neg this]
      exact hM.none q hq
  · intro q k hk
    by_cases hq : q = reqL s.name.data.toList
    · subst hq
      simp only [rowsS, if_true] at hk
      exact ⟨.inr hk, vne k hk⟩
    · simp only [rowsS, if_neg hq] at hk
      exact ⟨.inl (hM.rowO q k hk).1, (hM.rowO q k hk).2⟩
  · intro q q' k hne hk hk'
    have key : ∀ p, p ≠ reqL s.name.data.toList → (rows p).ownBlock = some k → v.ownBlock = some k → False := fun p hp h1 h2 => by
      rcases vO k h2 with h3 | ⟨h3, _⟩
      · exact hM.apart p _ k hp h1 h3
      · have := rl p k h1; omega
    by_cases hq : q = reqL s.name.data.toList
    · by_cases hq' : q' = reqL s.name.data.toList
      · exact hne (hq.trans hq'.symm)
      · simp only [rowsS, if_pos hq] at hk
        simp only [rowsS, if_neg hq'] at hk'
        exact key q' hq' hk' hk
    · simp only [rowsS, if_neg hq] at hk
      by_cases hq' : q' = reqL s.name.data.toList
      · simp only [rowsS, if_pos hq'] at hk'
        exact key q hq hk hk'
      · simp only [rowsS, if_neg hq'] at hk'
        exact hM.apart q q' k hne hk hk'
  · rintro k (hk | hk)
    · have := hM.lt k hk; omega
    · rcases vO k hk with h1 | ⟨_, h2⟩
      · have := rl _ k h1; omega
      · omega
  · refine h.frm.new f13 (fun k hk hh => ?_)
    have : O' k := by
      rcases hh with rfl | rfl | hh
      · exact hM.o1
      · exact hM.o2
      · exact (hM.rowO _ k hh.symm).1
    rcases h.new k this with h1 | h1
    · exact h1
    · omega
  · rintro k (hk | hk)
    · exact h.new k hk
    · rcases vO k hk with h1 | ⟨h1, _⟩
      · exact h.new k (hM.rowO _ k h1).1
      · right; have := h.frm.size; omega

theorem noteE_new {L : List Spn} {s : Spn} (ht : readT s.name.data.toList = true) (hi : isIn L s = false) : noteE L s = 0 ∧ noteL L s = L ++ [s] := by unfold noteE noteL; rw [ht, hi]; exact ⟨rfl, rfl⟩
theorem reqL_wf (l : List UInt8) : (Lit.int .i64 (reqL l)).wf = true := by
  have h : 0 ≤ reqL l ∧ reqL l ≤ 2147483647 := by
    unfold reqL
    cases h : readL l with
    | none => simp
    | some p => obtain ⟨v, t⟩ := p; have := readL_pos h; simp only; omega
  exact WalkArith.wf_i64 (by omega)
theorem spansF_getD {L : List Spn} {rows : Int → Value} (h : ∀ r, ownL L r = [] → rows r = .slice none 0 0) (r : Int) : (spansF L rows (.int .i64 r)).getD (.slice none 0 0) = rows r := by
  unfold spansF
  simp only
  cases ho : ownL L r with
  | nil => simp [h r ho]
  | cons a l => simp
theorem mid_nil {w W : World} {b : Nat} {O : Nat → Prop} {s : Spn} (hbb : Blk W b (logCells none none) 29) (hbx : Blk W w.heap.size (boxS s) 35) (hsz : W.heap.size = w.heap.size + 1) (hf : Frm noB w W) (hO : O b) (hlt : ∀ k, O k → k < w.heap.size) :
    Mid w ((((W.setCell ⟨b, 0, none⟩ (.map (some (w.heap.size + 1)))).alloc (.map #[] 0)).alloc (.map #[] 0)).setCell ⟨b, 1, none⟩ (.map (some (w.heap.size + 1 + 1)))) b (w.heap.size + 1) (w.heap.size + 1 + 1) [] (fun _ => .slice none 0 0) O
      (fun k => O k ∨ k = w.heap.size + 1 ∨ k = w.heap.size + 1 + 1) s := by
  have hb := hlt b hO
  have hs1 : (W.setCell ⟨b, 0, none⟩ (.map (some (w.heap.size + 1)))).heap.size = w.heap.size + 1 := by simp [World.setCell, hsz]
  have hs2 : ((W.setCell ⟨b, 0, none⟩ (.map (some (w.heap.size + 1)))).alloc (.map #[] 0)).heap.size = w.heap.size + 1 + 1 := by rw [World.size_alloc, hs1]
  have fb : ∀ (w' : World) (o : Nat) (v : Value), Frm (oneB b) w' (w'.setCell ⟨b, o, none⟩ v) := fun w' o v => (Frm.refl _ w').setOne o v
  have hm1 := VMap.made (W.setCell ⟨b, 0, none⟩ (.map (some (w.heap.size + 1)))) Try.prog 9
  have hm2 := VMap.made ((W.setCell ⟨b, 0, none⟩ (.map (some (w.heap.size + 1)))).alloc (.map #[] 0)) Try.prog 3
  rw [hs1] at hm1
  rw [hs2] at hm2
  refine ⟨⟨?_, ⟨0, ?_⟩, ⟨0, ?_⟩, fun r => Own.nil _ _ _ _, fun _ _ => rfl, ?_, ?_, .inl hO, .inr (.inl rfl), .inr (.inr rfl), by omega, by omega, by omega, ?_⟩, ?_, ?_, ?_, ?_⟩
  · have h := (((hbb.set 0 (.map (some (w.heap.size + 1)))).alloc (.map #[] 0)).alloc (.map #[] 0)).set 1 (.map (some (w.heap.size + 1 + 1)))
    simpa [logCells] using h
  · exact ((hm1.frm ((Frm.refl noB _).alloc _) (fun h => h)).frm (fb _ 1 _) (by simp only [oneB]; omega)).congr (fun l _ => rfl)
  · exact (hm2.frm (fb _ 1 _) (by simp only [oneB]; omega)).congr (fun l _ => by
      unfold spansF
      split
      · rfl
      · rfl)
  · intro r k hk; simp [Value.ownBlock] at hk
  · intro r r' k _ hk; simp [Value.ownBlock] at hk
  · intro k hk
    rw [show ((((W.setCell ⟨b, 0, none⟩ (.map (some (w.heap.size + 1)))).alloc (.map #[] 0)).alloc (.map #[] 0)).setCell ⟨b, 1, none⟩ (.map (some (w.heap.size + 1 + 1)))).heap.size = w.heap.size + 1 + 1 + 1 from by simp [World.setCell, hsz]]
    rcases hk with hk | rfl | rfl
    · have := hlt k hk; omega
    · omega
    · omega
  · exact ((((hf.mono (fun _ _ h => h.elim)).setCell (p := ⟨b, 0, none⟩) hO _).alloc _).alloc _).setCell (p := ⟨b, 1, none⟩) hO _
  · exact (((hbx.set_ne (a := ⟨b, 0, none⟩) (by simp; omega) _).alloc _).alloc _).set_ne (a := ⟨b, 1, none⟩) (by simp; omega) _
  · rintro k (hk | rfl | rfl)
    · exact .inl hk
    · right; omega
    · right; omega
  · rintro (hk | hk | hk)
    · have := hlt _ hk; omega
    · omega
    · omega
set_option maxHeartbeats 4000000 in
theorem note_new (b : Nat) (mo1 mo2 : Option Nat) (nm : ByteArray) (s1 s2 s3 s5 : Int) (s4 : Bool) (L : List Spn) (O : Nat → Prop) (w : World) (hblk : Blk w b (logCells mo1 mo2) 29)
    (h : (mo1 = none ∧ mo2 = none ∧ L = [] ∧ O b ∧ ∀ k, O k → k < w.heap.size) ∨ ∃ m1 m2 rows, mo1 = some m1 ∧ mo2 = some m2 ∧ LogM w b m1 m2 L rows O) (hL : L.length ≤ 100000)
    (hs : nm.size ≤ 1000000) (ht : readT nm.data.toList = true) (hi : isIn L ⟨nm, s1, s2, s3, s4, s5⟩ = false) :
    Calls Try.prog 14 #[.pointer (some ⟨b, 0, none⟩), .agg #[.string nm, .int .i64 s1, .int .i64 s2, .int .i64 s3, .bool s4, .int .i64 s5]] w (NoteIs b L ⟨nm, s1, s2, s3, s4, s5⟩ O w) := by
  have he := noteE_new (s := ⟨nm, s1, s2, s3, s4, s5⟩) ht hi
  have hsz : nm.size ≤ maxLen := by simp only [maxLen]; omega
  have hkS := Go.WideMaps.keyOf_string_mk Try.underlying9 hsz
  have hlk : ∀ w', Frm noB w w' → (Instr.lookup 26 (.map mo1) (.string nm) false).run Try.prog w' = .ok (.bool false) w' := fun w' hf => by
    rcases h with ⟨h1, _⟩ | ⟨m1, m2, rows, h1, _, h⟩
    · subst h1
      exact Maps.look_nil false keyS Try.underlying26 (zeroB w') hkS
    · subst h1
      obtain ⟨sz, hn⟩ := h.noted
      rw [(hn.frm hf (fun h => h)).look keyS Try.underlying26 (zeroB w') hkS]
      rw [show notedF L (.string nm.data.toList) = none from by rw [show (Lit.string nm.data.toList) = nameK ⟨nm, s1, s2, s3, s4, s5⟩ from rfl, notedF_at, hi]; rfl]
      rfl
  have hlk2 := fun q => hlk ((w.alloc (.cells #[.string nm, .int .i64 s1, .int .i64 s2, .int .i64 s3, .bool s4, .int .i64 s5] 35)).drewN q) (((Frm.refl noB w).alloc _).drewN q)
  have heq := fun w => Go.run_eql_map_nil (P := Try.prog) w 26 9 4 mo1 Try.underlying26
  have hc0 := hblk.cell 0
  have hbl := hblk.lt
  simp [logCells] at hc0
  have Hh := Lib.hid h
  have Ht := Lib.hid ht
  have He := Lib.hid he
  have Hlk := Lib.hid hlk
  have Hi := Lib.hid hi
  have Hblk := Lib.hid hblk
  have HkS := Lib.hid hkS
  clear h ht he hlk hi hblk hkS
  go_enter Try.func14, Try.ntmps14
  go_wp2_with fail
  refine (read_any nm _ hs).mono ?_
  rintro e w' ⟨rfl, rfl⟩
  rw [Ht.out, readI_eq]
  go_wp2_with fail
  go_quiet (fail)
  go_upto_if 26 with fail
  go_cut [28] (fun s28 wx => ∃ m1 m2 rows O', Mid w wx b m1 m2 L rows O O' ⟨nm, s1, s2, s3, s4, s5⟩)
  case first =>
    have hbx := ((Blk.made w (boxS ⟨nm, s1, s2, s3, s4, s5⟩) 35).frm (Frm.drewN (Frm.refl noB _) nq) (fun h => h))
    have hbb := ((Hblk.out.alloc (.cells (boxS ⟨nm, s1, s2, s3, s4, s5⟩) 35)).frm (Frm.drewN (Frm.refl noB _) nq) (fun h => h))
    have Hbx := Lib.hid hbx
    have Hbb := Lib.hid hbb
    clear hbx hbb
    rcases Hh.out with ⟨h1, h2, hLn, hO, hlt⟩ | ⟨m1, m2, rows, h1, h2, hM⟩
    · subst h1; subst h2
      have hmm := @run_makeMap Try.prog
      have hz0 := Hblk.out.free 0
      have hz1 := Hblk.out.free 1
      have hb1 := Hblk.out.cell 1
      simp [logCells] at hb1
      have hfz := fun v => (((Hbb.out.set 0 v).alloc (.map #[] 0)).alloc (.map #[] 0)).free 1
      have hcz := fun v => ((((Hbb.out.set 0 v).alloc (.map #[] 0)).alloc (.map #[] 0)).cell 1).trans (show ((logCells none none).setIfInBounds 0 v)[1]? = some (.map none) from by simp [logCells])
      simp only [boxS] at hfz hcz
      have HLn := Lib.hid hLn
      have HO := Lib.hid hO
      have Hlt := Lib.hid hlt
      clear hLn hO hlt
      go_wp2_with fail
      go_meet
      rw [HLn.out]
      exact ⟨_, _, _, _, mid_nil (s := ⟨nm, s1, s2, s3, s4, s5⟩) Hbb.out Hbx.out (by simp [World.drewN]) (((Frm.refl noB w).alloc _).drewN _) HO.out Hlt.out⟩
    · subst h1; subst h2
      have HM := Lib.hid hM
      clear hM
      go_wp2_with fail
      go_meet
      refine ⟨m1, m2, rows, O, HM.out.frm (((Frm.refl noB w).alloc _).drewN _) (fun _ _ h => h), ((Frm.refl _ w).alloc _).drewN _, Hbx.out, fun k hk => .inl hk, fun hk => ?_⟩
      have := HM.out.lt _ hk
      omega
  case rest =>
    obtain ⟨m1, m2, rows, O', hmid⟩ := hcut
    have hM := hmid.log
    obtain ⟨sz1, hn⟩ := hM.noted
    obtain ⟨sz2, hsp⟩ := hM.spans
    have hc0 := hM.blk.cell 0
    have hc1 := hM.blk.cell 1
    simp [logCells] at hc0 hc1
    have hbc := hM.blk.lt
    have x0 : wc.cell? ⟨w.heap.size, 0, none⟩ = some (.string nm) := hmid.box.cell 0
    have hxl := hmid.box.lt
    have Hmid := Lib.hid hmid
    have HM := Lib.hid hM
    have Hn := Lib.hid hn
    have Hsp := Lib.hid hsp
    clear hmid hM hn hsp
    go_wp2_with fail
    go_still_tail 6, (by kernel_rfl)
    change wpList _ _ _ _ _ wc.drew
    have hfd : Frm noB wc wc.drew := (Frm.refl _ _).drew
    have hstore := (Hn.out.frm hfd (fun h => h)).store (t := 26) keyS Try.underlying26 (by simp only [maxLen]; omega) HkS.out (.bool true)
    obtain ⟨w1, hrun, hv1, hf1⟩ := hstore
    have hf1' := (hfd.mono (fun _ _ h => h.elim)).trans hf1
    have hb1 := HM.out.blk.frm hf1' HM.out.b1
    have hbx1 := Hmid.out.box.frm hf1' (fun e => Hmid.out.nobox (by rw [show w.heap.size = m1 from e]; exact HM.out.o1))
    have d0 := hb1.cell 0
    have d1 := hb1.cell 1
    simp [logCells] at d0 d1
    have e0 : w1.cell? ⟨w.heap.size, 0, none⟩ = some (.string nm) := hbx1.cell 0
    have e1 : w1.cell? ⟨w.heap.size, 1, none⟩ = some (.int .i64 s1) := hbx1.cell 1
    have e2 : w1.cell? ⟨w.heap.size, 2, none⟩ = some (.int .i64 s2) := hbx1.cell 2
    have e3 : w1.cell? ⟨w.heap.size, 3, none⟩ = some (.int .i64 s3) := hbx1.cell 3
    have e4 : w1.cell? ⟨w.heap.size, 4, none⟩ = some (.bool s4) := hbx1.cell 4
    have e5 : w1.cell? ⟨w.heap.size, 5, none⟩ = some (.int .i64 s5) := hbx1.cell 5
    have hl1 := hb1.lt
    have hl2 := hbx1.lt
    have hsp1 := Hsp.out.frm hf1' HM.out.m12.symm
    have hwf : (Lit.int .i64 (reqL nm.data.toList)).wf = true := reqL_wf _
    have hkI := Maps.keyOf_int_mk Try.underlying3 hwf
    have hlk3 := hsp1.look (t := 27) keyI Try.underlying27 (zeroSl w1) hkI
    rw [spansF_getD HM.out.none] at hlk3
    have hlk4 := (hsp1.frm (Frm.drew (Frm.refl noB w1)) (fun h => h)).look (t := 27) keyI Try.underlying27 (zeroSl w1.drew) hkI
    rw [spansF_getD HM.out.none] at hlk4
    have hlk5 := (hsp1.frm (Frm.alloc (Frm.drew (Frm.refl noB w1)) (.cells #[.string nm, .int .i64 s1, .int .i64 s2, .int .i64 s3, .bool s4, .int .i64 s5] 35)) (fun h => h)).look (t := 27) keyI Try.underlying27 (zeroSl _) hkI
    rw [spansF_getD HM.out.none] at hlk5
    have hlk6 := (hsp1.frm (Frm.drew (Frm.alloc (Frm.refl noB w1) (.cells #[.string nm, .int .i64 s1, .int .i64 s2, .int .i64 s3, .bool s4, .int .i64 s5] 35))) (fun h => h)).look (t := 27) keyI Try.underlying27 (zeroSl _) hkI
    rw [spansF_getD HM.out.none] at hlk6
    have hS : ∀ W, Frm (fun k => k ≠ b ∧ k ≠ w.heap.size) w1 W → (W.cell? ⟨b, 1, none⟩ = some (.map (some m2)) ∧ W.cell? ⟨w.heap.size, 0, none⟩ = some (.string nm) ∧ W.cell? ⟨w.heap.size, 1, none⟩ = some (.int .i64 s1) ∧ W.cell? ⟨w.heap.size, 2, none⟩ = some (.int .i64 s2) ∧
        W.cell? ⟨w.heap.size, 3, none⟩ = some (.int .i64 s3) ∧ W.cell? ⟨w.heap.size, 4, none⟩ = some (.bool s4) ∧ W.cell? ⟨w.heap.size, 5, none⟩ = some (.int .i64 s5)) := fun W hW =>
      ⟨cell_frm hW (fun h => h.1 rfl) d1, cell_frm hW (fun h => h.2 rfl) e0, cell_frm hW (fun h => h.2 rfl) e1, cell_frm hW (fun h => h.2 rfl) e2, cell_frm hW (fun h => h.2 rfl) e3, cell_frm hW (fun h => h.2 rfl) e4, cell_frm hW (fun h => h.2 rfl) e5⟩
    have hrowO := HM.out.rowO (reqL nm.data.toList)
    have hT : ∀ W W2, Frm noB w1 W → Frm (fun i => some i = (rows (reqL nm.data.toList)).ownBlock) W W2 → Frm (fun i => some i = (rows (reqL nm.data.toList)).ownBlock) w1 W2 := fun W W2 h1 h2 => (h1.mono (fun _ _ h => h.elim)).trans h2
    have hR : ∀ W2, Frm (fun i => some i = (rows (reqL nm.data.toList)).ownBlock) w1 W2 → Frm (fun k => k ≠ b ∧ k ≠ w.heap.size) w1 W2 := fun W2 h => h.mono (fun k _ hk => ⟨(hrowO k hk.symm).2.1, fun e => Hmid.out.nobox (e ▸ (hrowO k hk.symm).1)⟩)
    have hU : ∀ W2 v, Frm (fun i => some i = (rows (reqL nm.data.toList)).ownBlock) w1 W2 → ∃ w3, (Instr.mapUpdate 27 (.map (some m2)) (.int .i64 (reqL nm.data.toList)) v).run Try.prog W2 = .ok () w3 ∧
        (∃ sz, VMap w3 Try.prog 3 m2 (L.length + 1) sz (setF (spansF L rows) (.int .i64 (reqL nm.data.toList)) (some v))) ∧ Frm (oneB m2) W2 w3 := fun W2 v h => by
      obtain ⟨w3, h1, h2, h3⟩ := (hsp1.frm h (fun e => (hrowO m2 e.symm).2.2.2 rfl)).store (t := 27) keyI Try.underlying27 (by simp only [maxLen]; omega) hkI v
      exact ⟨w3, h1, ⟨_, h2⟩, h3⟩
    have hV : ∀ W2 w3, Frm (fun i => some i = (rows (reqL nm.data.toList)).ownBlock) w1 W2 → Frm (oneB m2) W2 w3 → Frm (fun k => k ≠ b ∧ k ≠ w.heap.size) w1 w3 := fun W2 w3 h h3 => (hR W2 h).trans (h3.mono (fun k _ hk => by
      have hk' : k = m2 := hk
      subst hk'
      exact ⟨HM.out.b2.symm, fun e => Hmid.out.nobox (e ▸ HM.out.o2)⟩))
    have hsm : (ownL L (reqL nm.data.toList)).length ≤ 1000000 := Nat.le_trans (List.length_filter_le _ _) (by omega)
    have hrow := (HM.out.row (reqL nm.data.toList)).frm hf1' (fun k hk => (HM.out.rowO _ k hk).2.2.1)
    generalize wc.drew = wd at *
    have hbm := Blk.made w1 #[.string nm, .int .i64 s1, .int .i64 s2, .int .i64 s3, .bool s4, .int .i64 s5] 35
    have Hv1 := Lib.hid hv1
    have Hf1 := Lib.hid hf1
    have Hf1' := Lib.hid hf1'
    have Hb1 := Lib.hid hb1
    have Hbx1 := Lib.hid hbx1
    have Hsp1 := Lib.hid hsp1
    have HkI := Lib.hid hkI
    have Hrow := Lib.hid hrow
    have Hfd := Lib.hid hfd
    have HS := Lib.hid hS
    have HrowO := Lib.hid hrowO
    have HT := Lib.hid hT
    have HR := Lib.hid hR
    have HU := Lib.hid hU
    have HV := Lib.hid hV
    have Hsm := Lib.hid hsm
    have Hbm := Lib.hid hbm
    clear hv1 hf1 hf1' hb1 hbx1 hsp1 hkI hrow hfd hS hrowO hT hR hU hV hsm hbm
    go_wp2_with fail
    clear hrun
    go_region_held3 (fun W => W.cell? ⟨b, 1, none⟩ = some (.map (some m2)) ∧ W.cell? ⟨w.heap.size, 0, none⟩ = some (.string nm) ∧ W.cell? ⟨w.heap.size, 1, none⟩ = some (.int .i64 s1) ∧ W.cell? ⟨w.heap.size, 2, none⟩ = some (.int .i64 s2) ∧
        W.cell? ⟨w.heap.size, 3, none⟩ = some (.int .i64 s3) ∧ W.cell? ⟨w.heap.size, 4, none⟩ = some (.bool s4) ∧ W.cell? ⟨w.heap.size, 5, none⟩ = some (.int .i64 s5))
      (first | exact HS.out _ (Frm.refl _ _) | exact HS.out _ (Frm.drew (Frm.refl _ _)) | exact HS.out _ (Frm.alloc (Frm.drew (Frm.refl _ _)) _) | exact HS.out _ (Frm.drew (Frm.alloc (Frm.refl _ _) _)) | exact HS.out _ (HR.out _ hT2) | exact HS.out _ (HV.out _ _ hT2 hf3))
      ((refine step_app_spn _ (by rfl) _ _ (by rfl) 0 (rows (reqL nm.data.toList)) (ownL L (reqL nm.data.toList)) (by rfl) (by first | exact Hrow.out.keep (Frm.drew (Frm.alloc (Frm.refl noB w1) _)) | exact Hrow.out.keep (Frm.alloc (Frm.drew (Frm.refl noB w1)) _)) ⟨nm, s1, s2, s3, s4, s5⟩ w1.heap.size (by rfl)
          #[.string nm, .int .i64 s1, .int .i64 s2, .int .i64 s3, .bool s4, .int .i64 s5] (by exact Hbm.out) (by rfl) Hsm.out (Nat.zero_le _) ?_
        intro v' w2 ho hf2 hat hne
        have hT2 := HT.out _ w2 (by first | exact Frm.drew (Frm.alloc (Frm.refl noB w1) _) | exact Frm.alloc (Frm.drew (Frm.refl noB w1)) _) hf2
        obtain ⟨w3, hrun3, hv3, hf3⟩ := HU.out w2 v' hT2))
    all_goals
      go_wp2_with fail
      go_ret
      have hlo := ho.lt
      obtain ⟨O'', hl, hfr, hnw⟩ := mid_end (s := ⟨nm, s1, s2, s3, s4, s5⟩) (w1d := w1) Hmid.out rfl ⟨_, Hv1.out⟩ Hf1'.out (Frm.refl noB w1) ho hT2 (by
        rcases hat with h | h
        · exact .inl h
        · exact .inr ⟨_, h, by simp, (hlo _ h).2⟩) hv3 hf3
      exact ⟨O'', ret_int He.out.1.symm, by rw [He.out.2]; exact .inr ⟨m1, m2, _, hl⟩, hfr, hnw⟩
theorem note_any (b : Nat) (s : Spn) (L : List Spn) (O : Nat → Prop) (w : World) (h : LogIs w b L O) (hL : L.length ≤ 100000) (hs : s.name.size ≤ 1000000) :
    Calls Try.prog 14 #[.pointer (some ⟨b, 0, none⟩), spnV s] w (NoteIs b L s O w) := by
  cases ht : readT s.name.data.toList
  · exact note_form b s L O w h hs ht
  · cases hi : isIn L s
    · obtain ⟨nm, s1, s2, s3, s4, s5⟩ := s
      rcases h with ⟨h1, h2, h3, h4⟩ | ⟨m1, m2, rows, h⟩
      · exact note_new b none none nm s1 s2 s3 s5 s4 L O w h2 (.inl ⟨rfl, rfl, h1, h3, h4⟩) hL hs ht hi
      · exact note_new b (some m1) (some m2) nm s1 s2 s3 s5 s4 L O w h.blk (.inr ⟨m1, m2, rows, rfl, rfl, h⟩) hL hs ht hi
    · rcases h with ⟨h1, h2, h3, h4⟩ | ⟨m1, m2, rows, h⟩
      · subst h1; simp [isIn] at hi
      · exact note_two b m1 m2 s L rows O w h hs ht hi
end Go.Proofs.Ytnmcdecdgcnmbaa
