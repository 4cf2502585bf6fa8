/- missing of the collector: what is around what came, and did not come. -/
import Derived.Test.YtpgcfeplcibhoaaDoorColAround
import Derived.Test.YtpgcfeplcibhoaaDoorColM
set_option linter.unusedVariables false
set_option linter.unusedSimpArgs false
namespace Go.Proofs.YtpgcfeplcibhoaaDoor
open Go.RowKit Go.Shelf
attribute [local go_sem] Oper.semAt_some

theorem zeroBl (w : World) : (zeroValue 4).run Tryd.prog w = .ok (.bool false) w := by kernel_rfl
def addUps (S : List (List UInt8)) : List (List UInt8) → List (List UInt8)
  | [] => S
  | a :: r => if a ∈ S then S else addUps (S ++ [a]) r
def seenL (S : List (List UInt8)) : List ByteArray → List (List UInt8)
  | [] => S
  | nm :: r => seenL (addUps S (ups nm.data.toList)) r
def misS (L : List Spn) (S : List (List UInt8)) : List ByteArray := (S.filter fun a => (fndS L a).isNone).map bs
def seenF (S : List (List UInt8)) : Lit → Option Value := fun kl => match kl with
  | .string l => if l ∈ S then some (.bool true) else none
  | _ => none
theorem seenF_app (S : List (List UInt8)) (a : List UInt8) (l : Lit) (hl : WideAt.IsKeyLit l) : seenF (S ++ [a]) l = setF (seenF S) (.string a) (some (.bool true)) l := by
  by_cases h : l = .string a
  · subst h
    rw [setF_same hl]
    simp [seenF]
  · rw [setF_other h]
    unfold seenF
    split
    · rename_i q
      have hq : ¬ q = a := fun e => h (by rw [e])
      simp [hq]
    · rfl
theorem misS_app (L : List Spn) (S : List (List UInt8)) (a : List UInt8) : misS L (S ++ [a]) = if (fndS L a).isNone then misS L S ++ [bs a] else misS L S := by
  unfold misS
  rw [List.filter_append, List.map_append]
  by_cases h : (fndS L a).isNone = true <;> simp [h]

/-- A block that holds a row is a block of cells. -/
theorem own_cells {α : Type} {E : Enc α} {w : World} {base : Nat} {T : TypeId} {v : Value} {l : List α} (h : Own E w base T v l) {g : Nat} (hg : v.ownBlock = some g) {o : Obj} (ho : w.heap[g]? = some o) : o.isCells = true := by
  obtain ⟨_, h | ⟨g', cap, cur, hv, _, hh, _⟩⟩ := h
  · rw [h.1] at hg; simp [Value.ownBlock] at hg
  · rw [hv] at hg; simp [Value.ownBlock] at hg
    rw [← hg, hh] at ho
    cases ho; rfl
theorem keepsFrom_frm {S : Nat → Prop} {B : Nat} {W W' : World} (f : Frm S W W') (h : ∀ i o, S i → B ≤ i → W.heap[i]? = some o → o.isCells = true) : KeepsFrom B W W' :=
  ⟨f.size, fun k o hB hk ho => by
    by_cases hs : S k
    · rw [h k o hs hB hk] at ho; simp at ho
    · rw [f.block k (Array.getElem?_eq_some_iff.1 hk).1 hs]; exact hk⟩
structure MSt (w W : World) (b : Nat) (L : List Spn) (bc bl ms bq base : Nat) (S : List (List UInt8)) (v : Value) (k : Nat) (Ds : List Nat) : Prop where
  frm : Frm noB w W
  cb : Blk W bc #[.pointer (some ⟨b, 0, none⟩)] 23
  lb : Blk W bl #[v] 61
  qb : Blk W bq #[.map (some ms)] 81
  mp : ∃ sz, VMap W Tryd.prog 9 ms k sz (seenF S)
  row : Own strE W base 9 v (misS L S)
  ds : ∀ D, D ∈ Ds → base ≤ D ∧ W.heap[D]? = some (.deferred (some []))
  sz : base ≤ W.heap.size
theorem MSt.frmS {w W W' : World} {b : Nat} {L : List Spn} {bc bl ms bq base k : Nat} {S : List (List UInt8)} {v : Value} {Ds : List Nat} {T : Nat → Prop} (h : MSt w W b L bc bl ms bq base S v k Ds) (f : Frm T W W')
    (h0 : ∀ i, i < w.heap.size → ¬ T i) (h1 : ¬ T bc) (h2 : ¬ T bl) (h3 : ¬ T bq) (h4 : ¬ T ms) (h5 : ∀ g, v.ownBlock = some g → ¬ T g) (h6 : ∀ D ∈ Ds, ¬ T D) : MSt w W' b L bc bl ms bq base S v k Ds := by
  obtain ⟨sz, hm⟩ := h.mp
  exact ⟨h.frm.new f (fun i hi ht => h0 i hi ht), h.cb.frm f h1, h.lb.frm f h2, h.qb.frm f h3, ⟨sz, hm.frm f h4⟩, h.row.frm f h5,
    fun D hD => ⟨(h.ds D hD).1, by rw [f.block D (Array.getElem?_eq_some_iff.1 (h.ds D hD).2).1 (h6 D hD)]; exact (h.ds D hD).2⟩, Nat.le_trans h.sz f.size⟩
theorem blk_cells {w : World} {b : Nat} {cs : Array Value} {T : TypeId} (h : Blk w b cs T) {o : Obj} (ho : w.heap[b]? = some o) : o.isCells = true := by
  rw [show w.heap[b]? = _ from h] at ho; cases ho; rfl
theorem MSt.grown {w W W' : World} {b : Nat} {L : List Spn} {bc bl ms bq base k B : Nat} {S : List (List UInt8)} {v : Value} {Ds : List Nat} {row : Option Nat} (h : MSt w W b L bc bl ms bq base S v k Ds) (hg : W.grownBy W' row)
    (hr : ∀ r, row = some r → B ≤ r ∧ ∃ o : Obj, W.heap[r]? = some o ∧ o.isCells = false) (hw : w.heap.size ≤ base) (hm : ms < B) (hB : base ≤ B) (hD : ∀ D ∈ Ds, D < B) : MSt w W' b L bc bl ms bq base S v k Ds := by
  have key : ∀ {i : Nat}, (∀ o : Obj, W.heap[i]? = some o → o.isCells = true) → ¬ some i = row := fun hc e => by
    obtain ⟨_, o, ho, hf⟩ := hr _ e.symm
    rw [hc o ho] at hf; simp at hf
  refine h.frmS (Frm.ofGrown hg) (fun i hi e => ?_) (key fun o ho => blk_cells h.cb ho) (key fun o ho => blk_cells h.lb ho) (key fun o ho => blk_cells h.qb ho) (fun e => ?_) (fun g hg => key fun o ho => own_cells h.row hg ho) (fun D hd e => ?_)
  · have := (hr _ e.symm).1; omega
  · have := (hr _ e.symm).1; omega
  · have := (hr _ e.symm).1; have := hD D hd; omega
section
variable {α : Type} {F : Fence} {n : Nat} {P : Program}
theorem wplIn_app1 (E : Enc α) (w : World) {ops : Array Oper} {rest : List Oper} {o : Oper} {a : Act} {Q : Exit → Act → World → Prop} (hgd : o.guard = none) (s x : Operand) (t : TypeId)
    (ho : o.op = .call { callee := .builtin .append, args := #[s, x], argTypes := #[t, t] })
    (base : Nat) (e : TypeId) (i : TypeInfo) (z : Value) (bytes : Nat) (ht : P.underlying t = some (.slice e)) (hi : P.info? e = some i) (hz : i.zero = some z)
    (hsize : i.size = E.k) (hby : i.bytes = bytes) (hzs : z.cells.size = E.k) (hsz : 0 < E.k) (hb8 : bytes ≤ 10000)
    (v : Value) (l : List α) (hs : a.eval s = v) (hown : Own E w base e v l) (el : α) (cs : Array Value) (hcs : cs.toList = E.enc el)
    (H : Nat) (hH : w.heap.size = H) (hx : a.eval x = .slice (some ⟨H, 0, none⟩) 1 1) (hsm : l.length ≤ 1000000) (hbase : base ≤ w.heap.size)
    (h : ∀ v' w', Own E w' base e v' (l ++ [el]) → Frm (fun i => some i = v.ownBlock) w w' → wpListIn F n P ops Q rest (a.put o.dst v') w') : wpListIn F n P ops Q (o :: rest) a (w.alloc (.cells cs e)) := by
  subst hH
  refine wpListIn_plain hgd fun K hK => ?_
  obtain ⟨v', w', hrun, h1, h2, h3, h4⟩ := run_append_own_at (P := P) (w.alloc (.cells cs e)) base t o.type e i z E.k bytes ht hi hz hsize hby hzs hsz v l.length (rowOf E l) (hown.keep ((Frm.refl noB w).alloc _)) ⟨w.heap.size, 0, none⟩ 1 1 (rowOf E [el])
    (by rw [rowOf_len]; simp) (enc_new E w el cs e hcs) (rowOf_one E _) (by simp only [maxLen]; omega) (by have := Nat.mul_le_mul (show l.length + 1 ≤ 1000001 by omega) hb8; omega) (by simp; omega)
  have hf2 : Frm (fun i => some i = v.ownBlock) w w' := ((Frm.refl _ w).alloc _).trans (Frm.ofGrown h2)
  have hown' : Own E w' base e v' (l ++ [el]) := by unfold Own; rw [rowOf_app, List.length_append]; exact h1
  have := h v' w' hown' hf2
  unfold Oper.wpIn
  refine ⟨?_, ?_⟩
  · simp [Oper.about, ho, resolve, Target.leads, Sem.run_pure]
  · rw [Oper.semAt_plain F _ _ (by rw [ho]; intro c hc'; cases hc')]
    simp [execOp, ho, resolve, invoke, builtin, hs, hx, hrun, Result.andThen]
    exact hK _ _ this
end
theorem appIn_str (F : Fence) (n : Nat) (w : World) {ops : Array Oper} {rest : List Oper} {o : Oper} {a : Act} {Q : Exit → Act → World → Prop} (hgd : o.guard = none) (s x : Operand)
    (ho : o.op = .call { callee := .builtin .append, args := #[s, x], argTypes := #[61, 61] }) (base : Nat)
    (v : Value) (l : List ByteArray) (hs : a.eval s = v) (hown : Own strE w base 9 v l) (el : ByteArray) (cs : Array Value) (hcs : cs.toList = [.string el])
    (H : Nat) (hH : w.heap.size = H) (hx : a.eval x = .slice (some ⟨H, 0, none⟩) 1 1) (hsm : l.length ≤ 1000000) (hbase : base ≤ w.heap.size)
    (h : ∀ v' w', Own strE w' base 9 v' (l ++ [el]) → Frm (fun i => some i = v.ownBlock) w w' → wpListIn F n Tryd.prog ops Q rest (a.put o.dst v') w') : wpListIn F n Tryd.prog ops Q (o :: rest) a (w.alloc (.cells cs 9)) := by
  obtain ⟨i, hi, hz, h1, h2⟩ := info_parts info_str
  exact wplIn_app1 strE w hgd s x 61 ho base 9 i _ 16 Tryd.underlying61 hi hz h1 h2 rfl (by decide) (by omega) v l hs hown el cs hcs H hH hx hsm hbase h
section
variable {w Y Y1 Z : World} {b : Nat} {L : List Spn} {bc bl ms bq base B : Nat} {S : List (List UInt8)} {v : Value} {Ds : List Nat} {x : List UInt8}
theorem MSt.came (h : MSt w Y b L bc bl ms bq base S v S.length Ds) (hc : bc ≠ ms) (hl : bl ≠ ms) (hq : bq ≠ ms) (hw : w.heap.size ≤ ms) (hb : ms < base) {sz : Nat} (hst : VMap Y1 Tryd.prog 9 ms (S.length + 1) sz (setF (seenF S) (.string x) (some (.bool true))))
    (f1 : Frm (oneB ms) Y Y1) (fz : Frm noB Y1 Z) {y : Spn} (hy : fndS L x = some y) : MSt w Z b L bc bl ms bq base (S ++ [x]) v (S ++ [x]).length Ds := by
  have f2 : Frm (oneB ms) Y Z := f1.trans (fz.mono (fun _ _ h => h.elim))
  refine ⟨h.frm.new f2 (fun i hi e => by have e : i = ms := e; omega), h.cb.frm f2 hc, h.lb.frm f2 hl, h.qb.frm f2 hq, ⟨sz, ?_⟩, ?_, fun D hD => ⟨(h.ds D hD).1, ?_⟩, Nat.le_trans h.sz f2.size⟩
  · rw [List.length_append]
    exact (hst.frm fz (fun h => h)).congr (seenF_app S x)
  · rw [misS_app, hy]
    exact h.row.frm f2 (fun g hg e => by have := (h.row.lt g hg).1; have e : g = ms := e; omega)
  · rw [f2.block D (Array.getElem?_eq_some_iff.1 (h.ds D hD).2).1 (fun e => by have := (h.ds D hD).1; have e : D = ms := e; omega)]
    exact (h.ds D hD).2
theorem MSt.gone {W2 : World} {v' : Value} (h : MSt w Y b L bc bl ms bq base S v S.length Ds) (hc : bc ≠ ms) (hl : bl ≠ ms) (hq : bq ≠ ms) (hcl : bc ≠ bl) (hql : bq ≠ bl) (hw : w.heap.size ≤ ms) (hwl : w.heap.size ≤ bl) (hb : ms < base) (hbl : bl < base) (hbc : bc < base) (hbq : bq < base) {sz : Nat}
    (hst : VMap Y1 Tryd.prog 9 ms (S.length + 1) sz (setF (seenF S) (.string x) (some (.bool true))))
    (f1 : Frm (oneB ms) Y Y1) (fz : Frm noB Y1 Z) (f2 : Frm (fun i => some i = v.ownBlock) Z W2) (ho : Own strE W2 base 9 v' (misS L S ++ [bs x])) (hy : fndS L x = none) (hwb : w.heap.size ≤ base) :
    MSt w (W2.setCell ⟨bl, 0, none⟩ v') b L bc bl ms bq base (S ++ [x]) v' (S ++ [x]).length Ds ∧ (∀ B, bl < B → ms < B → KeepsFrom B Y (W2.setCell ⟨bl, 0, none⟩ v')) := by
  have vb : ∀ i, some i = v.ownBlock → base ≤ i := fun i e => (h.row.lt i e.symm).1
  have f3 : Frm (fun i => i = ms ∨ some i = v.ownBlock) Y W2 := ((f1.trans (fz.mono (fun _ _ h => h.elim))).mono (fun _ _ h => .inl h)).trans (f2.mono (fun _ _ h => .inr h))
  have f4 : Frm (fun i => i = bl ∨ i = ms ∨ some i = v.ownBlock) Y (W2.setCell ⟨bl, 0, none⟩ v') := (f3.mono (fun _ _ h => .inr h)).setCell (p := ⟨bl, 0, none⟩) (.inl rfl) v'
  have f5 : Frm (oneB bl) W2 (W2.setCell ⟨bl, 0, none⟩ v') := (Frm.refl _ W2).setOne 0 v'
  refine ⟨⟨?_, ?_, ?_, ?_, ⟨sz, ?_⟩, ?_, fun D hD => ⟨(h.ds D hD).1, ?_⟩, Nat.le_trans h.sz f4.size⟩, fun B hB1 hB2 => keepsFrom_frm f4 (fun i o hi hB ho => ?_)⟩
  · refine h.frm.new f4 ?_
    rintro i hi (e | e | e)
    · omega
    · omega
    · have := vb i e; omega
  · refine h.cb.frm f4 ?_
    rintro (e | e | e)
    · exact hcl e
    · exact hc e
    · have := vb _ e; omega
  · have := (h.lb.frm f3 (by
      rintro (e | e)
      · exact hl e
      · have := vb _ e; omega)).set 0 v'
    simpa using this
  · refine h.qb.frm f4 ?_
    rintro (e | e | e)
    · exact hql e
    · exact hq e
    · have := vb _ e; omega
  · rw [List.length_append]
    exact (((hst.frm fz (fun h => h)).frm f2 (fun e => by have := vb _ e; omega)).frm f5 (fun e => hl (Eq.symm e))).congr (seenF_app S x)
  · rw [misS_app, hy]
    exact ho.frm f5 (fun g hg e => by have := (ho.lt g hg).1; have e : g = bl := e; omega)
  · have hd := (h.ds D hD)
    rw [f4.block D (Array.getElem?_eq_some_iff.1 hd.2).1 ?_]
    · exact hd.2
    · rintro (e | e | e)
      · omega
      · omega
      · have := own_cells h.row e.symm hd.2; simp [Obj.isCells] at this
  · rcases hi with e | e | e
    · omega
    · omega
    · exact own_cells h.row e.symm ho
end
/-- The marks of the ranges that ran, taken one by one. -/
theorem leaves_marks {n : Nat} {fn : Func} {tmps : Array Value} {R : Ending → World → Prop} : ∀ (Ds : List Nat) (W : World), Ds.Nodup → (∀ D ∈ Ds, W.heap[D]? = some (.deferred (some []))) →
    (∀ W', Frm (fun i => i ∈ Ds) W W' → LeavesIn Fence.wide n Tryd.prog fn tmps R [] .returning W') →
    LeavesInM Fence.wide n Tryd.prog fn tmps R (Ds.map fun D => { target := .collected D, args := #[] }) .returning W
  | [], W, _, _, h => h W (Frm.refl _ W)
  | D :: Ds, W, hn, hd, h => by
    rw [List.nodup_cons] at hn
    have h0 := hd D (by simp)
    have hf : Frm (fun i => some i = some D) W (W.putObj D (.deferred none)) := Frm.ofGrown (grownBy_putObj' W D _)
    refine ⟨by simp, .inl ⟨_, _, rfl, run_takeDeferred h0, leaves_marks Ds _ hn.2 (fun E hE => ?_) (fun W' f => h W' ?_)⟩⟩
    · have hE0 := hd E (by simp [hE])
      rw [hf.block E (Array.getElem?_eq_some_iff.1 hE0).1 (fun e => hn.1 (by simp at e; rw [← e]; exact hE))]
      exact hE0
    · exact (hf.mono (fun i _ e => by simp at e; simp [e])).trans (f.mono (fun i _ e => by simp [e]))
end Go.Proofs.YtpgcfeplcibhoaaDoor
