/- What stores do to a tail. -/
import Derived.Test.YtdamhohoeobfgaaDoorTailNew
set_option linter.unusedVariables false
set_option linter.unusedSimpArgs false
namespace Go.Proofs.YtdamhohoeobfgaaDoor
open Go.RowKit

theorem filter_len {G : List Grp} {r : Int} (hn : (G.map (·.req)).Nodup) (hr : r ∈ G.map (·.req)) : (G.filter fun g => !(g.req == r)).length + 1 = G.length := by
  induction G with
  | nil => cases hr
  | cons a G ih =>
    rw [List.map_cons, List.nodup_cons] at hn
    rw [List.map_cons, List.mem_cons] at hr
    rw [List.filter_cons]
    by_cases ha : a.req = r
    · have e1 : (!(a.req == r)) = false := by simp [ha]
      have e2 : (G.filter fun g => !(g.req == r)) = G := by
        rw [List.filter_eq_self]
        intro g hg
        have : g.req ≠ r := fun e => hn.1 (by rw [ha, ← e]; exact List.mem_map_of_mem (f := (·.req)) hg)
        simp [this]
      simp only [e1, Bool.false_eq_true, if_false]
      rw [e2]; rfl
    · have e1 : (!(a.req == r)) = true := by simp [ha]
      simp only [e1, if_true, List.length_cons]
      rcases hr with h | h
      · exact absurd h.symm ha
      · rw [ih hn.2 h]
theorem tailF_filter (G : List Grp) (r : Int) (l : Lit) (hl : WideAt.IsKeyLit l) : tailF (G.filter fun g => !(g.req == r)) l = setF (tailF G) (.int .i64 r) none l := by
  by_cases h : l = .int .i64 r
  · subst h
    rw [setF_same (show WideAt.IsKeyLit (.int .i64 _) from trivial)]
    unfold tailF
    simp only
    rw [fndG_filter, if_pos rfl]; rfl
  · rw [setF_other h]
    unfold tailF
    split
    · rename_i q
      have hq : ¬ q = r := fun e => h (by rw [e])
      rw [fndG_filter, if_neg hq]
    · rfl
theorem tailF_app (G : List Grp) (g : Grp) (hr : g.req ∉ G.map (·.req)) (l : Lit) (hl : WideAt.IsKeyLit l) : tailF (G ++ [g]) l = setF (tailF G) (.int .i64 g.req) (some (hptr g)) l := by
  by_cases h : l = .int .i64 g.req
  · subst h
    rw [setF_same (show WideAt.IsKeyLit (.int .i64 _) from trivial)]
    unfold tailF
    simp only
    rw [fndG_app _ _ _ hr, if_pos rfl]; rfl
  · rw [setF_other h]
    unfold tailF
    split
    · rename_i q
      have hq : ¬ q = g.req := fun e => h (by rw [e])
      rw [fndG_app _ _ _ hr, if_neg hq]
    · rfl
theorem tailF_put (G : List Grp) (r : Int) (v : Value) (s : Spn) : tailF (putG G r v s) = tailF G := by
  funext l
  unfold tailF
  split
  · rw [putG_fnd, Option.map_map]
    congr 1
    funext g
    simp only [Function.comp]
    split <;> rfl
  · rfl
section
variable {w w0 w1 w2 w3 : World} {b : Nat} {m p s : Int} {mp : Nat} {G : List Grp} {R : List (Int × Nat)} {rv : Value} {mk k : Nat} {O : Nat → Prop}
/-- All that is held apart from a block of another type. -/
theorem TailM.held_ne (h : TailM w b m p s mp G R rv mk k O) {g : Grp} (hg : g ∈ G) : g.hb ≠ b ∧ g.hb ≠ mp ∧ (∀ i, rv.ownBlock = some i → g.hb ≠ i) ∧ ∀ i, g.v.ownBlock = some i → i ≠ b ∧ i ≠ mp ∧ i ≠ g.hb ∧ ∀ j, rv.ownBlock = some j → i ≠ j := by
  obtain ⟨h1, h2, _⟩ := h.held g hg
  refine ⟨h1.ne h.blk (by decide), fun e => h.map.ne h1 e.symm, fun i hi => ?_, fun i hi => ?_⟩
  · obtain ⟨cs, hc⟩ := h.row.type i hi
    exact h1.ne hc (by decide)
  · obtain ⟨cs, hc⟩ := h2.type i hi
    refine ⟨hc.ne h.blk (by decide), fun e => h.map.ne hc e.symm, hc.ne h1 (by decide), fun j hj => ?_⟩
    obtain ⟨cs', hc'⟩ := h.row.type j hj
    exact hc.ne hc' (by decide)
theorem TailM.row_ne (h : TailM w b m p s mp G R rv mk k O) : mp ≠ b ∧ ∀ i, rv.ownBlock = some i → i ≠ b ∧ i ≠ mp := by
  refine ⟨h.map.ne h.blk, fun i hi => ?_⟩
  obtain ⟨cs, hc⟩ := h.row.type i hi
  exact ⟨hc.ne h.blk (by decide), fun e => h.map.ne hc e.symm⟩
/-- A request is taken out of the map. -/
theorem TailM.dropped (h : TailM w b m p s mp G R rv mk k O) {r : Int} (hr : r ∈ G.map (·.req)) (hm : VMap w2 Tryd.prog 3 mp k (G.length - 1) (setF (tailF G) (.int .i64 r) none)) (f : Frm (oneB mp) w w2) :
    TailM w2 b m p s mp (G.filter fun g => !(g.req == r)) R rv mk k O := by
  have hlen := filter_len h.nd hr
  have hne := h.row_ne
  refine ⟨h.blk.frm f (fun e => hne.1 e.symm), ?_, fun g hg => ?_, h.row.frm f (fun i hi => (hne.2 i hi).2), h.ob, h.om, h.orow, fun g hg => h.oheld g (List.mem_filter.1 hg).1, fun i hi => Nat.lt_of_lt_of_le (h.lt i hi) f.size,
    h.sep.filter _, nodup_filter_req h.nd r, fun g hg => h.mark g (List.mem_filter.1 hg).1, h.rmark, h.rreq, stand_drop h.nd h.stand r, h.len, h.mkk, by have := h.glen; omega⟩
  · rw [show (G.filter fun g => !(g.req == r)).length = G.length - 1 from by omega]
    exact hm.congr (tailF_filter G r)
  · have hg' := (List.mem_filter.1 hg).1
    have h1 := h.held_ne hg'
    exact ⟨(h.held g hg').1.frm f h1.2.1, (h.held g hg').2.1.frm f (fun i hi => (h1.2.2.2 i hi).2.1), (h.held g hg').2.2⟩
/-- Another row is stored. -/
theorem TailM.rowed (h : TailM w0 b m p s mp G R rv mk k O) (f : Frm (fun i => some i = rv.ownBlock) w0 w) {rv' : Value} {R' : List (Int × Nat)} (ha : App plE w 66 rv' R') (ho : ∀ i, rv'.ownBlock = some i → O i)
    (hm : ∀ x ∈ R', x.2 ≤ mk) (hq : ∀ x ∈ R', reqOk x.1) (hs : R'.filter (stB G) = G.map Grp.place) (hl : R'.length ≤ k) : TailM (w.setCell ⟨b, 4, none⟩ rv') b m p s mp G R' rv' mk k O := by
  have hne := h.row_ne
  have f1 : Frm (oneB b) w (w.setCell ⟨b, 4, none⟩ rv') := (Frm.refl _ _).setOne 4 rv'
  have hb := h.blk.frm f (fun e => (hne.2 b e.symm).1 rfl)
  have f2 : Frm (fun i => some i = rv.ownBlock ∨ i = b) w0 (w.setCell ⟨b, 4, none⟩ rv') := (f.mono (fun _ _ h => .inl h)).trans (f1.mono (fun _ _ h => .inr h))
  refine ⟨hb.set 4 rv', h.map.frm f2 ?_, fun g hg => ?_, ha.frm f1 (fun i hi => ?_), h.ob, h.om, ho, h.oheld, fun i hi => Nat.lt_of_lt_of_le (h.lt i hi) f2.size, h.sep, h.nd, h.mark, hm, hq, hs, hl, h.mkk, h.glen⟩
  · rintro (e | e)
    · exact (hne.2 mp e.symm).2 rfl
    · exact hne.1 e
  · have h1 := h.held_ne hg
    refine ⟨(h.held g hg).1.frm f2 ?_, (h.held g hg).2.1.frm f2 (fun i hi => ?_), (h.held g hg).2.2⟩
    · rintro (e | e)
      · exact h1.2.2.1 _ e.symm rfl
      · exact h1.1 e
    · rintro (e | e)
      · exact (h1.2.2.2 i hi).2.2.2 i e.symm rfl
      · exact (h1.2.2.2 i hi).1 e
  · obtain ⟨cs, hc⟩ := ha.type i hi
    exact hc.ne hb (by decide)
/-- One mark more. -/
theorem TailM.marked (h : TailM w b m p s mp G R rv mk k O) : TailM (w.setCell ⟨b, 5, none⟩ (.int .i64 ((mk + 1 : Nat) : Int))) b m p s mp G R rv (mk + 1) (k + 1) O := by
  have hne := h.row_ne
  have f1 : Frm (oneB b) w (w.setCell ⟨b, 5, none⟩ (.int .i64 ((mk + 1 : Nat) : Int))) := (Frm.refl _ _).setOne 5 _
  refine ⟨h.blk.set 5 _, (h.map.frm f1 hne.1).mono (by omega), fun g hg => ?_, h.row.frm f1 (fun i hi => (hne.2 i hi).1), h.ob, h.om, h.orow, h.oheld, fun i hi => Nat.lt_of_lt_of_le (h.lt i hi) f1.size, h.sep, h.nd, fun g hg => by have := h.mark g hg; omega,
    fun x hx => by have := h.rmark x hx; omega, h.rreq, h.stand, by have := h.len; omega, by have := h.mkk; omega, by have := h.glen; omega⟩
  have h1 := h.held_ne hg
  exact ⟨(h.held g hg).1.frm f1 h1.1, (h.held g hg).2.1.frm f1 (fun i hi => (h1.2.2.2 i hi).1), by have := (h.held g hg).2.2.1; omega, (h.held g hg).2.2.2⟩
/-- A span more of a request that is held. -/
theorem TailM.put (h : TailM w0 b m p s mp G R rv mk k O) {g : Grp} (hg : g ∈ G) {x : Spn} {v' : Value} (f : Frm (fun i => some i = g.v.ownBlock) w0 w) (ho : Own spnE w 0 39 v' (g.l ++ [x]))
    (hob : v'.ownBlock = g.v.ownBlock ∨ ∃ q, v'.ownBlock = some q ∧ w0.heap.size ≤ q) :
    ∃ O', TailM (w.setCell ⟨g.hb, 1, none⟩ v') b m p s mp (putG G g.req v' x) R rv mk (k + 1) O' ∧ Frm O w0 (w.setCell ⟨g.hb, 1, none⟩ v') ∧ ∀ i, O' i → O i ∨ w0.heap.size ≤ i := by
  have hne := h.row_ne
  have hgn := h.held_ne hg
  obtain ⟨hgb, hgo⟩ := h.oheld g hg
  have f1 : Frm (oneB g.hb) w (w.setCell ⟨g.hb, 1, none⟩ v') := (Frm.refl _ _).setOne 1 v'
  have f2 : Frm (fun i => some i = g.v.ownBlock ∨ i = g.hb) w0 (w.setCell ⟨g.hb, 1, none⟩ v') := (f.mono (fun _ _ h => .inl h)).trans (f1.mono (fun _ _ h => .inr h))
  have hfO : Frm O w0 (w.setCell ⟨g.hb, 1, none⟩ v') := f2.mono (fun i _ hi => by
    rcases hi with e | rfl
    · exact hgo i e.symm
    · exact hgb)
  have vblk : ∀ i, v'.ownBlock = some i → g.v.ownBlock = some i ∨ w0.heap.size ≤ i := fun i hi => by
    rcases hob with e | ⟨q, e, hq⟩
    · exact .inl (by rw [← e]; exact hi)
    · rw [e] at hi; cases hi; exact .inr hq
  have hreq : ∀ g', g' ∈ G → g'.req = g.req → g' = g := fun g' hg' e => by
    have h1 := fndG_of h.nd hg'
    have h2 := fndG_of h.nd hg
    rw [e] at h1
    rw [h1] at h2
    exact Option.some.inj h2
  refine ⟨fun i => O i ∨ v'.ownBlock = some i, ⟨?_, ?_, ?_, ?_, .inl h.ob, .inl h.om, fun i hi => .inl (h.orow i hi), ?_, ?_, ?_, ?_, ?_, h.rmark, h.rreq, ?_, by have := h.len; omega, by have := h.mkk; omega, ?_⟩, hfO, ?_⟩
  · refine h.blk.frm f2 ?_
    rintro (e | e)
    · exact (hgn.2.2.2 b e.symm).1 rfl
    · exact hgn.1 e.symm
  · rw [show (putG G g.req v' x).length = G.length from by unfold putG; rw [List.length_map], tailF_put]
    refine (h.map.frm f2 ?_).mono (by omega)
    rintro (e | e)
    · exact (hgn.2.2.2 mp e.symm).2.1 rfl
    · exact hgn.2.1 e.symm
  · intro g1 hg1
    unfold putG at hg1
    obtain ⟨g', hg', rfl⟩ := List.mem_map.1 hg1
    by_cases e : g'.req = g.req
    · obtain rfl := hreq g' hg' e
      rw [if_pos rfl]
      have hb := (h.held g' hg').1.frm f (fun e => (hgn.2.2.2 _ e.symm).2.2.1 rfl)
      refine ⟨hb.set 1 v', ho.frm f1 (fun i hi => ?_), ?_, (h.held g' hg').2.2.2⟩
      · obtain ⟨cs, hc⟩ := ho.type i hi
        exact hc.ne hb (by decide)
      · have := (h.held g' hg').2.2.1
        rw [List.length_append]; simp only [List.length_cons, List.length_nil]; omega
    · rw [if_neg e]
      have hgne := h.held_ne hg'
      have hap : g'.hb ≠ g.hb ∧ ∀ i, g'.v.ownBlock = some i → g.v.ownBlock ≠ some i := by
        have hpw := h.sep
        obtain ⟨i1, hi1, e1⟩ := List.mem_iff_getElem.1 hg'
        obtain ⟨i2, hi2, e2⟩ := List.mem_iff_getElem.1 hg
        rw [List.pairwise_iff_getElem] at hpw
        rcases Nat.lt_trichotomy i1 i2 with hlt | heq | hlt
        · have := hpw i1 i2 hi1 hi2 hlt
          rw [e1, e2] at this
          exact this
        · subst heq; rw [e1] at e2; exact absurd (by rw [e2]) e
        · have := hpw i2 i1 hi2 hi1 hlt
          rw [e1, e2] at this
          exact ⟨fun q => this.1 q.symm, fun i h1 h2 => this.2 i h2 h1⟩
      refine ⟨(h.held g' hg').1.frm f2 ?_, (h.held g' hg').2.1.frm f2 (fun i hi => ?_), by have := (h.held g' hg').2.2.1; omega, (h.held g' hg').2.2.2⟩
      · rintro (q | q)
        · obtain ⟨cs, hc⟩ := (h.held g hg).2.1.type _ q.symm
          exact hc.ne (h.held g' hg').1 (by decide) rfl
        · exact hap.1 q
      · rintro (q | q)
        · exact hap.2 i hi q.symm
        · obtain ⟨cs, hc⟩ := (h.held g' hg').2.1.type _ hi
          exact hc.ne (h.held g hg).1 (by decide) q
  · refine h.row.frm f2 (fun i hi => ?_)
    rintro (e | e)
    · exact (hgn.2.2.2 i e.symm).2.2.2 i hi rfl
    · exact hgn.2.2.1 i hi e.symm
  · intro g1 hg1
    unfold putG at hg1
    obtain ⟨g', hg', rfl⟩ := List.mem_map.1 hg1
    by_cases e : g'.req = g.req
    · rw [if_pos e]
      exact ⟨.inl (h.oheld g' hg').1, fun i hi => .inr hi⟩
    · rw [if_neg e]
      exact ⟨.inl (h.oheld g' hg').1, fun i hi => .inl ((h.oheld g' hg').2 i hi)⟩
  · rintro i (hi | hi)
    · exact Nat.lt_of_lt_of_le (h.lt i hi) f2.size
    · exact Nat.lt_of_lt_of_le (ho.lt i hi).2 f1.size
  · have hpw := h.sep
    unfold putG
    rw [List.pairwise_map]
    refine List.Pairwise.imp_of_mem ?_ hpw
    intro a c ha hc hac
    have key : ∀ y ∈ G, y.req ≠ g.req → (∀ i, y.v.ownBlock = some i → g.v.ownBlock ≠ some i) → ∀ i, v'.ownBlock = some i → y.v.ownBlock ≠ some i := fun y hy hyr hyy i h1 h2 => by
      rcases vblk i h1 with h3 | h3
      · exact hyy i h2 h3
      · have := ((h.held y hy).2.1.lt i h2).2; omega
    by_cases ea : a.req = g.req
    · obtain rfl := hreq a ha ea
      by_cases ec : c.req = a.req
      · obtain rfl := hreq c hc ec
        exact absurd rfl hac.1
      · rw [if_pos rfl, if_neg ec]
        exact ⟨hac.1, fun i hi => key c hc ec (fun i h1 h2 => hac.2 i h2 h1) i hi⟩
    · by_cases ec : c.req = g.req
      · obtain rfl := hreq c hc ec
        rw [if_neg ea, if_pos rfl]
        exact ⟨hac.1, fun i hi e => key a ha ea hac.2 i e hi⟩
      · rw [if_neg ea, if_neg ec]; exact hac
  · rw [putG_req]; exact h.nd
  · intro g1 hg1
    unfold putG at hg1
    obtain ⟨g', hg', rfl⟩ := List.mem_map.1 hg1
    split
    · exact h.mark g' hg'
    · exact h.mark g' hg'
  · rw [putG_st, putG_place]; exact h.stand
  · rw [show (putG G g.req v' x).length = G.length from by unfold putG; rw [List.length_map]]; have := h.glen; omega
  · rintro i (hi | hi)
    · exact .inl hi
    · rcases vblk i hi with h1 | h1
      · exact .inl (hgo i h1)
      · exact .inr h1
/-- A request more. -/
theorem TailM.grown (h : TailM w1 b m p s mp G R rv mk k O) {g : Grp} (hr : g.req ∉ G.map (·.req)) (hb : Blk w1 g.hb (heldC g) 69) (hown : Own spnE w1 0 39 g.v g.l) (hbO : ¬ O g.hb) (hvO : ∀ i, g.v.ownBlock = some i → ¬ O i)
    (hl : g.l.length ≤ k + 1) (hq : reqOk g.req) (hmk : g.mark = mk) (hrm : ∀ x ∈ R, x.2 < mk)
    (hmap : VMap w2 Tryd.prog 3 mp (k + 1) (G.length + 1) (setF (tailF G) (.int .i64 g.req) (some (hptr g)))) (f12 : Frm (oneB mp) w1 w2) {rv' : Value}
    (f23 : Frm (fun i => some i = rv.ownBlock) w2 w3) (ha : App plE w3 66 rv' (R ++ [g.place])) (hob : rv'.ownBlock = rv.ownBlock ∨ ∃ q, rv'.ownBlock = some q ∧ w2.heap.size ≤ q) :
    ∃ O', TailM (w3.setCell ⟨b, 4, none⟩ rv') b m p s mp (G ++ [g]) (R ++ [g.place]) rv' mk (k + 1) O' ∧ Frm O w1 (w3.setCell ⟨b, 4, none⟩ rv') ∧ ∀ i, O' i → O i ∨ i = g.hb ∨ g.v.ownBlock = some i ∨ w1.heap.size ≤ i := by
  have hne := h.row_ne
  have z12 := f12.size
  have z23 := f23.size
  have f1 : Frm (oneB b) w3 (w3.setCell ⟨b, 4, none⟩ rv') := (Frm.refl _ _).setOne 4 rv'
  have f2 : Frm (fun i => i = mp ∨ some i = rv.ownBlock ∨ i = b) w1 (w3.setCell ⟨b, 4, none⟩ rv') := ((f12.mono (fun _ _ h => .inl h)).trans (f23.mono (fun _ _ h => .inr (.inl h)))).trans (f1.mono (fun _ _ h => .inr (.inr h)))
  have hbb : Blk w3 b (tailC m p s mp rv mk) 63 := (h.blk.frm f12 (fun e => hne.1 e.symm)).frm f23 (fun e => (hne.2 b e.symm).1 rfl)
  have rblk : ∀ i, rv'.ownBlock = some i → rv.ownBlock = some i ∨ w1.heap.size ≤ i := fun i hi => by
    rcases hob with e | ⟨q, e, hq⟩
    · exact .inl (by rw [← e]; exact hi)
    · rw [e] at hi; cases hi; exact .inr (by omega)
  have inO : ∀ i, (i = mp ∨ some i = rv.ownBlock ∨ i = b) → O i := fun i hi => by
    rcases hi with rfl | e | rfl
    · exact h.om
    · exact h.orow i e.symm
    · exact h.ob
  refine ⟨fun i => O i ∨ i = g.hb ∨ g.v.ownBlock = some i ∨ rv'.ownBlock = some i, ⟨hbb.set 4 rv', ?_, ?_, ha.frm f1 (fun i hi => ?_), .inl h.ob, .inl h.om, fun i hi => .inr (.inr (.inr hi)), ?_, ?_, ?_, ?_, ?_, ?_, ?_, ?_, ?_, by have := h.mkk; omega, ?_⟩, f2.mono (fun i _ hi => inO i hi), ?_⟩
  · rw [List.length_append]
    refine ((hmap.frm f23 (fun e => (hne.2 mp e.symm).2 rfl)).frm f1 hne.1).congr (tailF_app G g hr)
  · intro g' hg'
    rw [List.mem_append, List.mem_singleton] at hg'
    rcases hg' with hg' | rfl
    · have h1 := h.held_ne hg'
      refine ⟨(h.held g' hg').1.frm f2 ?_, (h.held g' hg').2.1.frm f2 (fun i hi => ?_), by have := (h.held g' hg').2.2.1; omega, (h.held g' hg').2.2.2⟩
      · rintro (e | e | e)
        · exact h1.2.1 e
        · exact h1.2.2.1 _ e.symm rfl
        · exact h1.1 e
      · rintro (e | e | e)
        · exact (h1.2.2.2 i hi).2.1 e
        · exact (h1.2.2.2 i hi).2.2.2 i e.symm rfl
        · exact (h1.2.2.2 i hi).1 e
    · exact ⟨hb.frm f2 (fun e => hbO (inO _ e)), hown.frm f2 (fun i hi e => hvO i hi (inO _ e)), hl, hq⟩
  · obtain ⟨cs, hc⟩ := ha.type i hi
    exact hc.ne hbb (by decide)
  · intro g' hg'
    rw [List.mem_append, List.mem_singleton] at hg'
    rcases hg' with hg' | rfl
    · exact ⟨.inl (h.oheld g' hg').1, fun i hi => .inl ((h.oheld g' hg').2 i hi)⟩
    · exact ⟨.inr (.inl rfl), fun i hi => .inr (.inr (.inl hi))⟩
  · rintro i (hi | rfl | hi | hi)
    · exact Nat.lt_of_lt_of_le (h.lt i hi) f2.size
    · exact Nat.lt_of_lt_of_le hb.lt f2.size
    · exact Nat.lt_of_lt_of_le (hown.lt i hi).2 f2.size
    · exact Nat.lt_of_lt_of_le (ha.lt i hi) f1.size
  · rw [List.pairwise_append]
    refine ⟨h.sep, List.pairwise_singleton _ _, fun a ha' c hc => ?_⟩
    rw [List.mem_singleton] at hc
    subst hc
    exact ⟨fun e => hbO (e ▸ (h.oheld a ha').1), fun i h1 h2 => hvO i h2 ((h.oheld a ha').2 i h1)⟩
  · rw [List.map_append, List.nodup_append]
    refine ⟨h.nd, by simp, fun x hx y hy e => ?_⟩
    rw [List.map_cons, List.map_nil, List.mem_singleton] at hy
    exact hr (by rw [← hy, ← e]; exact hx)
  · intro g' hg'
    rw [List.mem_append, List.mem_singleton] at hg'
    rcases hg' with hg' | rfl
    · exact h.mark g' hg'
    · omega
  · intro x hx
    rw [List.mem_append, List.mem_singleton] at hx
    rcases hx with hx | rfl
    · exact h.rmark x hx
    · show g.mark ≤ mk; omega
  · intro x hx
    rw [List.mem_append, List.mem_singleton] at hx
    rcases hx with hx | rfl
    · exact h.rreq x hx
    · exact hq
  · exact stand_more h.nd hr h.stand (fun x hx => by rw [hmk]; exact hrm x hx)
  · rw [List.length_append]; have := h.len; simp only [List.length_cons, List.length_nil]; omega
  · rw [List.length_append]; have := h.glen; simp only [List.length_cons, List.length_nil]; omega
  · rintro i (hi | hi | hi | hi)
    · exact .inl hi
    · exact .inr (.inl hi)
    · exact .inr (.inr (.inl hi))
    · rcases rblk i hi with h1 | h1
      · exact .inl (h.orow i h1)
      · exact .inr (.inr (.inr h1))
end
end Go.Proofs.YtdamhohoeobfgaaDoor
