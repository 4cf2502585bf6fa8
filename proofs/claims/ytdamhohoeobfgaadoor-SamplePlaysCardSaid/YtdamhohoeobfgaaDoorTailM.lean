/- A tail, as it lies in blocks. -/
import Derived.Test.YtdamhohoeobfgaaDoorSweep
import Derived.Test.YtdamhohoeobfgaaDoorTraceRead
set_option linter.unusedVariables false
set_option linter.unusedSimpArgs false
namespace Go.Proofs.YtdamhohoeobfgaaDoor
open Go.RowKit
open Go.Maps (Keyed)

theorem keyI : Keyed Tryd.prog 3 := Maps.int_keyed Tryd.underlying3
theorem zeroH (w : World) : (zeroValue 58).run Tryd.prog w = .ok (.pointer none) w := by kernel_rfl
def hptr (g : Grp) : Value := .pointer (some ⟨g.hb, 0, none⟩)
def tailF (G : List Grp) : Lit → Option Value := fun kl => match kl with
  | .int .i64 r => (fndG G r).map hptr
  | _ => none
def tailC (m p s : Int) (mp : Nat) (rv : Value) (mk : Nat) : Array Value := #[.int .i64 m, .int .i64 p, .int .i64 s, .map (some mp), rv, .int .i64 (mk : Int)]
def heldC (g : Grp) : Array Value := #[.int .i64 (g.mark : Int), g.v]
def reqOk (r : Int) : Prop := (Lit.int .i64 r).wf = true

structure TailM (w : World) (b : Nat) (m p s : Int) (mp : Nat) (G : List Grp) (R : List (Int × Nat)) (rv : Value) (mk k : Nat) (O : Nat → Prop) : Prop where
  blk : Blk w b (tailC m p s mp rv mk) 63
  map : VMap w Tryd.prog 3 mp k G.length (tailF G)
  held : ∀ g ∈ G, Blk w g.hb (heldC g) 69 ∧ Own spnE w 0 39 g.v g.l ∧ g.l.length ≤ k ∧ reqOk g.req
  row : App plE w 66 rv R
  ob : O b
  om : O mp
  orow : ∀ i, rv.ownBlock = some i → O i
  oheld : ∀ g ∈ G, O g.hb ∧ ∀ i, g.v.ownBlock = some i → O i
  lt : ∀ i, O i → i < w.heap.size
  sep : G.Pairwise fun g h => g.hb ≠ h.hb ∧ ∀ i, g.v.ownBlock = some i → h.v.ownBlock ≠ some i
  nd : (G.map (·.req)).Nodup
  mark : ∀ g ∈ G, g.mark ≤ mk
  rmark : ∀ x ∈ R, x.2 ≤ mk
  rreq : ∀ x ∈ R, reqOk x.1
  stand : R.filter (stB G) = G.map Grp.place
  len : R.length ≤ k
  mkk : mk ≤ k
  glen : G.length ≤ k

/-- Blocks that are of unlike types are unlike. -/
theorem Blk.ne {w : World} {b b' : Nat} {cs cs' : Array Value} {T T' : TypeId} (h : Blk w b cs T) (h' : Blk w b' cs' T') (ht : T ≠ T') : b ≠ b' := by
  intro e
  subst e
  unfold Blk at h h'
  rw [h] at h'
  simp at h'
  exact ht h'.2
theorem Own.type {α : Type} {E : Enc α} {w : World} {base : Nat} {T : TypeId} {v : Value} {l : List α} (h : Own E w base T v l) : ∀ i, v.ownBlock = some i → ∃ cs, Blk w i cs T := by
  intro i hi
  rcases h.2 with ⟨h1, _⟩ | ⟨g, cap, cur, h1, h2, h3, _⟩
  · rw [h1] at hi; simp [Value.ownBlock] at hi
  · rw [h1] at hi; simp [Value.ownBlock] at hi; subst hi; exact ⟨cur, h3⟩
theorem App.type {α : Type} {E : Enc α} {w : World} {T : TypeId} {v : Value} {l : List α} (h : App E w T v l) : ∀ i, v.ownBlock = some i → ∃ cs, Blk w i cs T := by
  intro i hi
  rcases h with ⟨rfl, _⟩ | ⟨g, off, cap, cur, rfl, hb, _⟩
  · simp [Value.ownBlock] at hi
  · simp [Value.ownBlock] at hi; subst hi; exact ⟨cur, hb⟩
theorem VMap.ne {P : Program} {w : World} {b b' : Nat} {K : TypeId} {n sz : Nat} {f : Lit → Option Value} {cs : Array Value} {T : TypeId} (h : VMap w P K b n sz f) (h' : Blk w b' cs T) : b ≠ b' := by
  intro e
  subst e
  obtain ⟨D, ⟨es, clock, h1, _⟩, _⟩ := h
  unfold Blk at h'
  rw [h1] at h'
  cases h'
section
variable {w w' : World} {b : Nat} {m p s : Int} {mp : Nat} {G : List Grp} {R : List (Int × Nat)} {rv : Value} {mk k : Nat} {O S : Nat → Prop}
theorem TailM.frm (h : TailM w b m p s mp G R rv mk k O) (f : Frm S w w') (hs : ∀ i, O i → ¬ S i) : TailM w' b m p s mp G R rv mk k O :=
  ⟨h.blk.frm f (hs _ h.ob), h.map.frm f (hs _ h.om), fun g hg => ⟨(h.held g hg).1.frm f (hs _ (h.oheld g hg).1), (h.held g hg).2.1.frm f (fun i hi => hs i ((h.oheld g hg).2 i hi)), (h.held g hg).2.2⟩, h.row.frm f (fun i hi => hs i (h.orow i hi)),
    h.ob, h.om, h.orow, h.oheld, fun i hi => Nat.lt_of_lt_of_le (h.lt i hi) f.size, h.sep, h.nd, h.mark, h.rmark, h.rreq, h.stand, h.len, h.mkk, h.glen⟩
theorem TailM.keep (h : TailM w b m p s mp G R rv mk k O) (f : Frm noB w w') : TailM w' b m p s mp G R rv mk k O := h.frm f (fun _ _ h => h)
theorem TailM.mono (h : TailM w b m p s mp G R rv mk k O) {k' : Nat} (hk : k ≤ k') : TailM w b m p s mp G R rv mk k' O :=
  ⟨h.blk, h.map.mono hk, fun g hg => ⟨(h.held g hg).1, (h.held g hg).2.1, Nat.le_trans (h.held g hg).2.2.1 hk, (h.held g hg).2.2.2⟩, h.row, h.ob, h.om, h.orow, h.oheld, h.lt, h.sep, h.nd, h.mark, h.rmark, h.rreq, h.stand, Nat.le_trans h.len hk, Nat.le_trans h.mkk hk, Nat.le_trans h.glen hk⟩
theorem TailM.more (h : TailM w b m p s mp G R rv mk k O) {O' : Nat → Prop} (ho : ∀ i, O i → O' i) (hl : ∀ i, O' i → i < w.heap.size) : TailM w b m p s mp G R rv mk k O' :=
  ⟨h.blk, h.map, h.held, h.row, ho _ h.ob, ho _ h.om, fun i hi => ho _ (h.orow i hi), fun g hg => ⟨ho _ (h.oheld g hg).1, fun i hi => ho _ ((h.oheld g hg).2 i hi)⟩, hl, h.sep, h.nd, h.mark, h.rmark, h.rreq, h.stand, h.len, h.mkk, h.glen⟩
theorem TailM.look (h : TailM w b m p s mp G R rv mk k O) (r : Int) (hr : reqOk r) :
    (Instr.lookup 60 (.map (some mp)) (.int .i64 r) true).run Tryd.prog w = .ok (.tuple #[((fndG G r).map hptr).getD (.pointer none), .bool (fndG G r).isSome]) w := by
  have := h.map.look_ok keyI Tryd.underlying60 (zeroH w) (Maps.keyOf_int_mk Tryd.underlying3 hr)
  rw [this]
  show Result.ok (Value.tuple #[((fndG G r).map hptr).getD _, .bool ((fndG G r).map hptr).isSome]) w = _
  rw [Option.isSome_map]
theorem TailM.look1 (h : TailM w b m p s mp G R rv mk k O) (r : Int) (hr : reqOk r) :
    (Instr.lookup 60 (.map (some mp)) (.int .i64 r) false).run Tryd.prog w = .ok (((fndG G r).map hptr).getD (.pointer none)) w := by
  have := h.map.look keyI Tryd.underlying60 (zeroH w) (Maps.keyOf_int_mk Tryd.underlying3 hr)
  rw [this]
  rfl
theorem TailM.size (h : TailM w b m p s mp G R rv mk k O) : (Builtin.len_ #[60] 3 #[.map (some mp)]).run Tryd.prog w = .ok (.int .i64 (G.length : Int)) w := h.map.len Tryd.underlying60 _
end
set_option maxHeartbeats 1000000 in
theorem stands_any (b : Nat) (m p s : Int) (mp : Nat) (G : List Grp) (R : List (Int × Nat)) (rv : Value) (mk k : Nat) (O : Nat → Prop) (x : Int × Nat) (w : World) (h : TailM w b m p s mp G R rv mk k O) (hr : reqOk x.1) :
    Calls Tryd.prog 32 #[.pointer (some ⟨b, 0, none⟩), .agg #[.int .i64 x.1, .int .i64 (x.2 : Int)]] w fun e w' => e = .returned (.bool (stB G x)) ∧ Frm noB w w' := by
  obtain ⟨x1, x2⟩ := x
  simp only at hr
  have fr := ((Frm.refl noB w).alloc (.cells #[.int .i64 x1, .int .i64 (x2 : Int)] 66))
  have hlk := fun q => (h.keep (fr.drewN q)).look x1 hr
  have c3 := (h.blk.cell 3).trans (show _ = some (Value.map (some mp)) from rfl)
  have hbl := h.blk.lt
  have hst : stB G (x1, x2) = match fndG G x1 with | none => false | some g => g.mark == x2 := rfl
  cases hf : fndG G x1 with
  | none =>
    rw [hf] at hlk hst
    simp only [Option.map_none, Option.getD_none, Option.isSome_none] at hlk
    have Hh := Lib.hid h
    have Hst := Lib.hid hst
    have Hf := Lib.hid hf
    clear h hst hf
    go_enter Tryd.func32, Tryd.ntmps32
    go_wp2_with fail
    go_quiet (fail)
    go_wp2_with fail
    go_quiet (fail)
    go_wp2_with fail
    go_ret
    exact ⟨by rw [Hst.out]; rfl, (((Frm.refl noB w).alloc _).drewN _).drewN _⟩
  | some g =>
    obtain ⟨hg, hgr⟩ := fndG_mem hf
    rw [hf] at hlk hst
    simp only [Option.map_some, Option.getD_some, Option.isSome_some, hptr] at hlk
    have e0 := ((h.held g hg).1.cell 0).trans (show _ = some (Value.int .i64 (g.mark : Int)) from rfl)
    have hgl := (h.held g hg).1.lt
    obtain ⟨t, ht⟩ : ∃ t, t = (g.mark == x2) := ⟨_, rfl⟩
    have ht2 : ((g.mark : Int) == (x2 : Int)) = t := by
      rw [ht, Bool.eq_iff_iff, beq_iff_eq, beq_iff_eq]; omega
    rw [show (match some g with | none => false | some g => g.mark == x2) = t from ht.symm] at hst
    generalize g.mark = gm at *
    generalize g.hb = gb at *
    have Hh := Lib.hid h
    have Hst := Lib.hid hst
    have Hf := Lib.hid hf
    have Hg := Lib.hid hg
    have Hgr := Lib.hid hgr
    have Ht := Lib.hid ht
    clear h hst hf hg hgr ht
    go_enter Tryd.func32, Tryd.ntmps32
    go_wp2_with fail
    go_quiet (fail)
    go_wp2_with fail
    go_quiet (fail)
    go_wp2_with fail
    go_ret
    exact ⟨by rw [Hst.out]; rfl, (((Frm.refl noB w).alloc _).drewN _).drewN _⟩
end Go.Proofs.YtdamhohoeobfgaaDoor
