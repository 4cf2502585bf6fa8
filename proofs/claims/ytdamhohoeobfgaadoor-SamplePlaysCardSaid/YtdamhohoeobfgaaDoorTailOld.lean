/- The request that came first goes. -/
import Derived.Test.YtdamhohoeobfgaaDoorTailL
set_option linter.unusedVariables false
set_option linter.unusedSimpArgs false
namespace Go.Proofs.YtdamhohoeobfgaaDoor
open Go.RowKit

theorem first_stands {p : Int × Nat → Bool} {R : List (Int × Nat)} (h : R.filter p ≠ []) : ∃ ix x, R[ix]? = some x ∧ p x = true ∧ (∀ (j : Nat) (y : Int × Nat), j < ix → R[j]? = some y → p y = false) ∧ idxL p R = (ix : Int) := by
  cases hf : R.findIdx? p with
  | none =>
    rw [List.findIdx?_eq_none_iff] at hf
    exact absurd (List.filter_eq_nil_iff.2 (fun x hx => by rw [hf x hx]; decide)) h
  | some k =>
    rw [List.findIdx?_eq_some_iff_getElem] at hf
    obtain ⟨hk, hp, hb⟩ := hf
    have hb' : ∀ (j : Nat) (y : Int × Nat), j < k → R[j]? = some y → p y = false := fun j y hj hy => by
      have := hb j hj
      rw [List.getElem?_eq_getElem (by omega)] at hy
      simp at hy
      rw [hy] at this
      simpa using this
    exact ⟨k, R[k], List.getElem?_eq_getElem hk, hp, hb', idxL_hit (List.getElem?_eq_getElem hk) hp hb'⟩
theorem filter_head {g : Grp} {G : List Grp} (hn : ((g :: G).map (·.req)).Nodup) : ((g :: G).filter fun x => !(x.req == g.req)) = G := by
  rw [List.map_cons, List.nodup_cons] at hn
  rw [List.filter_cons]
  simp only [beq_self_eq_true, Bool.not_true, Bool.false_eq_true, if_false]
  rw [List.filter_eq_self]
  intro x hx
  have : x.req ≠ g.req := fun e => hn.1 (by rw [← e]; exact List.mem_map_of_mem (f := (·.req)) hx)
  simp [this]
/-- Unlike groups lie apart. -/
theorem TailM.apart {w : World} {b : Nat} {m p s : Int} {mp : Nat} {G : List Grp} {R : List (Int × Nat)} {rv : Value} {mk k : Nat} {O : Nat → Prop} (h : TailM w b m p s mp G R rv mk k O) {g g' : Grp} (hg : g ∈ G) (hg' : g' ∈ G) (e : g'.req ≠ g.req) :
    g'.hb ≠ g.hb ∧ ∀ i, g'.v.ownBlock = some i → g.v.ownBlock ≠ some i := by
  have hpw := h.sep
  obtain ⟨i1, hi1, e1⟩ := List.mem_iff_getElem.1 hg'
  obtain ⟨i2, hi2, e2⟩ := List.mem_iff_getElem.1 hg
  rw [List.pairwise_iff_getElem] at hpw
  rcases Nat.lt_trichotomy i1 i2 with hlt | heq | hlt
  · have := hpw i1 i2 hi1 hi2 hlt
    rw [e1, e2] at this
    exact this
  · subst heq; rw [e1] at e2; exact absurd (by rw [e2]) e
  · have := hpw i2 i1 hi2 hi1 hlt
    rw [e1, e2] at this
    exact ⟨fun q => this.1 q.symm, fun i h1 h2 => this.2 i h2 h1⟩
/-- The tail without a row of spans that it holds no more. -/
theorem TailM.less {w : World} {b : Nat} {m p s : Int} {mp : Nat} {G : List Grp} {R : List (Int × Nat)} {rv : Value} {mk k : Nat} {O : Nat → Prop} (h : TailM w b m p s mp G R rv mk k O) {v : Value} {l : List Spn} (hv : Own spnE w 0 39 v l)
    (hs : ∀ g ∈ G, ∀ i, g.v.ownBlock = some i → v.ownBlock ≠ some i) : TailM w b m p s mp G R rv mk k (fun i => O i ∧ v.ownBlock ≠ some i) := by
  refine ⟨h.blk, h.map, h.held, h.row, ⟨h.ob, fun e => ?_⟩, ⟨h.om, fun e => ?_⟩, fun i hi => ⟨h.orow i hi, fun e => ?_⟩, fun g hg => ⟨⟨(h.oheld g hg).1, fun e => ?_⟩, fun i hi => ⟨(h.oheld g hg).2 i hi, hs g hg i hi⟩⟩, fun i hi => h.lt i hi.1, h.sep, h.nd, h.mark, h.rmark, h.rreq, h.stand, h.len, h.mkk, h.glen⟩
  · obtain ⟨cs, hc⟩ := hv.type _ e
    exact hc.ne h.blk (by decide) rfl
  · obtain ⟨cs, hc⟩ := hv.type _ e
    exact h.map.ne hc rfl
  · obtain ⟨cs, hc⟩ := hv.type _ e
    obtain ⟨cs', hc'⟩ := h.row.type _ hi
    exact hc.ne hc' (by decide) rfl
  · obtain ⟨cs, hc⟩ := hv.type _ e
    exact hc.ne (h.held g hg).1 (by decide) rfl
set_option maxRecDepth 100000 in
set_option maxHeartbeats 4000000 in
theorem oldest_any (b : Nat) (m p s : Int) (mp : Nat) (g : Grp) (G : List Grp) (R : List (Int × Nat)) (rv : Value) (mk k : Nat) (O : Nat → Prop) (w : World) (h : TailM w b m p s mp (g :: G) R rv mk k O) :
    Calls Tryd.prog 35 #[.pointer (some ⟨b, 0, none⟩)] w fun e w' => e = .returned g.v ∧ (∃ R' rv', TailM w' b m p s mp G R' rv' mk k O) ∧ Frm O w w' ∧ Own spnE w' 0 39 g.v g.l := by
  have hne := h.row_ne
  have hgm : g ∈ g :: G := List.mem_cons_self
  have hgn := h.held_ne hgm
  obtain ⟨ix, x, hx, hxp, hxb, hix⟩ := first_stands (p := stB (g :: G)) (R := R) (by rw [h.stand]; simp)
  obtain ⟨hxg, hbeh⟩ := stand_behind h.nd h.stand hx hxp hxb
  subst hxg
  have hap0 := h.row
  obtain ⟨a, c, hrv, hlc, hcm, hrd, hab⟩ := h.row.shape
  have hixl : ix < R.length := get_lt hx
  obtain ⟨rb, off, ha, hrb⟩ := hab (by omega)
  obtain ⟨rn, hrn⟩ : ∃ n, n = R.length := ⟨_, rfl⟩
  rw [← hrn] at hrv hlc hrd hixl
  subst hrv; subst ha
  have hcm2 : c ≤ 9223372036854775807 := by simpa only [maxLen] using hcm
  obtain ⟨_, _, he, hrb2, c0, c1⟩ := pl_rd hrd hx
  simp only [Option.some.injEq, Addr.mk.injEq, and_true] at he
  obtain ⟨rfl, rfl⟩ := he
  have hcall : ∀ W y, y ∈ R → Frm noB w W → Calls Tryd.prog 32 #[.pointer (some ⟨b, 0, none⟩), .agg #[.int .i64 y.1, .int .i64 (y.2 : Int)]] W fun e w' => e = .returned (.bool (stB (g :: G) y)) ∧ Frm noB W w' :=
    fun W y hy hf => stands_any b m p s mp (g :: G) R _ mk k O y W (h.keep hf) (h.rreq y hy)
  have hidx := idx_st b (stB (g :: G)) (some ⟨rb, off, none⟩) rn c R w hrd hcall
  rw [hix] at hidx
  have b4 := (h.blk.cell 4).trans (show _ = some (Value.slice (some ⟨rb, off, none⟩) rn c) from rfl)
  have bl := h.blk.lt
  have i1 : (0 : Int) ≤ (ix : Int) := by omega
  have i2 : (ix : Int) < (rn : Int) := by omega
  have hreq : reqOk g.req := (h.held g hgm).2.2.2
  have hlast : (g.place).1 = g.req := rfl
  obtain ⟨gr, hgr⟩ : ∃ q, q = g.req := ⟨_, rfl⟩
  obtain ⟨gb, hgb⟩ : ∃ q, q = g.hb := ⟨_, rfl⟩
  obtain ⟨gv, hgv⟩ : ∃ q, q = g.v := ⟨_, rfl⟩
  rw [hlast, ← hgr] at c0
  rw [← hgv]
  clear c1
  have Hh := Lib.hid h
  have Hne := Lib.hid hne
  have Hgn := Lib.hid hgn
  have Hx := Lib.hid hx
  have Hxp := Lib.hid hxp
  have Hxb := Lib.hid hxb
  have Hix := Lib.hid hix
  have Hbeh := Lib.hid hbeh
  have Hap0 := Lib.hid hap0
  have Hcm := Lib.hid hcm
  have Hrd := Lib.hid hrd
  have Hrn := Lib.hid hrn
  have Hcall := Lib.hid hcall
  have Hidx := Lib.hid hidx
  have Hreq := Lib.hid hreq
  have Hgr := Lib.hid hgr
  have Hgb := Lib.hid hgb
  have Hgv := Lib.hid hgv
  have Hgm := Lib.hid hgm
  have Hrb := Lib.hid hrb
  have Hab := Lib.hid hab
  clear h hne hgn hx hxp hxb hix hbeh hap0 hcm hrd hrn hcall hidx hreq hgr hgb hgv hgm hrb hab
  go_enter Tryd.func35, Tryd.ntmps35
  go_wp2_with fail
  refine Hidx.out.mono ?_
  rintro e w1 ⟨rfl, hg1⟩
  have hM1 := Hh.out.keep hg1
  have d4 := (hM1.blk.cell 4).trans (show _ = some (Value.slice (some ⟨rb, off, none⟩) rn c) from rfl)
  have d3 := (hM1.blk.cell 3).trans (show _ = some (Value.map (some mp)) from rfl)
  have dl := hM1.blk.lt
  have e0 := cell_frm hg1 (fun h => h) c0
  have hfg : fndG (g :: G) gr = some g := by rw [Hgr.out]; exact fndG_of hM1.nd Hgm.out
  have hlk := hM1.look1 gr (by rw [Hgr.out]; exact Hreq.out)
  rw [hfg] at hlk
  simp only [Option.map_some, Option.getD_some, hptr] at hlk
  rw [← Hgb.out] at hlk
  have g1 := ((hM1.held g Hgm.out).1.cell 1).trans (show _ = some g.v from rfl)
  rw [← Hgb.out, ← Hgv.out] at g1
  have gl := (hM1.held g Hgm.out).1.lt
  rw [← Hgb.out] at gl
  obtain ⟨w2, hdel, hv2, hf2⟩ := hM1.map.drop (t := 60) keyI Tryd.underlying60 (key := .int .i64 gr) (Maps.keyOf_int_mk Tryd.underlying3 (by rw [Hgr.out]; exact Hreq.out)) 0
  have hsome : (tailF (g :: G) (.int .i64 gr)).isSome = true := by
    show ((fndG (g :: G) gr).map hptr).isSome = true
    rw [hfg]; rfl
  rw [hsome] at hv2
  have hM2 := hM1.dropped (r := g.req) (by simp) (by rw [← Hgr.out]; exact hv2) hf2
  rw [filter_head hM1.nd] at hM2
  have f4 := (hM2.blk.cell 4).trans (show _ = some (Value.slice (some ⟨rb, off, none⟩) rn c) from rfl)
  have ff := hM2.blk.free 4
  have fl := hM2.blk.lt
  have HF2 := Lib.hid ((hg1.mono (fun _ _ h => h.elim)).trans (hf2.mono (fun i _ hi => by rw [show i = mp from hi]; exact Hh.out.om)) : Frm O w w2)
  have HO2 := Lib.hid ((Hh.out.held g Hgm.out).2.1.frm ((hg1.mono (fun _ _ h => h.elim)).trans hf2) (fun i hi => (Hgn.out.2.2.2 i hi).2.1))
  have i3 : (0 : Int) ≤ (ix : Int) + 1 := by omega
  have i4 : (ix : Int) + 1 ≤ (rn : Int) := by omega
  have i5 : (rn : Int) ≤ (c : Int) := by omega
  have hdrop := fun (hq : ix + 1 ≤ rn) => hM2.row.drop (ix + 1) hq
  have Hg1 := Lib.hid hg1
  have HM1 := Lib.hid hM1
  have Hfg := Lib.hid hfg
  have Hv2 := Lib.hid hv2
  have Hf2 := Lib.hid hf2
  have Hsome := Lib.hid hsome
  have HM2 := Lib.hid hM2
  have Hdrop := Lib.hid hdrop
  clear hg1 hM1 hfg hv2 hf2 hsome hM2 hdrop
  go_wp2_with fail
  case inl =>
    have hc := h
    go_ret
    have ha : App plE w2 66 (.slice (some ⟨rb, off, none⟩) (rn - (ix + 1)) 0) (R.drop (ix + 1)) := by
      have := Hdrop.out (by omega)
      rw [if_pos hc] at this
      rw [show c - (ix + 1) = 0 from by omega] at this
      exact this
    refine ⟨rfl, ⟨R.drop (ix + 1), _, HM2.out.rowed (Frm.refl _ _) ha ?_ ?_ ?_ Hbeh.out ?_⟩, HF2.out.setCell (p := ⟨b, 4, none⟩) Hh.out.ob _, ?_⟩
    · intro i hi
      simp only [Value.ownBlock, Option.some.injEq] at hi
      subst hi
      exact Hh.out.orow _ rfl
    · exact fun x hx => Hh.out.rmark x (List.mem_of_mem_drop hx)
    · exact fun x hx => Hh.out.rreq x (List.mem_of_mem_drop hx)
    · have := Hh.out.len
      rw [List.length_drop]; omega
    · rw [Hgv.out]
      exact HO2.out.frm ((Frm.refl (oneB b) w2).setOne 4 _) (fun i hi => (Hgn.out.2.2.2 i hi).1)
  case inr =>
    have hc := h
    go_ret
    have ha : App plE w2 66 (.slice (some ⟨rb, off + (ix + 1) * 2, none⟩) (rn - (ix + 1)) (c - (ix + 1))) (R.drop (ix + 1)) := by
      have := Hdrop.out (by omega)
      rw [if_neg hc] at this
      exact this
    refine ⟨rfl, ⟨R.drop (ix + 1), _, HM2.out.rowed (Frm.refl _ _) ha ?_ ?_ ?_ Hbeh.out ?_⟩, HF2.out.setCell (p := ⟨b, 4, none⟩) Hh.out.ob _, ?_⟩
    · intro i hi
      simp only [Value.ownBlock, Option.some.injEq] at hi
      subst hi
      exact Hh.out.orow _ rfl
    · exact fun x hx => Hh.out.rmark x (List.mem_of_mem_drop hx)
    · exact fun x hx => Hh.out.rreq x (List.mem_of_mem_drop hx)
    · have := Hh.out.len
      rw [List.length_drop]; omega
    · rw [Hgv.out]
      exact HO2.out.frm ((Frm.refl (oneB b) w2).setOne 4 _) (fun i hi => (Hgn.out.2.2.2 i hi).1)
end Go.Proofs.YtdamhohoeobfgaaDoor
