/- Over: a request that is over. -/
import Derived.Test.YtdamhohoeobfgaaDoorTailAddA
import Derived.Test.YtdamhohoeobfgaaDoorSampleHead
set_option linter.unusedVariables false
set_option linter.unusedSimpArgs false
namespace Go.Proofs.YtdamhohoeobfgaaDoor
open Go.RowKit

/-- What tells whether a place stands: all of a tail but its row. -/
structure TailS (w : World) (b : Nat) (m p s : Int) (mp : Nat) (G : List Grp) (rv : Value) (mk k : Nat) : Prop where
  blk : Blk w b (tailC m p s mp rv mk) 63
  map : VMap w Tryd.prog 3 mp k G.length (tailF G)
  held : ∀ g ∈ G, Blk w g.hb (heldC g) 69
theorem TailM.S {w : World} {b : Nat} {m p s : Int} {mp : Nat} {G : List Grp} {R : List (Int × Nat)} {rv : Value} {mk k : Nat} {O : Nat → Prop} (h : TailM w b m p s mp G R rv mk k O) : TailS w b m p s mp G rv mk k :=
  ⟨h.blk, h.map, fun g hg => (h.held g hg).1⟩
section
variable {w w' : World} {b : Nat} {m p s : Int} {mp : Nat} {G : List Grp} {R : List (Int × Nat)} {rv : Value} {mk k : Nat} {O S : Nat → Prop}
theorem TailS.frm (h : TailS w b m p s mp G rv mk k) (f : Frm S w w') (h1 : ¬ S b) (h2 : ¬ S mp) (h3 : ∀ g ∈ G, ¬ S g.hb) : TailS w' b m p s mp G rv mk k :=
  ⟨h.blk.frm f h1, h.map.frm f h2, fun g hg => (h.held g hg).frm f (h3 g hg)⟩
theorem TailS.keep (h : TailS w b m p s mp G rv mk k) (f : Frm noB w w') : TailS w' b m p s mp G rv mk k := h.frm f (fun h => h) (fun h => h) (fun _ _ h => h)
theorem TailS.look (h : TailS w b m p s mp G rv mk k) (r : Int) (hr : reqOk r) :
    (Instr.lookup 60 (.map (some mp)) (.int .i64 r) true).run Tryd.prog w = .ok (.tuple #[((fndG G r).map hptr).getD (.pointer none), .bool (fndG G r).isSome]) w := by
  have := h.map.look_ok keyI Tryd.underlying60 (zeroH w) (Maps.keyOf_int_mk Tryd.underlying3 hr)
  rw [this]
  show Result.ok (Value.tuple #[((fndG G r).map hptr).getD _, .bool ((fndG G r).map hptr).isSome]) w = _
  rw [Option.isSome_map]
end
set_option maxHeartbeats 1000000 in
theorem stands_s (b : Nat) (m p s : Int) (mp : Nat) (G : List Grp) (rv : Value) (mk k : Nat) (x : Int × Nat) (w : World) (h : TailS w b m p s mp G rv mk k) (hr : reqOk x.1) :
    Calls Tryd.prog 32 #[.pointer (some ⟨b, 0, none⟩), .agg #[.int .i64 x.1, .int .i64 (x.2 : Int)]] w fun e w' => e = .returned (.bool (stB G x)) ∧ Frm noB w w' := by
  obtain ⟨x1, x2⟩ := x
  simp only at hr
  have fr := ((Frm.refl noB w).alloc (.cells #[.int .i64 x1, .int .i64 (x2 : Int)] 66))
  have hlk := fun q => (h.keep (fr.drewN q)).look x1 hr
  have c3 := (h.blk.cell 3).trans (show _ = some (Value.map (some mp)) from rfl)
  have hbl := h.blk.lt
  have hst : stB G (x1, x2) = match fndG G x1 with | none => false | some g => g.mark == x2 := rfl
  cases hf : fndG G x1 with
  | none =>
    rw [hf] at hlk hst
    simp only [Option.map_none, Option.getD_none, Option.isSome_none] at hlk
    have Hh := Lib.hid h
    have Hst := Lib.hid hst
    have Hf := Lib.hid hf
    clear h hst hf
    go_enter Tryd.func32, Tryd.ntmps32
    go_wp2_with fail
    go_quiet (fail)
    go_wp2_with fail
    go_quiet (fail)
    go_wp2_with fail
    go_ret
    exact ⟨by rw [Hst.out]; rfl, (((Frm.refl noB w).alloc _).drewN _).drewN _⟩
  | some g =>
    obtain ⟨hg, hgr⟩ := fndG_mem hf
    rw [hf] at hlk hst
    simp only [Option.map_some, Option.getD_some, Option.isSome_some, hptr] at hlk
    have e0 := ((h.held g hg).cell 0).trans (show _ = some (Value.int .i64 (g.mark : Int)) from rfl)
    have hgl := (h.held g hg).lt
    obtain ⟨t, ht⟩ : ∃ t, t = (g.mark == x2) := ⟨_, rfl⟩
    have ht2 : ((g.mark : Int) == (x2 : Int)) = t := by
      rw [ht, Bool.eq_iff_iff, beq_iff_eq, beq_iff_eq]; omega
    rw [show (match some g with | none => false | some g => g.mark == x2) = t from ht.symm] at hst
    generalize g.mark = gm at *
    generalize g.hb = gb at *
    have Hh := Lib.hid h
    have Hst := Lib.hid hst
    have Hf := Lib.hid hf
    have Hg := Lib.hid hg
    have Hgr := Lib.hid hgr
    have Ht := Lib.hid ht
    clear h hst hf hg hgr ht
    go_enter Tryd.func32, Tryd.ntmps32
    go_wp2_with fail
    go_quiet (fail)
    go_wp2_with fail
    go_quiet (fail)
    go_wp2_with fail
    go_ret
    exact ⟨by rw [Hst.out]; rfl, (((Frm.refl noB w).alloc _).drewN _).drewN _⟩
set_option maxHeartbeats 1000000 in
theorem clos_any (cb b : Nat) (m p s : Int) (mp : Nat) (G : List Grp) (rv : Value) (mk k : Nat) (x : Int × Nat) (w : World) (h : TailS w b m p s mp G rv mk k) (hc : w.cell? ⟨cb, 0, none⟩ = some (.pointer (some ⟨b, 0, none⟩))) (hr : reqOk x.1) :
    Calls Tryd.prog 31 #[.agg #[.int .i64 x.1, .int .i64 (x.2 : Int)], .pointer (some ⟨cb, 0, none⟩)] w fun e w' => e = .returned (.bool (!stB G x)) ∧ Frm noB w w' := by
  have fr := ((Frm.refl noB w).alloc (.cells #[.int .i64 x.1, .int .i64 (x.2 : Int)] 66))
  have hst := stands_s b m p s mp G rv mk k x _ (h.keep fr) hr
  have hcl : cb < w.heap.size := World.block_lt_of_cell? w ⟨cb, 0, none⟩ hc
  obtain ⟨x1, x2⟩ := x
  generalize stB G (x1, x2) = B at *
  have Fr := Lib.hid fr
  clear fr
  have Hh := Lib.hid h
  have Hst := Lib.hid hst
  have Hr := Lib.hid hr
  clear h hst hr
  go_enter Tryd.func31, Tryd.ntmps31
  go_wp2_with fail
  refine (Hst.out).mono ?_
  rintro e w1 ⟨rfl, hf⟩
  have Hf := Lib.hid hf
  clear hf
  go_wp2_with fail
  go_ret
  exact ⟨rfl, Fr.out.trans Hf.out⟩

def keptV (b : Bool) (v : Value) : Value := if b = true then v else .slice none 0 0
def keepB (well : Bool) (took s r p : Int) : Bool := !(well && decide (took < s) && !headB r p)
structure OverMid (w wx : World) (b : Nat) (m p s : Int) (mp : Nat) (G : List Grp) (mk k : Nat) (O : Nat → Prop) (g : Grp) : Prop where
  tail : ∃ R rv, TailM wx b m p s mp G R rv mk k O
  held : Blk wx g.hb (heldC g) 69
  own : Own spnE wx 0 39 g.v g.l
  box : wx.cell? ⟨w.heap.size, 0, none⟩ = some (.pointer (some ⟨b, 0, none⟩))
  frm : Frm O w wx
set_option maxRecDepth 100000 in
set_option maxHeartbeats 4000000 in
theorem tover_held (b : Nat) (m p s : Int) (mp : Nat) (G : List Grp) (R : List (Int × Nat)) (rv : Value) (mk k : Nat) (O : Nat → Prop) (r took : Int) (well : Bool) (g : Grp) (w : World) (h : TailM w b m p s mp G R rv mk k O)
    (hg : fndG G r = some g) (hk : k ≤ 100000) (hr : reqOk r)
    (hhead : ∀ w, Calls Tryd.prog 11 #[.int .i64 r, .int .i64 p] w fun e w' => e = .returned (.bool (headB r p)) ∧ Frm noB w w') :
    Calls Tryd.prog 17 #[.pointer (some ⟨b, 0, none⟩), .int .i64 r, .bool well, .int .i64 took] w fun e w' => e = .returned (keptV (keepB well took s r p) g.v) ∧
      (∃ R' rv', TailM w' b m p s mp (G.filter fun g => !(g.req == r)) R' rv' mk k O) ∧ Own spnE w' 0 39 g.v g.l ∧ Frm O w w' := by
  obtain ⟨hgG, hgr⟩ := fndG_mem hg
  have hgn := h.held_ne hgG
  have hf0 : Frm noB w (w.alloc (.cells #[.pointer (some ⟨b, 0, none⟩)] 26)) := (Frm.refl noB w).alloc _
  have hM0 := h.keep hf0
  have hbx := Blk.made w #[Value.pointer (some ⟨b, 0, none⟩)] 26
  have hlk := hM0.look r hr
  rw [hg] at hlk
  simp only [Option.map_some, Option.getD_some, Option.isSome_some, hptr] at hlk
  have b3 := (h.blk.cell 3).trans (show _ = some (Value.map (some mp)) from rfl)
  have bl := h.blk.lt
  obtain ⟨w2, hdel, hv2, hf2⟩ := hM0.map.drop (t := 60) keyI Tryd.underlying60 (key := .int .i64 r) (Maps.keyOf_int_mk Tryd.underlying3 hr) 0
  have hsome : (tailF G (.int .i64 r)).isSome = true := by
    show ((fndG G r).map hptr).isSome = true
    rw [hg]; rfl
  rw [hsome] at hv2
  have hrG : r ∈ G.map (·.req) := by rw [← hgr]; exact List.mem_map_of_mem (f := (·.req)) hgG
  have hM2 := hM0.dropped hrG (by simpa using hv2) hf2
  have hx2 := (hbx.frm hf2 (fun e => by have := h.lt _ h.om; have e2 : w.heap.size = mp := e; omega)).cell 0
  have hh2 := ((h.held g hgG).1.frm hf0 (fun h => h)).frm hf2 hgn.2.1
  have ho2 := ((h.held g hgG).2.1.keep hf0).frm hf2 (fun i hi => (hgn.2.2.2 i hi).2.1)
  have hF2 : Frm O w w2 := (hf0.mono (fun _ _ h => h.elim)).trans (hf2.mono (fun i _ hi => by rw [show i = mp from hi]; exact h.om))
  have x0 : w2.cell? ⟨w.heap.size, 0, none⟩ = some (.pointer (some ⟨b, 0, none⟩)) := hx2
  have d3 := (hM2.blk.cell 3).trans (show _ = some (Value.map (some mp)) from rfl)
  have dl := hM2.blk.lt
  obtain ⟨a, c, hrv, hlc, hcm, hrd, hab⟩ := hM2.row.shape
  obtain ⟨rn, hrn⟩ : ∃ n, n = R.length := ⟨_, rfl⟩
  rw [← hrn] at hrv hlc hrd
  subst hrv
  have d4 := (hM2.blk.cell 4).trans (show _ = some (Value.slice a rn c) from rfl)
  obtain ⟨n1, hn1⟩ : ∃ n, n = (G.filter fun g => !(g.req == r)).length := ⟨_, rfl⟩
  have hsz := fun q => (hM2.keep ((Frm.refl noB w2).drewN q)).size
  rw [← hn1] at hsz
  have hn5 : n1 ≤ 100000 := by have := hM2.glen; omega
  have hr5 : rn ≤ 100000 := by have := hM2.len; omega
  obtain ⟨gb, hgb⟩ : ∃ q, q = g.hb := ⟨_, rfl⟩
  rw [← hgb] at hlk
  have Hh := Lib.hid h
  have Hg := Lib.hid hg
  have HgG := Lib.hid hgG
  have Hgr := Lib.hid hgr
  have Hgn := Lib.hid hgn
  have Hf0 := Lib.hid hf0
  have HM0 := Lib.hid hM0
  have Hbx := Lib.hid hbx
  have Hv2 := Lib.hid hv2
  have Hf2 := Lib.hid hf2
  have Hsome := Lib.hid hsome
  have HrG := Lib.hid hrG
  have HM2 := Lib.hid hM2
  have Hx2 := Lib.hid hx2
  have Hh2 := Lib.hid hh2
  have Ho2 := Lib.hid ho2
  have HF2 := Lib.hid hF2
  have Hrd := Lib.hid hrd
  have Hrn := Lib.hid hrn
  have Hn1 := Lib.hid hn1
  have Hgb := Lib.hid hgb
  have Hhead := Lib.hid hhead
  have Hab := Lib.hid hab
  have Hlc := Lib.hid hlc
  have Hcm := Lib.hid hcm
  clear h hg hgG hgr hgn hf0 hM0 hbx hv2 hf2 hsome hrG hM2 hx2 hh2 ho2 hF2 hrd hrn hn1 hgb hhead hab hlc hcm
  go_enter Tryd.func17, Tryd.ntmps17
  go_upto_region 5 with fail
  go_cut [39] (fun s39 wx => s39 = .bool (decide (2 * (n1 : Int) + 16 < (rn : Int))) ∧ Frm noB w2 wx)
  case first =>
    go_quiet (fail)
    go_wp2_with fail
    go_meet
    exact ⟨rfl, (Frm.refl noB _).drewN _⟩
  case rest =>
    obtain ⟨rfl, hfx⟩ := hcut
    clear hsz hdel hlk b3 bl x0 d3 d4 dl
    have hMc := HM2.out.keep hfx
    have hmid : OverMid w wc b m p s mp (G.filter fun g => !(g.req == r)) mk k O g :=
      ⟨⟨R, _, hMc⟩, Hh2.out.frm hfx (fun h => h), Ho2.out.keep hfx, cell_frm hfx (fun h => h) (Hx2.out.trans rfl), HF2.out.trans (hfx.mono (fun _ _ h => h.elim))⟩
    have c0 := hmid.box
    have c4 := (hMc.blk.cell 4).trans (show _ = some (Value.slice a rn c) from rfl)
    have cf := hMc.blk.free 4
    have cl := hMc.blk.lt
    have HMc := Lib.hid hMc
    have Hmid := Lib.hid hmid
    have Hfx := Lib.hid hfx
    clear hMc hmid hfx
    go_upto_if 39 with fail
    go_cut [8] (fun s8 wx => s8 = .slice none 0 0 ∧ OverMid w wx b m p s mp (G.filter fun g => !(g.req == r)) mk k O g)
    case first =>
      by_cases hc : 2 * (n1 : Int) + 16 < (rn : Int)
      · rcases HMc.out.row with ⟨h1, h2⟩ | ⟨rb, off, cap, cur, h1, hb, hfit, hlc2, hcm2, hcl⟩
        · rw [h2] at Hrn
          have := Hrn.out
          simp at this
          omega
        · rw [← Hrn.out] at h1 hlc2
          simp only [Value.slice.injEq] at h1
          obtain ⟨rfl, -, rfl⟩ := h1
          have hTS := HMc.out.S
          have hne := HMc.out.row_ne
          have hbox : rb ≠ w.heap.size := fun e => by have := Hh.out.lt rb (Hh.out.orow rb rfl); omega
          have hsw := sweep_any w.heap.size rb off rn c (fun x => !stB (G.filter fun g => !(g.req == r)) x) R cur wc.drew hb hcl Hrn.out.symm hlc2 hcm2 hfit
            (fun W x hx hf => clos_any w.heap.size b m p s mp _ _ mk k x W
              (hTS.frm (((Frm.refl (oneB rb) wc).drew).trans hf) (fun e => (hne.2 rb rfl).1 e.symm) (fun e => (hne.2 rb rfl).2 e.symm) (fun g' hg' e => (HMc.out.held_ne hg').2.2.1 rb rfl e))
              (cell_frm (((Frm.refl (oneB rb) wc).drew).trans hf) (fun e => hbox e.symm) c0) (Hh.out.rreq x hx))
          have Hb := Lib.hid hb
          have Hcl := Lib.hid hcl
          have Hfit := Lib.hid hfit
          have Hlc2 := Lib.hid hlc2
          have Hcm2 := Lib.hid hcm2
          have HTS := Lib.hid hTS
          have Hne := Lib.hid hne
          have Hbox := Lib.hid hbox
          have Hsw := Lib.hid hsw
          clear hb hcl hfit hlc2 hcm2 hTS hne hbox hsw
          go_upto_region 6 with fail
          go_region_with
            (first
              | (go_at_call 30; refine Hsw.out.mono ?_; rintro e w3 ⟨v, rfl, hap3, hob3, hf3⟩; replace hf3 := ((Frm.refl (oneB rb) wc).drew).trans hf3; have y0 := cell_frm hf3 (fun e => Hbox.out e.symm) c0; have hb3 := HMc.out.blk.frm hf3 (fun e => (Hne.out.2 rb rfl).1 e.symm); have y4 := (hb3.cell 4).trans (show _ = some (Value.slice (some ⟨rb, off, none⟩) rn c) from rfl); have yf := hb3.free 4; have yl := hb3.lt; obtain ⟨va, vc, hv', _⟩ := hap3.shape; obtain ⟨vn, hvn⟩ : ∃ n, n = (R.filter fun x => !(!stB (G.filter fun g => !(g.req == r)) x)).length := ⟨_, rfl⟩; rw [← hvn] at hv'; subst hv'; clear hvn))
          all_goals
            go_wp2_with fail
            go_meet
            rw [show (fun x => !(!stB (G.filter fun g => !(g.req == r)) x)) = stB (G.filter fun g => !(g.req == r)) from funext fun x => by simp] at hap3
            have hT := HMc.out.rowed (hf3.mono (fun i _ hi => by rw [show i = rb from hi]; rfl)) hap3 (fun i hi => by rw [hob3] at hi; cases hi; exact Hh.out.orow rb rfl) (fun x hx => Hh.out.rmark x (List.mem_filter.1 hx).1) (fun x hx => Hh.out.rreq x (List.mem_filter.1 hx).1)
              (stand_swept HMc.out.stand) (Nat.le_trans (List.length_filter_le _ _) HMc.out.len)
            have hf4 : Frm (fun i => i = rb ∨ i = b) wc (w3.setCell ⟨b, 4, none⟩ (.slice va vn vc)) := (hf3.mono (fun _ _ h => .inl h)).trans (((Frm.refl (oneB b) w3).setOne 4 _).mono (fun _ _ h => .inr h))
            have hgn := Hgn.out
            refine ⟨rfl, ⟨_, _, hT⟩, Hmid.out.held.frm hf4 ?_, Hmid.out.own.frm hf4 ?_, cell_frm hf4 ?_ Hmid.out.box, Hmid.out.frm.trans (hf4.mono ?_)⟩
            · rintro (e | e)
              · exact hgn.2.2.1 rb rfl e
              · exact hgn.1 e
            · rintro i hi (e | e)
              · exact (hgn.2.2.2 i hi).2.2.2 rb rfl e
              · exact (hgn.2.2.2 i hi).1 e
            · rintro (e | e)
              · exact Hbox.out e.symm
              · have := Hh.out.lt b Hh.out.ob; omega
            · rintro i _ (rfl | rfl)
              · exact Hh.out.orow _ rfl
              · exact Hh.out.ob
      · go_wp2_with fail
        go_meet
        exact ⟨rfl, Hmid.out⟩
    case rest =>
      obtain ⟨rfl, hmid⟩ := hcut
      clear c0 c4 cf cl
      obtain ⟨R3, rv3, hM3⟩ := hmid.tail
      have e0 := hmid.box
      have e2 := (hM3.blk.cell 2).trans (show _ = some (Value.int .i64 s) from rfl)
      have e1 := (hM3.blk.cell 1).trans (show _ = some (Value.int .i64 p) from rfl)
      have el := hM3.blk.lt
      have g1 := (hmid.held.cell 1).trans (show _ = some g.v from rfl)
      have gl := hmid.held.lt
      rw [← Hgb.out] at g1 gl
      have hend : ∀ w', Frm noB wc w' → (∃ R' rv', TailM w' b m p s mp (G.filter fun g => !(g.req == r)) R' rv' mk k O) ∧ Own spnE w' 0 39 g.v g.l ∧ Frm O w w' := fun w' hf =>
        ⟨⟨R3, rv3, hM3.keep hf⟩, hmid.own.keep hf, hmid.frm.trans (hf.mono (fun _ _ h => h.elim))⟩
      have hkb : keepB well took s r p = !(well && decide (took < s) && !headB r p) := rfl
      obtain ⟨hb, hhb⟩ : ∃ x, x = headB r p := ⟨_, rfl⟩
      rw [← hhb] at hkb
      have hh2 := Hhead.out
      rw [← hhb] at hh2
      have hk0 : (!(well && decide (took < s) && !hb)) = false → .slice none 0 0 = keptV (keepB well took s r p) g.v := fun h => by rw [hkb, h]; rfl
      obtain ⟨gv, hgv⟩ : ∃ q, q = g.v := ⟨_, rfl⟩
      rw [← hgv] at g1
      have hk1 : (!(well && decide (took < s) && !hb)) = true → gv = keptV (keepB well took s r p) g.v := fun h => by rw [hkb, h, hgv]; rfl
      have Hmid := Lib.hid hmid
      have HM3 := Lib.hid hM3
      have Hend := Lib.hid hend
      have Hkb := Lib.hid hkb
      have Hhb := Lib.hid hhb
      have Hh2 := Lib.hid hh2
      have Hk1 := Lib.hid hk1
      have Hk0 := Lib.hid hk0
      have Hgv := Lib.hid hgv
      clear hmid hM3 hend hkb hhb hh2 hk1 hk0 hgv
      cases well with
      | false =>
        go_wp2_with fail
        go_ret
        exact ⟨by rw [← Hk1.out (by simp)]; rfl, Hend.out _ (Frm.refl _ _)⟩
      | true =>
        by_cases ht : took < s
        · go_wp2_with fail
          refine (Hh2.out _).mono ?_
          rintro e w4 ⟨rfl, hf⟩
          have g2 := cell_frm hf (fun h => h) g1
          have gl2 := Nat.lt_of_lt_of_le gl hf.size
          clear g1 gl e0 e1 e2 el
          have Hf := Lib.hid hf
          clear hf
          cases hb with
          | false =>
            go_wp2_with fail
            go_ret
            exact ⟨by rw [← Hk0.out (by simp [ht])]; rfl, Hend.out _ Hf.out⟩
          | true =>
            go_wp2_with fail
            go_ret
            exact ⟨by rw [← Hk1.out (by simp)]; rfl, Hend.out _ Hf.out⟩
        · go_wp2_with fail
          go_ret
          exact ⟨by rw [← Hk1.out (by simp [ht])]; rfl, Hend.out _ (Frm.refl _ _)⟩

theorem tover_none (b : Nat) (m p s : Int) (mp : Nat) (G : List Grp) (R : List (Int × Nat)) (rv : Value) (mk k : Nat) (O : Nat → Prop) (r took : Int) (well : Bool) (w : World) (h : TailM w b m p s mp G R rv mk k O) (hg : fndG G r = none) (hr : reqOk r) :
    Calls Tryd.prog 17 #[.pointer (some ⟨b, 0, none⟩), .int .i64 r, .bool well, .int .i64 took] w fun e w' => e = .returned (.slice none 0 0) ∧ Frm noB w w' := by
  have hf0 : Frm noB w (w.alloc (.cells #[.pointer (some ⟨b, 0, none⟩)] 26)) := (Frm.refl noB w).alloc _
  have hM0 := h.keep hf0
  have hlk := hM0.look r hr
  rw [hg] at hlk
  simp only [Option.map_none, Option.getD_none, Option.isSome_none] at hlk
  have b3 := (h.blk.cell 3).trans (show _ = some (Value.map (some mp)) from rfl)
  have bl := h.blk.lt
  have Hh := Lib.hid h
  have Hg := Lib.hid hg
  have Hf0 := Lib.hid hf0
  have HM0 := Lib.hid hM0
  clear h hg hf0 hM0
  go_enter Tryd.func17, Tryd.ntmps17
  go_wp2_with fail
  go_ret
  exact ⟨rfl, Hf0.out⟩
def overL (well : Bool) (took s p : Int) (L : List Spn) (r : Int) : List Spn := if keepB well took s r p = true then ofL L r else []
theorem tover_any (b : Nat) (m p s : Int) (L : List Spn) (k : Nat) (O : Nat → Prop) (r took : Int) (well : Bool) (w : World) (h : TailAt w b m p s L k O) (hk : k ≤ 100000) (hr : reqOk r)
    (hhead : ∀ w, Calls Tryd.prog 11 #[.int .i64 r, .int .i64 p] w fun e w' => e = .returned (.bool (headB r p)) ∧ Frm noB w w') :
    Calls Tryd.prog 17 #[.pointer (some ⟨b, 0, none⟩), .int .i64 r, .bool well, .int .i64 took] w fun e w' => ∃ v O', e = .returned v ∧ Own spnE w' 0 39 v (overL well took s p L r) ∧
      TailAt w' b m p s (othersL L r) k O' ∧ (∀ i, v.ownBlock = some i → ¬ O' i) ∧ Frm O w w' ∧ ∀ i, O' i → O i := by
  obtain ⟨mp, G, R, rv, mk, h1, h2⟩ := h
  cases hf : fndG G r with
  | none =>
    have hnm : r ∉ reqsL L := by rw [← plain_req h2]; exact fndG_none.1 hf
    refine (tover_none b m p s mp G R rv mk k O r took well w h1 hf hr).mono ?_
    rintro e w' ⟨rfl, hF⟩
    refine ⟨_, O, rfl, ?_, ⟨mp, G, R, rv, mk, h1.keep hF, ?_⟩, fun i hi => by simp [Value.ownBlock] at hi, hF.mono (fun _ _ h => h.elim), fun i hi => hi⟩
    · unfold overL; rw [ofL_none hnm, ite_self]; exact Own.nil _ _ _ _
    · rw [othersL_none hnm, h2]
  | some g =>
    obtain ⟨hg, hgr⟩ := fndG_mem hf
    refine (tover_held b m p s mp G R rv mk k O r took well g w h1 hf hk hr hhead).mono ?_
    rintro e w' ⟨rfl, ⟨R', rv', hT⟩, hO, hF⟩
    refine ⟨_, _, rfl, ?_, ⟨mp, _, R', rv', _, hT.less hO ?_, plain_without h2 r⟩, ?_, hF, fun i hi => hi.1⟩
    · unfold overL keptV
      cases keepB well took s r p with
      | true => rw [if_pos rfl, if_pos rfl, ← hgr, ← plain_of h2 hg]; exact hO
      | false => exact Own.nil _ _ _ _
    · intro g' hg'
      rw [List.mem_filter] at hg'
      exact (h1.apart hg hg'.1 (by rw [hgr]; simpa using hg'.2)).2
    · intro i hi hi2
      unfold keptV at hi
      split at hi
      · exact hi2.2 hi
      · simp [Value.ownBlock] at hi
end Go.Proofs.YtdamhohoeobfgaaDoor
