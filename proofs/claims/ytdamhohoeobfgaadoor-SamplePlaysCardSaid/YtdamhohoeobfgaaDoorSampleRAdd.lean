/- Add of the reference of layer 29. -/
import Derived.Test.YtdamhohoeobfgaaDoorSampleROver
import Derived.Test.YtdamhohoeobfgaaDoorTakeD
import Derived.RegionTactic
import Derived.Outline
import Derived.Deep.RegionHeld3
set_option linter.unusedVariables false
set_option linter.unusedSimpArgs false
namespace Go.Proofs.YtdamhohoeobfgaaDoor
open Go.RowKit

def nowL (m : Nat) (L : List Spn) (s : Spn) : List Spn := if fullB m L s = true then othersL L ((reqsL L).headD 0) else L
theorem addL_now (m : Nat) (L : List Spn) (s : Spn) : addL m L s = nowL m L s ++ [s] := by unfold addL nowL; split <;> rfl
set_option maxRecDepth 100000 in
set_option maxHeartbeats 8000000 in
theorem radd_any (mm : Nat) (p s : Int) (v : Value) (L : List Spn) (base : Nat) (x : Spn) (w : World) (h : Own spnE w base 39 v L) (hL : L.length ≤ 100000) (hN : ∀ s ∈ L, NmS s) (hx : NmS x) (hmm : 1 ≤ mm) (hm5 : mm ≤ 100000) :
    Calls Tryd.prog 19 #[.agg #[.int .i64 (mm : Int), .int .i64 p, .int .i64 s, v], spnV x] w fun e w' => ∃ v1 v2, e = .returned (.tuple #[.agg #[.int .i64 (mm : Int), .int .i64 p, .int .i64 s, v1], v2]) ∧
      Own spnE w' w.heap.size 39 v1 (addL mm L x) ∧ Own spnE w' w.heap.size 39 v2 (goneL mm L x) ∧ Frm noB w w' := by
  obtain ⟨va, vc, hve, _, _⟩ := h.shape
  obtain ⟨n, hn⟩ : ∃ n, n = L.length := ⟨_, rfl⟩
  have hvsp : ∀ y, va = some y → y.spot = none := by
    subst hve
    exact h.cap.2.2
  have hvrd : ∀ W, Frm noB w W → Rd spnE W va n L := fun W hW => by
    obtain ⟨a2, c2, he2, hr2⟩ := (h.keep hW).rd
    rw [hve] at he2
    simp only [Value.slice.injEq] at he2
    rw [he2.1, hn]; exact hr2
  rw [← hn] at hve
  subst hve
  have hcx := hx.call
  obtain ⟨X, hX⟩ : ∃ X, X = x := ⟨_, rfl⟩
  rw [← hX] at hx
  have hful : fullB mm L X = ((!hasB (reqsL L) (rq X)) && decide (mm ≤ (reqsL L).length)) := rfl
  have hgo : goneL mm L X = if fullB mm L X = true then ofL L ((reqsL L).headD 0) else [] := rfl
  have hno : nowL mm L X = if fullB mm L X = true then othersL L ((reqsL L).headD 0) else L := rfl
  have had := addL_now mm L X
  have hqX : rq x = rq X := by rw [hX]
  rw [hqX] at hcx
  have hpost : addL mm L x = addL mm L X ∧ goneL mm L x = goneL mm L X := by rw [hX]; exact ⟨rfl, rfl⟩
  rw [hpost.1, hpost.2]
  clear hpost hqX
  obtain ⟨xn, x1, x2, x3, x4, x5⟩ := x
  obtain ⟨W1, hW1⟩ : ∃ Y, Y = ((w.alloc (.cells #[.int .i64 (mm : Int), .int .i64 p, .int .i64 s, .slice va n vc] 29)).alloc (.cells #[.string xn, .int .i64 x1, .int .i64 x2, .int .i64 x3, .bool x4, .int .i64 x5] 39)).alloc (.cells #[.int .i64 0, .int .i64 0, .int .i64 0, .slice none 0 0] 29) := ⟨_, rfl⟩
  have hb1 : Blk W1 w.heap.size #[.int .i64 (mm : Int), .int .i64 p, .int .i64 s, .slice va n vc] 29 := by rw [hW1]; exact ((Blk.made w _ _).alloc _).alloc _
  have hb2 : Blk W1 (w.heap.size + 1) #[.string xn, .int .i64 x1, .int .i64 x2, .int .i64 x3, .bool x4, .int .i64 x5] 39 := by
    rw [hW1]
    have := (Blk.made (w.alloc (.cells #[.int .i64 (mm : Int), .int .i64 p, .int .i64 s, .slice va n vc] 29)) #[.string xn, .int .i64 x1, .int .i64 x2, .int .i64 x3, .bool x4, .int .i64 x5] 39).alloc (.cells #[.int .i64 0, .int .i64 0, .int .i64 0, .slice none 0 0] 29)
    rw [World.size_alloc] at this
    exact this
  have hb3 : Blk W1 (w.heap.size + 1 + 1) #[.int .i64 0, .int .i64 0, .int .i64 0, .slice none 0 0] 29 := by
    rw [hW1]
    have := Blk.made ((w.alloc (.cells #[.int .i64 (mm : Int), .int .i64 p, .int .i64 s, .slice va n vc] 29)).alloc (.cells #[.string xn, .int .i64 x1, .int .i64 x2, .int .i64 x3, .bool x4, .int .i64 x5] 39)) #[.int .i64 0, .int .i64 0, .int .i64 0, .slice none 0 0] 29
    rw [World.size_alloc, World.size_alloc] at this
    exact this
  have hF1 : Frm noB w W1 := by rw [hW1]; exact (((Frm.refl noB w).alloc _).alloc _).alloc _
  have hrq := reqs_any _ L base W1 (h.keep hF1) hL hN
  have hz1 := hF1.size
  unfold spnV
  simp only at hcx
  have Hh := Lib.hid h
  have HL := Lib.hid hL
  have HN := Lib.hid hN
  have Hx := Lib.hid hx
  have Hn := Lib.hid hn
  have Hvsp := Lib.hid hvsp
  have Hvrd := Lib.hid hvrd
  have Hcx := Lib.hid hcx
  have HX := Lib.hid hX
  have Hful := Lib.hid hful
  have Hgo := Lib.hid hgo
  have Hno := Lib.hid hno
  have Had := Lib.hid had
  have Hb1 := Lib.hid hb1
  have Hb2 := Lib.hid hb2
  have Hb3 := Lib.hid hb3
  have HF1 := Lib.hid hF1
  have Hrq := Lib.hid hrq
  clear h hL hN hx hn hvsp hvrd hcx hX hful hgo hno had hb1 hb2 hb3 hF1 hrq
  go_enter Tryd.func19, Tryd.ntmps19
  go_wp2_with fail
  rw [← hW1]
  have HW1 := Lib.hid hW1
  clear hW1
  refine Hrq.out.mono ?_
  rintro e w2 ⟨hv, rfl, ho, hf2⟩
  have hB2 := Hb2.out.frm hf2 (fun h => h)
  have hB1 := Hb1.out.frm hf2 (fun h => h)
  have hB3 := Hb3.out.frm hf2 (fun h => h)
  have c0 := (hB2.cell 0).trans (show _ = some (Value.string xn) from rfl)
  have cl := hB2.lt
  obtain ⟨hsz, hhs⟩ : ∃ k, k = (reqsL L).length := ⟨_, rfl⟩
  have hha := fun (W : World) (hW : Frm noB w2 W) => has_own (num_own (ho.keep hW)) (by have := reqsL_len L; have := HL.out; omega) (rq X)
  obtain ⟨ha, hc, hve, _, hg⟩ := ho.shape
  rw [← hhs] at hve hg
  subst hve
  obtain ⟨hb, hhb⟩ : ∃ k, k = hasB (reqsL L) (rq X) := ⟨_, rfl⟩
  rw [← hhb] at hha
  have hh5 : hsz ≤ 100000 := by rw [hhs]; have := reqsL_len L; have := HL.out; omega
  have Hf2 := Lib.hid hf2
  have HB1 := Lib.hid hB1
  have HB2 := Lib.hid hB2
  have HB3 := Lib.hid hB3
  have Ho := Lib.hid ho
  have Hhs := Lib.hid hhs
  have Hha := Lib.hid hha
  have Hhb := Lib.hid hhb
  have Hg := Lib.hid hg
  clear hf2 hB1 hB2 hB3 ho hhs hha hhb hg
  go_upto_region 3 with fail
  go_cut [25] (fun s25 wx => s25 = .bool (fullB mm L X) ∧ Frm noB w2 wx)
  case first =>
    have hful := Hful.out
    rw [← Hhb.out, ← Hhs.out] at hful
    have d0 := (HB1.out.cell 0).trans (show _ = some (Value.int .i64 (mm : Int)) from rfl)
    have dl := HB1.out.lt
    have Hful := Lib.hid hful
    clear hful
    go_wp2_with fail
    refine (Hcx.out _).mono ?_
    rintro e w3 ⟨rfl, hf3⟩
    have d0 := ((HB1.out.frm hf3 (fun h => h)).cell 0).trans (show _ = some (Value.int .i64 (mm : Int)) from rfl)
    have dl := (HB1.out.frm hf3 (fun h => h)).lt
    have hha := Hha.out w3 hf3
    have Hf3 := Lib.hid hf3
    have Hha := Lib.hid hha
    clear hf3 hha
    go_wp2_with fail
    refine Hha.out.mono ?_
    rintro e w4 ⟨rfl, rfl⟩
    cases hb with
    | true =>
      go_wp2_with fail
      go_meet
      exact ⟨by rw [Hful.out]; rfl, Hf3.out⟩
    | false =>
      go_wp2_with fail
      go_meet
      exact ⟨by rw [Hful.out]; simp, Hf3.out⟩
  case rest =>
    obtain ⟨rfl, hfx⟩ := hcut
    clear c0 cl
    have hF3 := (HF1.out.trans Hf2.out).trans hfx
    have hB13 := HB1.out.frm hfx (fun h => h)
    have hB23 := HB2.out.frm hfx (fun h => h)
    have hB33 := HB3.out.frm hfx (fun h => h)
    have hz1s : w.heap.size + 1 + 1 < W1.heap.size := Hb3.out.lt
    have hzx : W1.heap.size ≤ wc.heap.size := ((Hf2.out).trans hfx).size
    have Hfx := Lib.hid hfx
    have HF3 := Lib.hid hF3
    have HB13 := Lib.hid hB13
    have HB23 := Lib.hid hB23
    have HB33 := Lib.hid hB33
    clear hfx hF3 hB13 hB23 hB33
    go_upto_if 25 with fail
    go_cut [7] (fun s7 wx => ∃ ya yn yc, Blk wx w.heap.size #[.int .i64 (mm : Int), .int .i64 p, .int .i64 s, .slice ya yn yc] 29 ∧ Blk wx (w.heap.size + 1) #[.string xn, .int .i64 x1, .int .i64 x2, .int .i64 x3, .bool x4, .int .i64 x5] 39 ∧ Blk wx (w.heap.size + 1 + 1) #[.int .i64 0, .int .i64 0, .int .i64 0, .slice none 0 0] 29 ∧
      Rd spnE wx ya yn (nowL mm L X) ∧ (∀ y, ya = some y → y.spot = none) ∧ Own spnE wx W1.heap.size 39 s7 (goneL mm L X) ∧ Frm noB w wx)
    case first =>
      have hgo := Hgo.out
      have hno := Hno.out
      have hfl := Hful.out
      cases hf : fullB mm L X with
      | false =>
        rw [hf, if_neg (by decide)] at hgo hno
        have Hgo := Lib.hid hgo
        have Hno := Lib.hid hno
        have Hf := Lib.hid hf
        have Hfl := Lib.hid hfl
        clear hgo hno hf hfl
        go_wp2_with fail
        go_meet
        exact ⟨va, n, vc, HB13.out, HB23.out, HB33.out, by rw [Hno.out]; exact Hvrd.out _ HF3.out, Hvsp.out, by rw [Hgo.out]; exact Own.nil _ _ _ _, HF3.out⟩
      | true =>
        rw [hf, if_pos rfl] at hgo hno
        rw [hf] at hfl
        have hle : mm ≤ (reqsL L).length := by
          have := hfl.symm
          simp only [Bool.and_eq_true, decide_eq_true_eq] at this
          exact this.2
        obtain ⟨g, gs, hgs⟩ : ∃ g gs, reqsL L = g :: gs := by
          cases hr : reqsL L with
          | nil => rw [hr] at hle; simp at hle; omega
          | cons a l => exact ⟨a, l, rfl⟩
        obtain ⟨hab, rfl, _, hal⟩ := Hg.out (by rw [Hhs.out]; omega)
        have hsz0 : 0 < hsz := by rw [Hhs.out]; omega
        rw [hgs, List.headD_cons] at hgo hno
        have hof := fun W (hW : Frm noB w W) => of_any _ L base g W (Hh.out.keep hW) HL.out HN.out
        have d0 := num_cell (Ho.out.keep Hfx.out) (j := 0) (x := g) (by rw [hgs]; rfl)
        have d3 := (HB13.out.cell 3).trans (show _ = some (Value.slice va n vc) from rfl)
        have hlt : hab < wc.heap.size := Nat.lt_of_lt_of_le hal Hfx.out.size
        have hB1l : w.heap.size < wc.heap.size := HB13.out.lt
        have hS : ∀ W, Frm noB wc W → W.cell? ⟨w.heap.size, 3, none⟩ = some (.slice va n vc) ∧ W.cell? ⟨hab, 0, none⟩ = some (.int .i64 g) := fun W hW => ⟨cell_frm hW (fun h => h) d3, cell_frm hW (fun h => h) d0⟩
        have hsz1 : (0 : Int) < (hsz : Int) := by omega
        have Hgo := Lib.hid hgo
        have Hno := Lib.hid hno
        have Hf := Lib.hid hf
        have Hfl := Lib.hid hfl
        have Hgs := Lib.hid hgs
        have Hof := Lib.hid hof
        have Hle := Lib.hid hle
        have HS := Lib.hid hS
        clear hgo hno hf hfl hgs hof hle hS
        go_upto_region 4 with fail
        go_region_held3 (fun W => W.cell? ⟨w.heap.size, 3, none⟩ = some (.slice va n vc) ∧ W.cell? ⟨hab, 0, none⟩ = some (.int .i64 g))
          (first | exact HS.out _ (Frm.refl noB wc).drew | exact HS.out _ hf6)
          (first
            | (go_at_call 24; (with_reducible refine (Hof.out _ (HF3.out.drew)).mono ?_); rintro e w6 ⟨o1, o2, rfl, ho1, ho2, hf6, hap6⟩; replace hf6 := ((Frm.refl noB wc).drew).trans hf6))
        all_goals
          obtain ⟨xa, xc, hxe, _, _⟩ := ho1.shape
          obtain ⟨xm, hxm⟩ : ∃ n, n = (ofL L g).length := ⟨_, rfl⟩
          rw [← hxm] at hxe
          subst hxe
          obtain ⟨ya, yc, hye, _, _⟩ := ho2.shape
          obtain ⟨ym, hym⟩ : ∃ n, n = (othersL L g).length := ⟨_, rfl⟩
          rw [← hym] at hye
          subst hye
          have hB16 := HB13.out.frm hf6 (fun h => h)
          have hB26 := HB23.out.frm hf6 (fun h => h)
          have hB36 := HB33.out.frm hf6 (fun h => h)
          have z3 := (hB16.cell 3).trans (show _ = some (Value.slice va n vc) from rfl)
          have zf := hB16.free 3
          have zl := hB16.lt
          clear d0 d3
          obtain ⟨W7, hW7⟩ : ∃ Y, World.setCell w6 ⟨w.heap.size, 3, none⟩ (.slice ya ym yc) = Y := ⟨_, rfl⟩
          have hB17 : Blk W7 w.heap.size #[.int .i64 (mm : Int), .int .i64 p, .int .i64 s, .slice ya ym yc] 29 := by
            have := hB16.set 3 (.slice ya ym yc)
            rw [hW7] at this
            exact this
          have hf7 : Frm (oneB w.heap.size) w6 W7 := by rw [← hW7]; exact (Frm.refl _ _).setOne 3 _
          have hB27 := hB26.frm hf7 (fun e => by have e2 : w.heap.size + 1 = w.heap.size := e; omega)
          have hB37 := hB36.frm hf7 (fun e => by have e2 : w.heap.size + 1 + 1 = w.heap.size := e; omega)
          have hz3 : wc.heap.size ≤ wc.drew.heap.size := Nat.le_refl _
          have ho17 := ho1.frm hf7 (fun i hi e => by have e2 : i = w.heap.size := e; have := (ho1.lt i hi).1; have : wc.drew.heap.size = wc.heap.size := rfl; omega)
          have ho27 := ho2.frm hf7 (fun i hi e => by have e2 : i = w.heap.size := e; have := (ho2.lt i hi).1; have : wc.drew.heap.size = wc.heap.size := rfl; omega)
          have hF7 := (HF3.out.trans hf6).new hf7 (fun i hi e => by have e2 : i = w.heap.size := e; omega)
          obtain ⟨qa, qc, hqe, hqr⟩ := ho27.rd
          have hqs := ho27.cap.2.2
          simp only [Value.slice.injEq] at hqe
          obtain ⟨rfl, -, rfl⟩ := hqe
          rw [← hym] at hqr
          have Hxm := Lib.hid hxm
          have Hym := Lib.hid hym
          have HB16 := Lib.hid hB16
          have HB26 := Lib.hid hB26
          have HB36 := Lib.hid hB36
          have HB17 := Lib.hid hB17
          have Hf7 := Lib.hid hf7
          have HB27 := Lib.hid hB27
          have HB37 := Lib.hid hB37
          have Ho17 := Lib.hid ho17
          have Ho27 := Lib.hid ho27
          have HF7 := Lib.hid hF7
          have Hqr := Lib.hid hqr
          have Hqs := Lib.hid hqs
          have Ho1 := Lib.hid ho1
          have Ho2 := Lib.hid ho2
          have Hf6 := Lib.hid hf6
          have Hap6 := Lib.hid hap6
          clear hxm hym hB16 hB26 hB36 hB17 hf7 hB27 hB37 ho17 ho27 hF7 hqr hqs ho1 ho2 hf6 hap6
          go_wp2_with fail
          go_meet
          exact ⟨_, _, _, HB17.out, HB27.out, HB37.out, by rw [Hno.out]; exact Hqr.out, Hqs.out, by rw [Hgo.out]; exact Ho17.out.base hzx, HF7.out⟩
    case rest =>
      obtain ⟨ya, yn, yc, hB1, hB2, hB3, hrd, hrsp, hgone, hFw⟩ := hcut
      obtain ⟨ga2, gc2, hge, _, _⟩ := hgone.shape
      obtain ⟨gn2, hgn2⟩ : ∃ n, n = (goneL mm L X).length := ⟨_, rfl⟩
      rw [← hgn2] at hge
      subst hge
      have hnl : (nowL mm L X).length ≤ 100000 := by
        rw [Hno.out]
        split
        · exact Nat.le_trans (othersL_len _ _) HL.out
        · exact HL.out
      have hyn5 : yn ≤ 100000 := by rw [← hrd.1]; exact hnl
      have hB1l : w.heap.size < wc.heap.size := hB1.lt
      have hzw : w.heap.size ≤ wc.heap.size := hFw.size
      have hB3l : w.heap.size + 1 + 1 < wc.heap.size := hB3.lt
      have HB1 := Lib.hid hB1
      have HB2 := Lib.hid hB2
      have HB3 := Lib.hid hB3
      have Hrd := Lib.hid hrd
      have Hrsp := Lib.hid hrsp
      have Hgone := Lib.hid hgone
      have HFw := Lib.hid hFw
      have Hgn2 := Lib.hid hgn2
      clear hB1 hB2 hB3 hrd hrsp hgone hFw hgn2
      go_upto_region 7 with fail
      go_cut [44] (fun s44 wx => ∃ ga gn gc, Blk wx w.heap.size #[.int .i64 (mm : Int), .int .i64 p, .int .i64 s, .slice ga gn gc] 29 ∧ Own spnE wx wc.heap.size 39 (.slice ga gn gc) (([] ++ nowL mm L X) ++ [X]) ∧ Frm (oneB w.heap.size) wc wx)
      case first =>
        refine wp_region_noPanic ?_
        refine wp_region_held_drew (S := fun X => Blk X (w.heap.size + 1) #[.string xn, .int .i64 x1, .int .i64 x2, .int .i64 x3, .bool x4, .int .i64 x5] 39) (by kernel_rfl) ?_ (fun hHeld => ?_)
        · exact HB2.out.frm (Frm.refl noB _).drew (fun h => h)
        obtain ⟨u0, hu0⟩ : ∃ Wq, Wq = wc.drew := ⟨_, rfl⟩
        try rw [← hu0] at hHeld
        rw [← hu0]
        have hgd : Frm noB wc u0 := by rw [hu0]; exact (Frm.refl noB wc).drew
        have HT0 := Lib.hid (hgd)
        have hz0 := hgd.size
        have rB1_0 := Lib.hid (HB1.out.frm hgd (fun h => h))
        clear hu0 hgd
        refine takeD (i := 1) (some 39) (v := ?_) rfl rfl (by kernel_rfl) (by kernel_rfl) (by kernel_rfl) (fun _ _ _ h => h) (Or.inl ⟨by kernel_rfl, ?_⟩) (by assumption) ?_
        rotate_left
        · (intro w hSw; (try dsimp only at hSw); have hQ0 := (hSw.cell 0).trans (show _ = some (Value.string xn) from rfl); have hQ1 := (hSw.cell 1).trans (show _ = some (Value.int .i64 x1) from rfl); have hQ2 := (hSw.cell 2).trans (show _ = some (Value.int .i64 x2) from rfl); have hQ3 := (hSw.cell 3).trans (show _ = some (Value.int .i64 x3) from rfl); have hQ4 := (hSw.cell 4).trans (show _ = some (Value.bool x4) from rfl); have hQ5 := (hSw.cell 5).trans (show _ = some (Value.int .i64 x5) from rfl); go_simp; try (with_reducible rfl))
        (try dsimp only [Act.put]); try simp only [Act.put, List.setIfInBounds_toArray, List.set_cons_zero, List.set_cons_succ]
        refine takeD (i := 4) (some 42) (v := ?_) rfl rfl (by kernel_rfl) (by kernel_rfl) (by kernel_rfl) (fun _ _ _ h => h) (Or.inl ⟨by kernel_rfl, ?_⟩) (by assumption) ?_
        rotate_left
        · (intro w hSw; (try dsimp only at hSw); have hQ0 := (hSw.cell 0).trans (show _ = some (Value.string xn) from rfl); have hQ1 := (hSw.cell 1).trans (show _ = some (Value.int .i64 x1) from rfl); have hQ2 := (hSw.cell 2).trans (show _ = some (Value.int .i64 x2) from rfl); have hQ3 := (hSw.cell 3).trans (show _ = some (Value.int .i64 x3) from rfl); have hQ4 := (hSw.cell 4).trans (show _ = some (Value.bool x4) from rfl); have hQ5 := (hSw.cell 5).trans (show _ = some (Value.int .i64 x5) from rfl); go_simp; try (with_reducible rfl))
        (try dsimp only [Act.put]); try simp only [Act.put, List.setIfInBounds_toArray, List.set_cons_zero, List.set_cons_succ]
        refine wpAnyH_ready (rs := [0, 2, 5]) (by kernel_rfl) (by simp) ?_
        refine AllReadyH.cons rfl (fun K hK => ?_) ?_
        · go_simp
          generalize hw : World.alloc u0 _ = u1
          have hg : Frm noB u0 u1 := by rw [← hw]; exact (Frm.refl noB u0).alloc _
          have HT1 := Lib.hid (HT0.out.trans hg)
          have rB1_1 := Lib.hid (rB1_0.out.frm hg (fun h => h))
          have hz1 := hg.size
          have rE_1 := Lib.hid (show Own spnE u1 wc.heap.size 39 (.slice (some ⟨u0.heap.size, 0, none⟩) 0 0) [] by rw [← hw]; exact own_lit spnE u0 39 [] _ rfl 0 rfl _ (by omega) (by omega))
          have hl1 : u0.heap.size < u1.heap.size := by rw [← hw]; simp
          clear hg hw
          refine hK.out _ _ ?_ (fun hHeld => ?_)
          · exact HB2.out.frm HT1.out (fun h => h)
          clear hK K
          (try dsimp only [Act.put]); try simp only [Act.put, List.setIfInBounds_toArray, List.set_cons_zero, List.set_cons_succ]
          refine wpAnyH_ready (rs := [2, 5]) (by kernel_rfl) (by simp) ?_
          refine AllReadyH.cons rfl (fun K hK => ?_) ?_
          · have qc := rB1_1.out.cell 3
            have ql := rB1_1.out.lt
            simp at qc
            go_simp
            clear qc ql
            refine hK.out _ _ ?_ (fun hHeld => ?_)
            · exact HB2.out.frm HT1.out (fun h => h)
            clear hK K
            (try dsimp only [Act.put]); try simp only [Act.put, List.setIfInBounds_toArray, List.set_cons_zero, List.set_cons_succ]
            refine wpAnyH_ready (rs := [3, 5]) (by kernel_rfl) (by simp) ?_
            refine AllReadyH.cons rfl (fun K hK => ?_) ?_
            · rw [if_pos (by rfl)]
              obtain ⟨iq, hiq, hz9, h19, h29⟩ := info_parts info_spn
              refine wp_appR spnE _ _ _ 27 (by rfl) wc.heap.size 39 iq _ 56 Tryd.underlying27 hiq hz9 h19 h29 rfl (by decide) (by omega) _ _ (by rfl) rE_1.out ya yn yc (nowL mm L X) (by rfl) (Hrd.out.keep HT1.out) Hrsp.out (by simp; omega) (by omega) (fun v1 u2 ho hg hba => ?_)
              have HT2 := Lib.hid (HT1.out.new hg (fun k hk e => by have e2 : k = u0.heap.size := Option.some.inj e; omega))
              have rB1_2 := Lib.hid (rB1_1.out.frm hg (fun e => by have e2 : w.heap.size = u0.heap.size := Option.some.inj e; omega))
              have hz2 := hg.size
              have rE_2 := Lib.hid ho
              clear ho hg hba
              change K (Act.put _ (some 41) _) _
              refine hK.out _ _ ?_ (fun hHeld => ?_)
              · exact HB2.out.frm HT2.out (fun h => h)
              clear hK K
              (try dsimp only [Act.put]); try simp only [Act.put, List.setIfInBounds_toArray, List.set_cons_zero, List.set_cons_succ]
              refine wpAnyH_ready (rs := [5]) (by kernel_rfl) (by simp) ?_
              refine AllReadyH.cons rfl (fun K hK => ?_) ?_
              · go_simp
                generalize hw : World.alloc u2 _ = u3
                have hg : Frm noB u2 u3 := by rw [← hw]; exact (Frm.refl noB u2).alloc _
                have HT3 := Lib.hid (HT2.out.trans hg)
                have rB1_3 := Lib.hid (rB1_2.out.frm hg (fun h => h))
                have rE_3 := Lib.hid (rE_2.out.frm hg (fun b hb e => e))
                have hz3 := hg.size
                have rL_3 := Lib.hid (show Blk u3 u2.heap.size #[.string xn, .int .i64 x1, .int .i64 x2, .int .i64 x3, .bool x4, .int .i64 x5] 39 by rw [← hw]; exact Blk.made u2 _ _)
                have hl3 : u2.heap.size < u3.heap.size := by rw [← hw]; simp
                clear hg hw
                refine hK.out _ _ ?_ (fun hHeld => ?_)
                · exact HB2.out.frm HT3.out (fun h => h)
                clear hK K
                (try dsimp only [Act.put]); try simp only [Act.put, List.setIfInBounds_toArray, List.set_cons_zero, List.set_cons_succ]
                refine wpAnyH_ready (rs := [6]) (by kernel_rfl) (by simp) ?_
                refine AllReadyH.cons rfl (fun K hK => ?_) ?_
                · rw [if_pos (by rfl)]
                  obtain ⟨iq, hiq, hz9, h19, h29⟩ := info_parts info_spn
                  have hlo := fun k e => (rE_3.out.lt k e).1
                  refine wp_app1g spnE _ _ _ 27 (by rfl) wc.heap.size 39 iq _ 56 Tryd.underlying27 hiq hz9 h19 h29 rfl (by decide) (by omega) _ _ (by rfl) rE_3.out X _ (by rfl) _ rL_3.out (by rw [HX.out]; rfl) (by simp; omega) (by omega) (fun v2 u4 ho hg hba hn0 => ?_)
                  have HT4 := Lib.hid (HT3.out.new hg (fun k hk e => by have e3 := hlo k e.symm; omega))
                  have rB1_4 := Lib.hid (rB1_3.out.frm hg (fun e => by have e3 := hlo _ e.symm; omega))
                  have hz4 := hg.size
                  have rE_4 := Lib.hid ho
                  clear ho hg hba hn0 hlo
                  change K (Act.put _ (some 44) _) _
                  refine hK.out _ _ ?_ (fun hHeld => ?_)
                  · exact HB2.out.frm HT4.out (fun h => h)
                  clear hK K
                  (try dsimp only [Act.put]); try simp only [Act.put, List.setIfInBounds_toArray, List.set_cons_zero, List.set_cons_succ]
                  refine takeD (i := 7) (some 45) (v := ?_) rfl rfl (by kernel_rfl) (by kernel_rfl) (by kernel_rfl) (fun _ _ _ h => h) (Or.inl ⟨by kernel_rfl, ?_⟩) (by assumption) ?_
                  rotate_left
                  · (intro w hSw; (try dsimp only at hSw); have hQ0 := (hSw.cell 0).trans (show _ = some (Value.string xn) from rfl); have hQ1 := (hSw.cell 1).trans (show _ = some (Value.int .i64 x1) from rfl); have hQ2 := (hSw.cell 2).trans (show _ = some (Value.int .i64 x2) from rfl); have hQ3 := (hSw.cell 3).trans (show _ = some (Value.int .i64 x3) from rfl); have hQ4 := (hSw.cell 4).trans (show _ = some (Value.bool x4) from rfl); have hQ5 := (hSw.cell 5).trans (show _ = some (Value.int .i64 x5) from rfl); go_simp; try (with_reducible rfl))
                  (try dsimp only [Act.put]); try simp only [Act.put, List.setIfInBounds_toArray, List.set_cons_zero, List.set_cons_succ]
                  refine wpAnyH_ready (rs := [8]) (by kernel_rfl) (by simp) ?_
                  refine AllReadyH.cons rfl (fun K hK => ?_) ?_
                  · obtain ⟨ga, gc, hvs, _⟩ := rE_4.out.shape
                    obtain ⟨gn, hvn⟩ : ∃ n, n = (([] ++ nowL mm L X) ++ [X]).length := ⟨_, rfl⟩
                    rw [← hvn] at hvs
                    subst hvs
                    clear hvn
                    have hq := rB1_4.out
                    have q2 := hq.cell 3
                    dsimp at q2
                    have qy := hq.free 3
                    have ql := hq.lt
                    go_simp
                    generalize hw : World.setCell u4 _ _ = u5
                    have hs : Blk u5 w.heap.size #[.int .i64 (mm : Int), .int .i64 p, .int .i64 s, .slice ga gn gc] 29 := by rw [← hw]; exact hq.set 3 _
                    have hg : Frm (oneB (w.heap.size)) u4 u5 := by rw [← hw]; exact (Frm.refl _ _).setOne _ _
                    have HTL := Lib.hid ((HT4.out.mono (fun _ _ h => h.elim)).trans hg)
                    have rE_5 := Lib.hid (rE_4.out.frm hg (fun b hb e => by have e3 := (rE_4.out.lt b hb).1; have e2 := (show _ = _ from e); omega))
                    have rB1_5 := Lib.hid hs
                    clear hs hg hw hq q2 qy ql
                    refine hK.out _ _ ?_ (fun hHeld => ?_)
                    · exact HB2.out.frm HTL.out (fun e => by have e2 : w.heap.size + 1 = w.heap.size := e; omega)
                    clear hK K
                    (try dsimp only [Act.put]); try simp only [Act.put, List.setIfInBounds_toArray, List.set_cons_zero, List.set_cons_succ]
                    refine wpAnyH_done (by kernel_rfl) ?_ _
                    refine NoPanic.normal ?_
                    go_wp2_with fail
                    go_meet
                    exact ⟨ga, gn, gc, rB1_5.out, rE_5.out, HTL.out⟩
                  exact AllReadyH.nil
                exact AllReadyH.nil
              exact AllReadyH.nil
            refine AllReadyH.cons rfl (fun K hK => ?_) ?_
            · go_simp
              generalize hw : World.alloc u1 _ = u2
              have hg : Frm noB u1 u2 := by rw [← hw]; exact (Frm.refl noB u1).alloc _
              have HT2 := Lib.hid (HT1.out.trans hg)
              have rB1_2 := Lib.hid (rB1_1.out.frm hg (fun h => h))
              have rE_2 := Lib.hid (rE_1.out.frm hg (fun b hb e => e))
              have hz2 := hg.size
              have rL_2 := Lib.hid (show Blk u2 u1.heap.size #[.string xn, .int .i64 x1, .int .i64 x2, .int .i64 x3, .bool x4, .int .i64 x5] 39 by rw [← hw]; exact Blk.made u1 _ _)
              have hl2 : u1.heap.size < u2.heap.size := by rw [← hw]; simp
              clear hg hw
              refine hK.out _ _ ?_ (fun hHeld => ?_)
              · exact HB2.out.frm HT2.out (fun h => h)
              clear hK K
              (try dsimp only [Act.put]); try simp only [Act.put, List.setIfInBounds_toArray, List.set_cons_zero, List.set_cons_succ]
              refine wpAnyH_ready (rs := [3]) (by kernel_rfl) (by simp) ?_
              refine AllReadyH.cons rfl (fun K hK => ?_) ?_
              · rw [if_pos (by rfl)]
                obtain ⟨iq, hiq, hz9, h19, h29⟩ := info_parts info_spn
                refine wp_appR spnE _ _ _ 27 (by rfl) wc.heap.size 39 iq _ 56 Tryd.underlying27 hiq hz9 h19 h29 rfl (by decide) (by omega) _ _ (by rfl) rE_2.out ya yn yc (nowL mm L X) (by rfl) (Hrd.out.keep HT2.out) Hrsp.out (by simp; omega) (by omega) (fun v1 u3 ho hg hba => ?_)
                have HT3 := Lib.hid (HT2.out.new hg (fun k hk e => by have e2 : k = u0.heap.size := Option.some.inj e; omega))
                have rB1_3 := Lib.hid (rB1_2.out.frm hg (fun e => by have e2 : w.heap.size = u0.heap.size := Option.some.inj e; omega))
                have rL_3 := Lib.hid (rL_2.out.frm hg (fun e => by have e2 : u1.heap.size = u0.heap.size := Option.some.inj e; omega))
                have hz3 := hg.size
                have rE_3 := Lib.hid ho
                clear ho hg hba
                change K (Act.put _ (some 41) _) _
                refine hK.out _ _ ?_ (fun hHeld => ?_)
                · exact HB2.out.frm HT3.out (fun h => h)
                clear hK K
                (try dsimp only [Act.put]); try simp only [Act.put, List.setIfInBounds_toArray, List.set_cons_zero, List.set_cons_succ]
                refine wpAnyH_ready (rs := [6]) (by kernel_rfl) (by simp) ?_
                refine AllReadyH.cons rfl (fun K hK => ?_) ?_
                · rw [if_pos (by rfl)]
                  obtain ⟨iq, hiq, hz9, h19, h29⟩ := info_parts info_spn
                  have hlo := fun k e => (rE_3.out.lt k e).1
                  refine wp_app1g spnE _ _ _ 27 (by rfl) wc.heap.size 39 iq _ 56 Tryd.underlying27 hiq hz9 h19 h29 rfl (by decide) (by omega) _ _ (by rfl) rE_3.out X _ (by rfl) _ rL_3.out (by rw [HX.out]; rfl) (by simp; omega) (by omega) (fun v2 u4 ho hg hba hn0 => ?_)
                  have HT4 := Lib.hid (HT3.out.new hg (fun k hk e => by have e3 := hlo k e.symm; omega))
                  have rB1_4 := Lib.hid (rB1_3.out.frm hg (fun e => by have e3 := hlo _ e.symm; omega))
                  have hz4 := hg.size
                  have rE_4 := Lib.hid ho
                  clear ho hg hba hn0 hlo
                  change K (Act.put _ (some 44) _) _
                  refine hK.out _ _ ?_ (fun hHeld => ?_)
                  · exact HB2.out.frm HT4.out (fun h => h)
                  clear hK K
                  (try dsimp only [Act.put]); try simp only [Act.put, List.setIfInBounds_toArray, List.set_cons_zero, List.set_cons_succ]
                  refine takeD (i := 7) (some 45) (v := ?_) rfl rfl (by kernel_rfl) (by kernel_rfl) (by kernel_rfl) (fun _ _ _ h => h) (Or.inl ⟨by kernel_rfl, ?_⟩) (by assumption) ?_
                  rotate_left
                  · (intro w hSw; (try dsimp only at hSw); have hQ0 := (hSw.cell 0).trans (show _ = some (Value.string xn) from rfl); have hQ1 := (hSw.cell 1).trans (show _ = some (Value.int .i64 x1) from rfl); have hQ2 := (hSw.cell 2).trans (show _ = some (Value.int .i64 x2) from rfl); have hQ3 := (hSw.cell 3).trans (show _ = some (Value.int .i64 x3) from rfl); have hQ4 := (hSw.cell 4).trans (show _ = some (Value.bool x4) from rfl); have hQ5 := (hSw.cell 5).trans (show _ = some (Value.int .i64 x5) from rfl); go_simp; try (with_reducible rfl))
                  (try dsimp only [Act.put]); try simp only [Act.put, List.setIfInBounds_toArray, List.set_cons_zero, List.set_cons_succ]
                  refine wpAnyH_ready (rs := [8]) (by kernel_rfl) (by simp) ?_
                  refine AllReadyH.cons rfl (fun K hK => ?_) ?_
                  · obtain ⟨ga, gc, hvs, _⟩ := rE_4.out.shape
                    obtain ⟨gn, hvn⟩ : ∃ n, n = (([] ++ nowL mm L X) ++ [X]).length := ⟨_, rfl⟩
                    rw [← hvn] at hvs
                    subst hvs
                    clear hvn
                    have hq := rB1_4.out
                    have q2 := hq.cell 3
                    dsimp at q2
                    have qy := hq.free 3
                    have ql := hq.lt
                    go_simp
                    generalize hw : World.setCell u4 _ _ = u5
                    have hs : Blk u5 w.heap.size #[.int .i64 (mm : Int), .int .i64 p, .int .i64 s, .slice ga gn gc] 29 := by rw [← hw]; exact hq.set 3 _
                    have hg : Frm (oneB (w.heap.size)) u4 u5 := by rw [← hw]; exact (Frm.refl _ _).setOne _ _
                    have HTL := Lib.hid ((HT4.out.mono (fun _ _ h => h.elim)).trans hg)
                    have rE_5 := Lib.hid (rE_4.out.frm hg (fun b hb e => by have e3 := (rE_4.out.lt b hb).1; have e2 := (show _ = _ from e); omega))
                    have rB1_5 := Lib.hid hs
                    clear hs hg hw hq q2 qy ql
                    refine hK.out _ _ ?_ (fun hHeld => ?_)
                    · exact HB2.out.frm HTL.out (fun e => by have e2 : w.heap.size + 1 = w.heap.size := e; omega)
                    clear hK K
                    (try dsimp only [Act.put]); try simp only [Act.put, List.setIfInBounds_toArray, List.set_cons_zero, List.set_cons_succ]
                    refine wpAnyH_done (by kernel_rfl) ?_ _
                    refine NoPanic.normal ?_
                    go_wp2_with fail
                    go_meet
                    exact ⟨ga, gn, gc, rB1_5.out, rE_5.out, HTL.out⟩
                  exact AllReadyH.nil
                exact AllReadyH.nil
              exact AllReadyH.nil
            exact AllReadyH.nil
          refine AllReadyH.cons rfl (fun K hK => ?_) ?_
          · go_simp
            generalize hw : World.alloc u1 _ = u2
            have hg : Frm noB u1 u2 := by rw [← hw]; exact (Frm.refl noB u1).alloc _
            have HT2 := Lib.hid (HT1.out.trans hg)
            have rB1_2 := Lib.hid (rB1_1.out.frm hg (fun h => h))
            have rE_2 := Lib.hid (rE_1.out.frm hg (fun b hb e => e))
            have hz2 := hg.size
            have rL_2 := Lib.hid (show Blk u2 u1.heap.size #[.string xn, .int .i64 x1, .int .i64 x2, .int .i64 x3, .bool x4, .int .i64 x5] 39 by rw [← hw]; exact Blk.made u1 _ _)
            have hl2 : u1.heap.size < u2.heap.size := by rw [← hw]; simp
            clear hg hw
            refine hK.out _ _ ?_ (fun hHeld => ?_)
            · exact HB2.out.frm HT2.out (fun h => h)
            clear hK K
            (try dsimp only [Act.put]); try simp only [Act.put, List.setIfInBounds_toArray, List.set_cons_zero, List.set_cons_succ]
            refine wpAnyH_ready (rs := [2]) (by kernel_rfl) (by simp) ?_
            refine AllReadyH.cons rfl (fun K hK => ?_) ?_
            · have qc := rB1_2.out.cell 3
              have ql := rB1_2.out.lt
              simp at qc
              go_simp
              clear qc ql
              refine hK.out _ _ ?_ (fun hHeld => ?_)
              · exact HB2.out.frm HT2.out (fun h => h)
              clear hK K
              (try dsimp only [Act.put]); try simp only [Act.put, List.setIfInBounds_toArray, List.set_cons_zero, List.set_cons_succ]
              refine wpAnyH_ready (rs := [3]) (by kernel_rfl) (by simp) ?_
              refine AllReadyH.cons rfl (fun K hK => ?_) ?_
              · rw [if_pos (by rfl)]
                obtain ⟨iq, hiq, hz9, h19, h29⟩ := info_parts info_spn
                refine wp_appR spnE _ _ _ 27 (by rfl) wc.heap.size 39 iq _ 56 Tryd.underlying27 hiq hz9 h19 h29 rfl (by decide) (by omega) _ _ (by rfl) rE_2.out ya yn yc (nowL mm L X) (by rfl) (Hrd.out.keep HT2.out) Hrsp.out (by simp; omega) (by omega) (fun v1 u3 ho hg hba => ?_)
                have HT3 := Lib.hid (HT2.out.new hg (fun k hk e => by have e2 : k = u0.heap.size := Option.some.inj e; omega))
                have rB1_3 := Lib.hid (rB1_2.out.frm hg (fun e => by have e2 : w.heap.size = u0.heap.size := Option.some.inj e; omega))
                have rL_3 := Lib.hid (rL_2.out.frm hg (fun e => by have e2 : u1.heap.size = u0.heap.size := Option.some.inj e; omega))
                have hz3 := hg.size
                have rE_3 := Lib.hid ho
                clear ho hg hba
                change K (Act.put _ (some 41) _) _
                refine hK.out _ _ ?_ (fun hHeld => ?_)
                · exact HB2.out.frm HT3.out (fun h => h)
                clear hK K
                (try dsimp only [Act.put]); try simp only [Act.put, List.setIfInBounds_toArray, List.set_cons_zero, List.set_cons_succ]
                refine wpAnyH_ready (rs := [6]) (by kernel_rfl) (by simp) ?_
                refine AllReadyH.cons rfl (fun K hK => ?_) ?_
                · rw [if_pos (by rfl)]
                  obtain ⟨iq, hiq, hz9, h19, h29⟩ := info_parts info_spn
                  have hlo := fun k e => (rE_3.out.lt k e).1
                  refine wp_app1g spnE _ _ _ 27 (by rfl) wc.heap.size 39 iq _ 56 Tryd.underlying27 hiq hz9 h19 h29 rfl (by decide) (by omega) _ _ (by rfl) rE_3.out X _ (by rfl) _ rL_3.out (by rw [HX.out]; rfl) (by simp; omega) (by omega) (fun v2 u4 ho hg hba hn0 => ?_)
                  have HT4 := Lib.hid (HT3.out.new hg (fun k hk e => by have e3 := hlo k e.symm; omega))
                  have rB1_4 := Lib.hid (rB1_3.out.frm hg (fun e => by have e3 := hlo _ e.symm; omega))
                  have hz4 := hg.size
                  have rE_4 := Lib.hid ho
                  clear ho hg hba hn0 hlo
                  change K (Act.put _ (some 44) _) _
                  refine hK.out _ _ ?_ (fun hHeld => ?_)
                  · exact HB2.out.frm HT4.out (fun h => h)
                  clear hK K
                  (try dsimp only [Act.put]); try simp only [Act.put, List.setIfInBounds_toArray, List.set_cons_zero, List.set_cons_succ]
                  refine takeD (i := 7) (some 45) (v := ?_) rfl rfl (by kernel_rfl) (by kernel_rfl) (by kernel_rfl) (fun _ _ _ h => h) (Or.inl ⟨by kernel_rfl, ?_⟩) (by assumption) ?_
                  rotate_left
                  · (intro w hSw; (try dsimp only at hSw); have hQ0 := (hSw.cell 0).trans (show _ = some (Value.string xn) from rfl); have hQ1 := (hSw.cell 1).trans (show _ = some (Value.int .i64 x1) from rfl); have hQ2 := (hSw.cell 2).trans (show _ = some (Value.int .i64 x2) from rfl); have hQ3 := (hSw.cell 3).trans (show _ = some (Value.int .i64 x3) from rfl); have hQ4 := (hSw.cell 4).trans (show _ = some (Value.bool x4) from rfl); have hQ5 := (hSw.cell 5).trans (show _ = some (Value.int .i64 x5) from rfl); go_simp; try (with_reducible rfl))
                  (try dsimp only [Act.put]); try simp only [Act.put, List.setIfInBounds_toArray, List.set_cons_zero, List.set_cons_succ]
                  refine wpAnyH_ready (rs := [8]) (by kernel_rfl) (by simp) ?_
                  refine AllReadyH.cons rfl (fun K hK => ?_) ?_
                  · obtain ⟨ga, gc, hvs, _⟩ := rE_4.out.shape
                    obtain ⟨gn, hvn⟩ : ∃ n, n = (([] ++ nowL mm L X) ++ [X]).length := ⟨_, rfl⟩
                    rw [← hvn] at hvs
                    subst hvs
                    clear hvn
                    have hq := rB1_4.out
                    have q2 := hq.cell 3
                    dsimp at q2
                    have qy := hq.free 3
                    have ql := hq.lt
                    go_simp
                    generalize hw : World.setCell u4 _ _ = u5
                    have hs : Blk u5 w.heap.size #[.int .i64 (mm : Int), .int .i64 p, .int .i64 s, .slice ga gn gc] 29 := by rw [← hw]; exact hq.set 3 _
                    have hg : Frm (oneB (w.heap.size)) u4 u5 := by rw [← hw]; exact (Frm.refl _ _).setOne _ _
                    have HTL := Lib.hid ((HT4.out.mono (fun _ _ h => h.elim)).trans hg)
                    have rE_5 := Lib.hid (rE_4.out.frm hg (fun b hb e => by have e3 := (rE_4.out.lt b hb).1; have e2 := (show _ = _ from e); omega))
                    have rB1_5 := Lib.hid hs
                    clear hs hg hw hq q2 qy ql
                    refine hK.out _ _ ?_ (fun hHeld => ?_)
                    · exact HB2.out.frm HTL.out (fun e => by have e2 : w.heap.size + 1 = w.heap.size := e; omega)
                    clear hK K
                    (try dsimp only [Act.put]); try simp only [Act.put, List.setIfInBounds_toArray, List.set_cons_zero, List.set_cons_succ]
                    refine wpAnyH_done (by kernel_rfl) ?_ _
                    refine NoPanic.normal ?_
                    go_wp2_with fail
                    go_meet
                    exact ⟨ga, gn, gc, rB1_5.out, rE_5.out, HTL.out⟩
                  exact AllReadyH.nil
                exact AllReadyH.nil
              exact AllReadyH.nil
            exact AllReadyH.nil
          exact AllReadyH.nil
        refine AllReadyH.cons rfl (fun K hK => ?_) ?_
        · have qc := rB1_0.out.cell 3
          have ql := rB1_0.out.lt
          simp at qc
          go_simp
          clear qc ql
          refine hK.out _ _ ?_ (fun hHeld => ?_)
          · exact HB2.out.frm HT0.out (fun h => h)
          clear hK K
          (try dsimp only [Act.put]); try simp only [Act.put, List.setIfInBounds_toArray, List.set_cons_zero, List.set_cons_succ]
          refine wpAnyH_ready (rs := [0, 5]) (by kernel_rfl) (by simp) ?_
          refine AllReadyH.cons rfl (fun K hK => ?_) ?_
          · go_simp
            generalize hw : World.alloc u0 _ = u1
            have hg : Frm noB u0 u1 := by rw [← hw]; exact (Frm.refl noB u0).alloc _
            have HT1 := Lib.hid (HT0.out.trans hg)
            have rB1_1 := Lib.hid (rB1_0.out.frm hg (fun h => h))
            have hz1 := hg.size
            have rE_1 := Lib.hid (show Own spnE u1 wc.heap.size 39 (.slice (some ⟨u0.heap.size, 0, none⟩) 0 0) [] by rw [← hw]; exact own_lit spnE u0 39 [] _ rfl 0 rfl _ (by omega) (by omega))
            have hl1 : u0.heap.size < u1.heap.size := by rw [← hw]; simp
            clear hg hw
            refine hK.out _ _ ?_ (fun hHeld => ?_)
            · exact HB2.out.frm HT1.out (fun h => h)
            clear hK K
            (try dsimp only [Act.put]); try simp only [Act.put, List.setIfInBounds_toArray, List.set_cons_zero, List.set_cons_succ]
            refine wpAnyH_ready (rs := [3, 5]) (by kernel_rfl) (by simp) ?_
            refine AllReadyH.cons rfl (fun K hK => ?_) ?_
            · rw [if_pos (by rfl)]
              obtain ⟨iq, hiq, hz9, h19, h29⟩ := info_parts info_spn
              refine wp_appR spnE _ _ _ 27 (by rfl) wc.heap.size 39 iq _ 56 Tryd.underlying27 hiq hz9 h19 h29 rfl (by decide) (by omega) _ _ (by rfl) rE_1.out ya yn yc (nowL mm L X) (by rfl) (Hrd.out.keep HT1.out) Hrsp.out (by simp; omega) (by omega) (fun v1 u2 ho hg hba => ?_)
              have HT2 := Lib.hid (HT1.out.new hg (fun k hk e => by have e2 : k = u0.heap.size := Option.some.inj e; omega))
              have rB1_2 := Lib.hid (rB1_1.out.frm hg (fun e => by have e2 : w.heap.size = u0.heap.size := Option.some.inj e; omega))
              have hz2 := hg.size
              have rE_2 := Lib.hid ho
              clear ho hg hba
              change K (Act.put _ (some 41) _) _
              refine hK.out _ _ ?_ (fun hHeld => ?_)
              · exact HB2.out.frm HT2.out (fun h => h)
              clear hK K
              (try dsimp only [Act.put]); try simp only [Act.put, List.setIfInBounds_toArray, List.set_cons_zero, List.set_cons_succ]
              refine wpAnyH_ready (rs := [5]) (by kernel_rfl) (by simp) ?_
              refine AllReadyH.cons rfl (fun K hK => ?_) ?_
              · go_simp
                generalize hw : World.alloc u2 _ = u3
                have hg : Frm noB u2 u3 := by rw [← hw]; exact (Frm.refl noB u2).alloc _
                have HT3 := Lib.hid (HT2.out.trans hg)
                have rB1_3 := Lib.hid (rB1_2.out.frm hg (fun h => h))
                have rE_3 := Lib.hid (rE_2.out.frm hg (fun b hb e => e))
                have hz3 := hg.size
                have rL_3 := Lib.hid (show Blk u3 u2.heap.size #[.string xn, .int .i64 x1, .int .i64 x2, .int .i64 x3, .bool x4, .int .i64 x5] 39 by rw [← hw]; exact Blk.made u2 _ _)
                have hl3 : u2.heap.size < u3.heap.size := by rw [← hw]; simp
                clear hg hw
                refine hK.out _ _ ?_ (fun hHeld => ?_)
                · exact HB2.out.frm HT3.out (fun h => h)
                clear hK K
                (try dsimp only [Act.put]); try simp only [Act.put, List.setIfInBounds_toArray, List.set_cons_zero, List.set_cons_succ]
                refine wpAnyH_ready (rs := [6]) (by kernel_rfl) (by simp) ?_
                refine AllReadyH.cons rfl (fun K hK => ?_) ?_
                · rw [if_pos (by rfl)]
                  obtain ⟨iq, hiq, hz9, h19, h29⟩ := info_parts info_spn
                  have hlo := fun k e => (rE_3.out.lt k e).1
                  refine wp_app1g spnE _ _ _ 27 (by rfl) wc.heap.size 39 iq _ 56 Tryd.underlying27 hiq hz9 h19 h29 rfl (by decide) (by omega) _ _ (by rfl) rE_3.out X _ (by rfl) _ rL_3.out (by rw [HX.out]; rfl) (by simp; omega) (by omega) (fun v2 u4 ho hg hba hn0 => ?_)
                  have HT4 := Lib.hid (HT3.out.new hg (fun k hk e => by have e3 := hlo k e.symm; omega))
                  have rB1_4 := Lib.hid (rB1_3.out.frm hg (fun e => by have e3 := hlo _ e.symm; omega))
                  have hz4 := hg.size
                  have rE_4 := Lib.hid ho
                  clear ho hg hba hn0 hlo
                  change K (Act.put _ (some 44) _) _
                  refine hK.out _ _ ?_ (fun hHeld => ?_)
                  · exact HB2.out.frm HT4.out (fun h => h)
                  clear hK K
                  (try dsimp only [Act.put]); try simp only [Act.put, List.setIfInBounds_toArray, List.set_cons_zero, List.set_cons_succ]
                  refine takeD (i := 7) (some 45) (v := ?_) rfl rfl (by kernel_rfl) (by kernel_rfl) (by kernel_rfl) (fun _ _ _ h => h) (Or.inl ⟨by kernel_rfl, ?_⟩) (by assumption) ?_
                  rotate_left
                  · (intro w hSw; (try dsimp only at hSw); have hQ0 := (hSw.cell 0).trans (show _ = some (Value.string xn) from rfl); have hQ1 := (hSw.cell 1).trans (show _ = some (Value.int .i64 x1) from rfl); have hQ2 := (hSw.cell 2).trans (show _ = some (Value.int .i64 x2) from rfl); have hQ3 := (hSw.cell 3).trans (show _ = some (Value.int .i64 x3) from rfl); have hQ4 := (hSw.cell 4).trans (show _ = some (Value.bool x4) from rfl); have hQ5 := (hSw.cell 5).trans (show _ = some (Value.int .i64 x5) from rfl); go_simp; try (with_reducible rfl))
                  (try dsimp only [Act.put]); try simp only [Act.put, List.setIfInBounds_toArray, List.set_cons_zero, List.set_cons_succ]
                  refine wpAnyH_ready (rs := [8]) (by kernel_rfl) (by simp) ?_
                  refine AllReadyH.cons rfl (fun K hK => ?_) ?_
                  · obtain ⟨ga, gc, hvs, _⟩ := rE_4.out.shape
                    obtain ⟨gn, hvn⟩ : ∃ n, n = (([] ++ nowL mm L X) ++ [X]).length := ⟨_, rfl⟩
                    rw [← hvn] at hvs
                    subst hvs
                    clear hvn
                    have hq := rB1_4.out
                    have q2 := hq.cell 3
                    dsimp at q2
                    have qy := hq.free 3
                    have ql := hq.lt
                    go_simp
                    generalize hw : World.setCell u4 _ _ = u5
                    have hs : Blk u5 w.heap.size #[.int .i64 (mm : Int), .int .i64 p, .int .i64 s, .slice ga gn gc] 29 := by rw [← hw]; exact hq.set 3 _
                    have hg : Frm (oneB (w.heap.size)) u4 u5 := by rw [← hw]; exact (Frm.refl _ _).setOne _ _
                    have HTL := Lib.hid ((HT4.out.mono (fun _ _ h => h.elim)).trans hg)
                    have rE_5 := Lib.hid (rE_4.out.frm hg (fun b hb e => by have e3 := (rE_4.out.lt b hb).1; have e2 := (show _ = _ from e); omega))
                    have rB1_5 := Lib.hid hs
                    clear hs hg hw hq q2 qy ql
                    refine hK.out _ _ ?_ (fun hHeld => ?_)
                    · exact HB2.out.frm HTL.out (fun e => by have e2 : w.heap.size + 1 = w.heap.size := e; omega)
                    clear hK K
                    (try dsimp only [Act.put]); try simp only [Act.put, List.setIfInBounds_toArray, List.set_cons_zero, List.set_cons_succ]
                    refine wpAnyH_done (by kernel_rfl) ?_ _
                    refine NoPanic.normal ?_
                    go_wp2_with fail
                    go_meet
                    exact ⟨ga, gn, gc, rB1_5.out, rE_5.out, HTL.out⟩
                  exact AllReadyH.nil
                exact AllReadyH.nil
              exact AllReadyH.nil
            refine AllReadyH.cons rfl (fun K hK => ?_) ?_
            · go_simp
              generalize hw : World.alloc u1 _ = u2
              have hg : Frm noB u1 u2 := by rw [← hw]; exact (Frm.refl noB u1).alloc _
              have HT2 := Lib.hid (HT1.out.trans hg)
              have rB1_2 := Lib.hid (rB1_1.out.frm hg (fun h => h))
              have rE_2 := Lib.hid (rE_1.out.frm hg (fun b hb e => e))
              have hz2 := hg.size
              have rL_2 := Lib.hid (show Blk u2 u1.heap.size #[.string xn, .int .i64 x1, .int .i64 x2, .int .i64 x3, .bool x4, .int .i64 x5] 39 by rw [← hw]; exact Blk.made u1 _ _)
              have hl2 : u1.heap.size < u2.heap.size := by rw [← hw]; simp
              clear hg hw
              refine hK.out _ _ ?_ (fun hHeld => ?_)
              · exact HB2.out.frm HT2.out (fun h => h)
              clear hK K
              (try dsimp only [Act.put]); try simp only [Act.put, List.setIfInBounds_toArray, List.set_cons_zero, List.set_cons_succ]
              refine wpAnyH_ready (rs := [3]) (by kernel_rfl) (by simp) ?_
              refine AllReadyH.cons rfl (fun K hK => ?_) ?_
              · rw [if_pos (by rfl)]
                obtain ⟨iq, hiq, hz9, h19, h29⟩ := info_parts info_spn
                refine wp_appR spnE _ _ _ 27 (by rfl) wc.heap.size 39 iq _ 56 Tryd.underlying27 hiq hz9 h19 h29 rfl (by decide) (by omega) _ _ (by rfl) rE_2.out ya yn yc (nowL mm L X) (by rfl) (Hrd.out.keep HT2.out) Hrsp.out (by simp; omega) (by omega) (fun v1 u3 ho hg hba => ?_)
                have HT3 := Lib.hid (HT2.out.new hg (fun k hk e => by have e2 : k = u0.heap.size := Option.some.inj e; omega))
                have rB1_3 := Lib.hid (rB1_2.out.frm hg (fun e => by have e2 : w.heap.size = u0.heap.size := Option.some.inj e; omega))
                have rL_3 := Lib.hid (rL_2.out.frm hg (fun e => by have e2 : u1.heap.size = u0.heap.size := Option.some.inj e; omega))
                have hz3 := hg.size
                have rE_3 := Lib.hid ho
                clear ho hg hba
                change K (Act.put _ (some 41) _) _
                refine hK.out _ _ ?_ (fun hHeld => ?_)
                · exact HB2.out.frm HT3.out (fun h => h)
                clear hK K
                (try dsimp only [Act.put]); try simp only [Act.put, List.setIfInBounds_toArray, List.set_cons_zero, List.set_cons_succ]
                refine wpAnyH_ready (rs := [6]) (by kernel_rfl) (by simp) ?_
                refine AllReadyH.cons rfl (fun K hK => ?_) ?_
                · rw [if_pos (by rfl)]
                  obtain ⟨iq, hiq, hz9, h19, h29⟩ := info_parts info_spn
                  have hlo := fun k e => (rE_3.out.lt k e).1
                  refine wp_app1g spnE _ _ _ 27 (by rfl) wc.heap.size 39 iq _ 56 Tryd.underlying27 hiq hz9 h19 h29 rfl (by decide) (by omega) _ _ (by rfl) rE_3.out X _ (by rfl) _ rL_3.out (by rw [HX.out]; rfl) (by simp; omega) (by omega) (fun v2 u4 ho hg hba hn0 => ?_)
                  have HT4 := Lib.hid (HT3.out.new hg (fun k hk e => by have e3 := hlo k e.symm; omega))
                  have rB1_4 := Lib.hid (rB1_3.out.frm hg (fun e => by have e3 := hlo _ e.symm; omega))
                  have hz4 := hg.size
                  have rE_4 := Lib.hid ho
                  clear ho hg hba hn0 hlo
                  change K (Act.put _ (some 44) _) _
                  refine hK.out _ _ ?_ (fun hHeld => ?_)
                  · exact HB2.out.frm HT4.out (fun h => h)
                  clear hK K
                  (try dsimp only [Act.put]); try simp only [Act.put, List.setIfInBounds_toArray, List.set_cons_zero, List.set_cons_succ]
                  refine takeD (i := 7) (some 45) (v := ?_) rfl rfl (by kernel_rfl) (by kernel_rfl) (by kernel_rfl) (fun _ _ _ h => h) (Or.inl ⟨by kernel_rfl, ?_⟩) (by assumption) ?_
                  rotate_left
                  · (intro w hSw; (try dsimp only at hSw); have hQ0 := (hSw.cell 0).trans (show _ = some (Value.string xn) from rfl); have hQ1 := (hSw.cell 1).trans (show _ = some (Value.int .i64 x1) from rfl); have hQ2 := (hSw.cell 2).trans (show _ = some (Value.int .i64 x2) from rfl); have hQ3 := (hSw.cell 3).trans (show _ = some (Value.int .i64 x3) from rfl); have hQ4 := (hSw.cell 4).trans (show _ = some (Value.bool x4) from rfl); have hQ5 := (hSw.cell 5).trans (show _ = some (Value.int .i64 x5) from rfl); go_simp; try (with_reducible rfl))
                  (try dsimp only [Act.put]); try simp only [Act.put, List.setIfInBounds_toArray, List.set_cons_zero, List.set_cons_succ]
                  refine wpAnyH_ready (rs := [8]) (by kernel_rfl) (by simp) ?_
                  refine AllReadyH.cons rfl (fun K hK => ?_) ?_
                  · obtain ⟨ga, gc, hvs, _⟩ := rE_4.out.shape
                    obtain ⟨gn, hvn⟩ : ∃ n, n = (([] ++ nowL mm L X) ++ [X]).length := ⟨_, rfl⟩
                    rw [← hvn] at hvs
                    subst hvs
                    clear hvn
                    have hq := rB1_4.out
                    have q2 := hq.cell 3
                    dsimp at q2
                    have qy := hq.free 3
                    have ql := hq.lt
                    go_simp
                    generalize hw : World.setCell u4 _ _ = u5
                    have hs : Blk u5 w.heap.size #[.int .i64 (mm : Int), .int .i64 p, .int .i64 s, .slice ga gn gc] 29 := by rw [← hw]; exact hq.set 3 _
                    have hg : Frm (oneB (w.heap.size)) u4 u5 := by rw [← hw]; exact (Frm.refl _ _).setOne _ _
                    have HTL := Lib.hid ((HT4.out.mono (fun _ _ h => h.elim)).trans hg)
                    have rE_5 := Lib.hid (rE_4.out.frm hg (fun b hb e => by have e3 := (rE_4.out.lt b hb).1; have e2 := (show _ = _ from e); omega))
                    have rB1_5 := Lib.hid hs
                    clear hs hg hw hq q2 qy ql
                    refine hK.out _ _ ?_ (fun hHeld => ?_)
                    · exact HB2.out.frm HTL.out (fun e => by have e2 : w.heap.size + 1 = w.heap.size := e; omega)
                    clear hK K
                    (try dsimp only [Act.put]); try simp only [Act.put, List.setIfInBounds_toArray, List.set_cons_zero, List.set_cons_succ]
                    refine wpAnyH_done (by kernel_rfl) ?_ _
                    refine NoPanic.normal ?_
                    go_wp2_with fail
                    go_meet
                    exact ⟨ga, gn, gc, rB1_5.out, rE_5.out, HTL.out⟩
                  exact AllReadyH.nil
                exact AllReadyH.nil
              exact AllReadyH.nil
            exact AllReadyH.nil
          refine AllReadyH.cons rfl (fun K hK => ?_) ?_
          · go_simp
            generalize hw : World.alloc u0 _ = u1
            have hg : Frm noB u0 u1 := by rw [← hw]; exact (Frm.refl noB u0).alloc _
            have HT1 := Lib.hid (HT0.out.trans hg)
            have rB1_1 := Lib.hid (rB1_0.out.frm hg (fun h => h))
            have hz1 := hg.size
            have rL_1 := Lib.hid (show Blk u1 u0.heap.size #[.string xn, .int .i64 x1, .int .i64 x2, .int .i64 x3, .bool x4, .int .i64 x5] 39 by rw [← hw]; exact Blk.made u0 _ _)
            have hl1 : u0.heap.size < u1.heap.size := by rw [← hw]; simp
            clear hg hw
            refine hK.out _ _ ?_ (fun hHeld => ?_)
            · exact HB2.out.frm HT1.out (fun h => h)
            clear hK K
            (try dsimp only [Act.put]); try simp only [Act.put, List.setIfInBounds_toArray, List.set_cons_zero, List.set_cons_succ]
            refine wpAnyH_ready (rs := [0]) (by kernel_rfl) (by simp) ?_
            refine AllReadyH.cons rfl (fun K hK => ?_) ?_
            · go_simp
              generalize hw : World.alloc u1 _ = u2
              have hg : Frm noB u1 u2 := by rw [← hw]; exact (Frm.refl noB u1).alloc _
              have HT2 := Lib.hid (HT1.out.trans hg)
              have rB1_2 := Lib.hid (rB1_1.out.frm hg (fun h => h))
              have rL_2 := Lib.hid (rL_1.out.frm hg (fun h => h))
              have hz2 := hg.size
              have rE_2 := Lib.hid (show Own spnE u2 wc.heap.size 39 (.slice (some ⟨u1.heap.size, 0, none⟩) 0 0) [] by rw [← hw]; exact own_lit spnE u1 39 [] _ rfl 0 rfl _ (by omega) (by omega))
              have hl2 : u1.heap.size < u2.heap.size := by rw [← hw]; simp
              clear hg hw
              refine hK.out _ _ ?_ (fun hHeld => ?_)
              · exact HB2.out.frm HT2.out (fun h => h)
              clear hK K
              (try dsimp only [Act.put]); try simp only [Act.put, List.setIfInBounds_toArray, List.set_cons_zero, List.set_cons_succ]
              refine wpAnyH_ready (rs := [3]) (by kernel_rfl) (by simp) ?_
              refine AllReadyH.cons rfl (fun K hK => ?_) ?_
              · rw [if_pos (by rfl)]
                obtain ⟨iq, hiq, hz9, h19, h29⟩ := info_parts info_spn
                refine wp_appR spnE _ _ _ 27 (by rfl) wc.heap.size 39 iq _ 56 Tryd.underlying27 hiq hz9 h19 h29 rfl (by decide) (by omega) _ _ (by rfl) rE_2.out ya yn yc (nowL mm L X) (by rfl) (Hrd.out.keep HT2.out) Hrsp.out (by simp; omega) (by omega) (fun v1 u3 ho hg hba => ?_)
                have HT3 := Lib.hid (HT2.out.new hg (fun k hk e => by have e2 : k = u1.heap.size := Option.some.inj e; omega))
                have rB1_3 := Lib.hid (rB1_2.out.frm hg (fun e => by have e2 : w.heap.size = u1.heap.size := Option.some.inj e; omega))
                have rL_3 := Lib.hid (rL_2.out.frm hg (fun e => by have e2 : u0.heap.size = u1.heap.size := Option.some.inj e; omega))
                have hz3 := hg.size
                have rE_3 := Lib.hid ho
                clear ho hg hba
                change K (Act.put _ (some 41) _) _
                refine hK.out _ _ ?_ (fun hHeld => ?_)
                · exact HB2.out.frm HT3.out (fun h => h)
                clear hK K
                (try dsimp only [Act.put]); try simp only [Act.put, List.setIfInBounds_toArray, List.set_cons_zero, List.set_cons_succ]
                refine wpAnyH_ready (rs := [6]) (by kernel_rfl) (by simp) ?_
                refine AllReadyH.cons rfl (fun K hK => ?_) ?_
                · rw [if_pos (by rfl)]
                  obtain ⟨iq, hiq, hz9, h19, h29⟩ := info_parts info_spn
                  have hlo := fun k e => (rE_3.out.lt k e).1
                  refine wp_app1g spnE _ _ _ 27 (by rfl) wc.heap.size 39 iq _ 56 Tryd.underlying27 hiq hz9 h19 h29 rfl (by decide) (by omega) _ _ (by rfl) rE_3.out X _ (by rfl) _ rL_3.out (by rw [HX.out]; rfl) (by simp; omega) (by omega) (fun v2 u4 ho hg hba hn0 => ?_)
                  have HT4 := Lib.hid (HT3.out.new hg (fun k hk e => by have e3 := hlo k e.symm; omega))
                  have rB1_4 := Lib.hid (rB1_3.out.frm hg (fun e => by have e3 := hlo _ e.symm; omega))
                  have hz4 := hg.size
                  have rE_4 := Lib.hid ho
                  clear ho hg hba hn0 hlo
                  change K (Act.put _ (some 44) _) _
                  refine hK.out _ _ ?_ (fun hHeld => ?_)
                  · exact HB2.out.frm HT4.out (fun h => h)
                  clear hK K
                  (try dsimp only [Act.put]); try simp only [Act.put, List.setIfInBounds_toArray, List.set_cons_zero, List.set_cons_succ]
                  refine takeD (i := 7) (some 45) (v := ?_) rfl rfl (by kernel_rfl) (by kernel_rfl) (by kernel_rfl) (fun _ _ _ h => h) (Or.inl ⟨by kernel_rfl, ?_⟩) (by assumption) ?_
                  rotate_left
                  · (intro w hSw; (try dsimp only at hSw); have hQ0 := (hSw.cell 0).trans (show _ = some (Value.string xn) from rfl); have hQ1 := (hSw.cell 1).trans (show _ = some (Value.int .i64 x1) from rfl); have hQ2 := (hSw.cell 2).trans (show _ = some (Value.int .i64 x2) from rfl); have hQ3 := (hSw.cell 3).trans (show _ = some (Value.int .i64 x3) from rfl); have hQ4 := (hSw.cell 4).trans (show _ = some (Value.bool x4) from rfl); have hQ5 := (hSw.cell 5).trans (show _ = some (Value.int .i64 x5) from rfl); go_simp; try (with_reducible rfl))
                  (try dsimp only [Act.put]); try simp only [Act.put, List.setIfInBounds_toArray, List.set_cons_zero, List.set_cons_succ]
                  refine wpAnyH_ready (rs := [8]) (by kernel_rfl) (by simp) ?_
                  refine AllReadyH.cons rfl (fun K hK => ?_) ?_
                  · obtain ⟨ga, gc, hvs, _⟩ := rE_4.out.shape
                    obtain ⟨gn, hvn⟩ : ∃ n, n = (([] ++ nowL mm L X) ++ [X]).length := ⟨_, rfl⟩
                    rw [← hvn] at hvs
                    subst hvs
                    clear hvn
                    have hq := rB1_4.out
                    have q2 := hq.cell 3
                    dsimp at q2
                    have qy := hq.free 3
                    have ql := hq.lt
                    go_simp
                    generalize hw : World.setCell u4 _ _ = u5
                    have hs : Blk u5 w.heap.size #[.int .i64 (mm : Int), .int .i64 p, .int .i64 s, .slice ga gn gc] 29 := by rw [← hw]; exact hq.set 3 _
                    have hg : Frm (oneB (w.heap.size)) u4 u5 := by rw [← hw]; exact (Frm.refl _ _).setOne _ _
                    have HTL := Lib.hid ((HT4.out.mono (fun _ _ h => h.elim)).trans hg)
                    have rE_5 := Lib.hid (rE_4.out.frm hg (fun b hb e => by have e3 := (rE_4.out.lt b hb).1; have e2 := (show _ = _ from e); omega))
                    have rB1_5 := Lib.hid hs
                    clear hs hg hw hq q2 qy ql
                    refine hK.out _ _ ?_ (fun hHeld => ?_)
                    · exact HB2.out.frm HTL.out (fun e => by have e2 : w.heap.size + 1 = w.heap.size := e; omega)
                    clear hK K
                    (try dsimp only [Act.put]); try simp only [Act.put, List.setIfInBounds_toArray, List.set_cons_zero, List.set_cons_succ]
                    refine wpAnyH_done (by kernel_rfl) ?_ _
                    refine NoPanic.normal ?_
                    go_wp2_with fail
                    go_meet
                    exact ⟨ga, gn, gc, rB1_5.out, rE_5.out, HTL.out⟩
                  exact AllReadyH.nil
                exact AllReadyH.nil
              exact AllReadyH.nil
            exact AllReadyH.nil
          exact AllReadyH.nil
        refine AllReadyH.cons rfl (fun K hK => ?_) ?_
        · go_simp
          generalize hw : World.alloc u0 _ = u1
          have hg : Frm noB u0 u1 := by rw [← hw]; exact (Frm.refl noB u0).alloc _
          have HT1 := Lib.hid (HT0.out.trans hg)
          have rB1_1 := Lib.hid (rB1_0.out.frm hg (fun h => h))
          have hz1 := hg.size
          have rL_1 := Lib.hid (show Blk u1 u0.heap.size #[.string xn, .int .i64 x1, .int .i64 x2, .int .i64 x3, .bool x4, .int .i64 x5] 39 by rw [← hw]; exact Blk.made u0 _ _)
          have hl1 : u0.heap.size < u1.heap.size := by rw [← hw]; simp
          clear hg hw
          refine hK.out _ _ ?_ (fun hHeld => ?_)
          · exact HB2.out.frm HT1.out (fun h => h)
          clear hK K
          (try dsimp only [Act.put]); try simp only [Act.put, List.setIfInBounds_toArray, List.set_cons_zero, List.set_cons_succ]
          refine wpAnyH_ready (rs := [0, 2]) (by kernel_rfl) (by simp) ?_
          refine AllReadyH.cons rfl (fun K hK => ?_) ?_
          · go_simp
            generalize hw : World.alloc u1 _ = u2
            have hg : Frm noB u1 u2 := by rw [← hw]; exact (Frm.refl noB u1).alloc _
            have HT2 := Lib.hid (HT1.out.trans hg)
            have rB1_2 := Lib.hid (rB1_1.out.frm hg (fun h => h))
            have rL_2 := Lib.hid (rL_1.out.frm hg (fun h => h))
            have hz2 := hg.size
            have rE_2 := Lib.hid (show Own spnE u2 wc.heap.size 39 (.slice (some ⟨u1.heap.size, 0, none⟩) 0 0) [] by rw [← hw]; exact own_lit spnE u1 39 [] _ rfl 0 rfl _ (by omega) (by omega))
            have hl2 : u1.heap.size < u2.heap.size := by rw [← hw]; simp
            clear hg hw
            refine hK.out _ _ ?_ (fun hHeld => ?_)
            · exact HB2.out.frm HT2.out (fun h => h)
            clear hK K
            (try dsimp only [Act.put]); try simp only [Act.put, List.setIfInBounds_toArray, List.set_cons_zero, List.set_cons_succ]
            refine wpAnyH_ready (rs := [2]) (by kernel_rfl) (by simp) ?_
            refine AllReadyH.cons rfl (fun K hK => ?_) ?_
            · have qc := rB1_2.out.cell 3
              have ql := rB1_2.out.lt
              simp at qc
              go_simp
              clear qc ql
              refine hK.out _ _ ?_ (fun hHeld => ?_)
              · exact HB2.out.frm HT2.out (fun h => h)
              clear hK K
              (try dsimp only [Act.put]); try simp only [Act.put, List.setIfInBounds_toArray, List.set_cons_zero, List.set_cons_succ]
              refine wpAnyH_ready (rs := [3]) (by kernel_rfl) (by simp) ?_
              refine AllReadyH.cons rfl (fun K hK => ?_) ?_
              · rw [if_pos (by rfl)]
                obtain ⟨iq, hiq, hz9, h19, h29⟩ := info_parts info_spn
                refine wp_appR spnE _ _ _ 27 (by rfl) wc.heap.size 39 iq _ 56 Tryd.underlying27 hiq hz9 h19 h29 rfl (by decide) (by omega) _ _ (by rfl) rE_2.out ya yn yc (nowL mm L X) (by rfl) (Hrd.out.keep HT2.out) Hrsp.out (by simp; omega) (by omega) (fun v1 u3 ho hg hba => ?_)
                have HT3 := Lib.hid (HT2.out.new hg (fun k hk e => by have e2 : k = u1.heap.size := Option.some.inj e; omega))
                have rB1_3 := Lib.hid (rB1_2.out.frm hg (fun e => by have e2 : w.heap.size = u1.heap.size := Option.some.inj e; omega))
                have rL_3 := Lib.hid (rL_2.out.frm hg (fun e => by have e2 : u0.heap.size = u1.heap.size := Option.some.inj e; omega))
                have hz3 := hg.size
                have rE_3 := Lib.hid ho
                clear ho hg hba
                change K (Act.put _ (some 41) _) _
                refine hK.out _ _ ?_ (fun hHeld => ?_)
                · exact HB2.out.frm HT3.out (fun h => h)
                clear hK K
                (try dsimp only [Act.put]); try simp only [Act.put, List.setIfInBounds_toArray, List.set_cons_zero, List.set_cons_succ]
                refine wpAnyH_ready (rs := [6]) (by kernel_rfl) (by simp) ?_
                refine AllReadyH.cons rfl (fun K hK => ?_) ?_
                · rw [if_pos (by rfl)]
                  obtain ⟨iq, hiq, hz9, h19, h29⟩ := info_parts info_spn
                  have hlo := fun k e => (rE_3.out.lt k e).1
                  refine wp_app1g spnE _ _ _ 27 (by rfl) wc.heap.size 39 iq _ 56 Tryd.underlying27 hiq hz9 h19 h29 rfl (by decide) (by omega) _ _ (by rfl) rE_3.out X _ (by rfl) _ rL_3.out (by rw [HX.out]; rfl) (by simp; omega) (by omega) (fun v2 u4 ho hg hba hn0 => ?_)
                  have HT4 := Lib.hid (HT3.out.new hg (fun k hk e => by have e3 := hlo k e.symm; omega))
                  have rB1_4 := Lib.hid (rB1_3.out.frm hg (fun e => by have e3 := hlo _ e.symm; omega))
                  have hz4 := hg.size
                  have rE_4 := Lib.hid ho
                  clear ho hg hba hn0 hlo
                  change K (Act.put _ (some 44) _) _
                  refine hK.out _ _ ?_ (fun hHeld => ?_)
                  · exact HB2.out.frm HT4.out (fun h => h)
                  clear hK K
                  (try dsimp only [Act.put]); try simp only [Act.put, List.setIfInBounds_toArray, List.set_cons_zero, List.set_cons_succ]
                  refine takeD (i := 7) (some 45) (v := ?_) rfl rfl (by kernel_rfl) (by kernel_rfl) (by kernel_rfl) (fun _ _ _ h => h) (Or.inl ⟨by kernel_rfl, ?_⟩) (by assumption) ?_
                  rotate_left
                  · (intro w hSw; (try dsimp only at hSw); have hQ0 := (hSw.cell 0).trans (show _ = some (Value.string xn) from rfl); have hQ1 := (hSw.cell 1).trans (show _ = some (Value.int .i64 x1) from rfl); have hQ2 := (hSw.cell 2).trans (show _ = some (Value.int .i64 x2) from rfl); have hQ3 := (hSw.cell 3).trans (show _ = some (Value.int .i64 x3) from rfl); have hQ4 := (hSw.cell 4).trans (show _ = some (Value.bool x4) from rfl); have hQ5 := (hSw.cell 5).trans (show _ = some (Value.int .i64 x5) from rfl); go_simp; try (with_reducible rfl))
                  (try dsimp only [Act.put]); try simp only [Act.put, List.setIfInBounds_toArray, List.set_cons_zero, List.set_cons_succ]
                  refine wpAnyH_ready (rs := [8]) (by kernel_rfl) (by simp) ?_
                  refine AllReadyH.cons rfl (fun K hK => ?_) ?_
                  · obtain ⟨ga, gc, hvs, _⟩ := rE_4.out.shape
                    obtain ⟨gn, hvn⟩ : ∃ n, n = (([] ++ nowL mm L X) ++ [X]).length := ⟨_, rfl⟩
                    rw [← hvn] at hvs
                    subst hvs
                    clear hvn
                    have hq := rB1_4.out
                    have q2 := hq.cell 3
                    dsimp at q2
                    have qy := hq.free 3
                    have ql := hq.lt
                    go_simp
                    generalize hw : World.setCell u4 _ _ = u5
                    have hs : Blk u5 w.heap.size #[.int .i64 (mm : Int), .int .i64 p, .int .i64 s, .slice ga gn gc] 29 := by rw [← hw]; exact hq.set 3 _
                    have hg : Frm (oneB (w.heap.size)) u4 u5 := by rw [← hw]; exact (Frm.refl _ _).setOne _ _
                    have HTL := Lib.hid ((HT4.out.mono (fun _ _ h => h.elim)).trans hg)
                    have rE_5 := Lib.hid (rE_4.out.frm hg (fun b hb e => by have e3 := (rE_4.out.lt b hb).1; have e2 := (show _ = _ from e); omega))
                    have rB1_5 := Lib.hid hs
                    clear hs hg hw hq q2 qy ql
                    refine hK.out _ _ ?_ (fun hHeld => ?_)
                    · exact HB2.out.frm HTL.out (fun e => by have e2 : w.heap.size + 1 = w.heap.size := e; omega)
                    clear hK K
                    (try dsimp only [Act.put]); try simp only [Act.put, List.setIfInBounds_toArray, List.set_cons_zero, List.set_cons_succ]
                    refine wpAnyH_done (by kernel_rfl) ?_ _
                    refine NoPanic.normal ?_
                    go_wp2_with fail
                    go_meet
                    exact ⟨ga, gn, gc, rB1_5.out, rE_5.out, HTL.out⟩
                  exact AllReadyH.nil
                exact AllReadyH.nil
              exact AllReadyH.nil
            exact AllReadyH.nil
          refine AllReadyH.cons rfl (fun K hK => ?_) ?_
          · have qc := rB1_1.out.cell 3
            have ql := rB1_1.out.lt
            simp at qc
            go_simp
            clear qc ql
            refine hK.out _ _ ?_ (fun hHeld => ?_)
            · exact HB2.out.frm HT1.out (fun h => h)
            clear hK K
            (try dsimp only [Act.put]); try simp only [Act.put, List.setIfInBounds_toArray, List.set_cons_zero, List.set_cons_succ]
            refine wpAnyH_ready (rs := [0]) (by kernel_rfl) (by simp) ?_
            refine AllReadyH.cons rfl (fun K hK => ?_) ?_
            · go_simp
              generalize hw : World.alloc u1 _ = u2
              have hg : Frm noB u1 u2 := by rw [← hw]; exact (Frm.refl noB u1).alloc _
              have HT2 := Lib.hid (HT1.out.trans hg)
              have rB1_2 := Lib.hid (rB1_1.out.frm hg (fun h => h))
              have rL_2 := Lib.hid (rL_1.out.frm hg (fun h => h))
              have hz2 := hg.size
              have rE_2 := Lib.hid (show Own spnE u2 wc.heap.size 39 (.slice (some ⟨u1.heap.size, 0, none⟩) 0 0) [] by rw [← hw]; exact own_lit spnE u1 39 [] _ rfl 0 rfl _ (by omega) (by omega))
              have hl2 : u1.heap.size < u2.heap.size := by rw [← hw]; simp
              clear hg hw
              refine hK.out _ _ ?_ (fun hHeld => ?_)
              · exact HB2.out.frm HT2.out (fun h => h)
              clear hK K
              (try dsimp only [Act.put]); try simp only [Act.put, List.setIfInBounds_toArray, List.set_cons_zero, List.set_cons_succ]
              refine wpAnyH_ready (rs := [3]) (by kernel_rfl) (by simp) ?_
              refine AllReadyH.cons rfl (fun K hK => ?_) ?_
              · rw [if_pos (by rfl)]
                obtain ⟨iq, hiq, hz9, h19, h29⟩ := info_parts info_spn
                refine wp_appR spnE _ _ _ 27 (by rfl) wc.heap.size 39 iq _ 56 Tryd.underlying27 hiq hz9 h19 h29 rfl (by decide) (by omega) _ _ (by rfl) rE_2.out ya yn yc (nowL mm L X) (by rfl) (Hrd.out.keep HT2.out) Hrsp.out (by simp; omega) (by omega) (fun v1 u3 ho hg hba => ?_)
                have HT3 := Lib.hid (HT2.out.new hg (fun k hk e => by have e2 : k = u1.heap.size := Option.some.inj e; omega))
                have rB1_3 := Lib.hid (rB1_2.out.frm hg (fun e => by have e2 : w.heap.size = u1.heap.size := Option.some.inj e; omega))
                have rL_3 := Lib.hid (rL_2.out.frm hg (fun e => by have e2 : u0.heap.size = u1.heap.size := Option.some.inj e; omega))
                have hz3 := hg.size
                have rE_3 := Lib.hid ho
                clear ho hg hba
                change K (Act.put _ (some 41) _) _
                refine hK.out _ _ ?_ (fun hHeld => ?_)
                · exact HB2.out.frm HT3.out (fun h => h)
                clear hK K
                (try dsimp only [Act.put]); try simp only [Act.put, List.setIfInBounds_toArray, List.set_cons_zero, List.set_cons_succ]
                refine wpAnyH_ready (rs := [6]) (by kernel_rfl) (by simp) ?_
                refine AllReadyH.cons rfl (fun K hK => ?_) ?_
                · rw [if_pos (by rfl)]
                  obtain ⟨iq, hiq, hz9, h19, h29⟩ := info_parts info_spn
                  have hlo := fun k e => (rE_3.out.lt k e).1
                  refine wp_app1g spnE _ _ _ 27 (by rfl) wc.heap.size 39 iq _ 56 Tryd.underlying27 hiq hz9 h19 h29 rfl (by decide) (by omega) _ _ (by rfl) rE_3.out X _ (by rfl) _ rL_3.out (by rw [HX.out]; rfl) (by simp; omega) (by omega) (fun v2 u4 ho hg hba hn0 => ?_)
                  have HT4 := Lib.hid (HT3.out.new hg (fun k hk e => by have e3 := hlo k e.symm; omega))
                  have rB1_4 := Lib.hid (rB1_3.out.frm hg (fun e => by have e3 := hlo _ e.symm; omega))
                  have hz4 := hg.size
                  have rE_4 := Lib.hid ho
                  clear ho hg hba hn0 hlo
                  change K (Act.put _ (some 44) _) _
                  refine hK.out _ _ ?_ (fun hHeld => ?_)
                  · exact HB2.out.frm HT4.out (fun h => h)
                  clear hK K
                  (try dsimp only [Act.put]); try simp only [Act.put, List.setIfInBounds_toArray, List.set_cons_zero, List.set_cons_succ]
                  refine takeD (i := 7) (some 45) (v := ?_) rfl rfl (by kernel_rfl) (by kernel_rfl) (by kernel_rfl) (fun _ _ _ h => h) (Or.inl ⟨by kernel_rfl, ?_⟩) (by assumption) ?_
                  rotate_left
                  · (intro w hSw; (try dsimp only at hSw); have hQ0 := (hSw.cell 0).trans (show _ = some (Value.string xn) from rfl); have hQ1 := (hSw.cell 1).trans (show _ = some (Value.int .i64 x1) from rfl); have hQ2 := (hSw.cell 2).trans (show _ = some (Value.int .i64 x2) from rfl); have hQ3 := (hSw.cell 3).trans (show _ = some (Value.int .i64 x3) from rfl); have hQ4 := (hSw.cell 4).trans (show _ = some (Value.bool x4) from rfl); have hQ5 := (hSw.cell 5).trans (show _ = some (Value.int .i64 x5) from rfl); go_simp; try (with_reducible rfl))
                  (try dsimp only [Act.put]); try simp only [Act.put, List.setIfInBounds_toArray, List.set_cons_zero, List.set_cons_succ]
                  refine wpAnyH_ready (rs := [8]) (by kernel_rfl) (by simp) ?_
                  refine AllReadyH.cons rfl (fun K hK => ?_) ?_
                  · obtain ⟨ga, gc, hvs, _⟩ := rE_4.out.shape
                    obtain ⟨gn, hvn⟩ : ∃ n, n = (([] ++ nowL mm L X) ++ [X]).length := ⟨_, rfl⟩
                    rw [← hvn] at hvs
                    subst hvs
                    clear hvn
                    have hq := rB1_4.out
                    have q2 := hq.cell 3
                    dsimp at q2
                    have qy := hq.free 3
                    have ql := hq.lt
                    go_simp
                    generalize hw : World.setCell u4 _ _ = u5
                    have hs : Blk u5 w.heap.size #[.int .i64 (mm : Int), .int .i64 p, .int .i64 s, .slice ga gn gc] 29 := by rw [← hw]; exact hq.set 3 _
                    have hg : Frm (oneB (w.heap.size)) u4 u5 := by rw [← hw]; exact (Frm.refl _ _).setOne _ _
                    have HTL := Lib.hid ((HT4.out.mono (fun _ _ h => h.elim)).trans hg)
                    have rE_5 := Lib.hid (rE_4.out.frm hg (fun b hb e => by have e3 := (rE_4.out.lt b hb).1; have e2 := (show _ = _ from e); omega))
                    have rB1_5 := Lib.hid hs
                    clear hs hg hw hq q2 qy ql
                    refine hK.out _ _ ?_ (fun hHeld => ?_)
                    · exact HB2.out.frm HTL.out (fun e => by have e2 : w.heap.size + 1 = w.heap.size := e; omega)
                    clear hK K
                    (try dsimp only [Act.put]); try simp only [Act.put, List.setIfInBounds_toArray, List.set_cons_zero, List.set_cons_succ]
                    refine wpAnyH_done (by kernel_rfl) ?_ _
                    refine NoPanic.normal ?_
                    go_wp2_with fail
                    go_meet
                    exact ⟨ga, gn, gc, rB1_5.out, rE_5.out, HTL.out⟩
                  exact AllReadyH.nil
                exact AllReadyH.nil
              exact AllReadyH.nil
            exact AllReadyH.nil
          exact AllReadyH.nil
        exact AllReadyH.nil
      case rest =>
        obtain ⟨ga, gn, gc, hB15, ho5, hf5⟩ := hcut
        have hB35 := HB3.out.frm hf5 (fun e => by have e2 : w.heap.size + 1 + 1 = w.heap.size := e; omega)
        have hg5 := Hgone.out.frm hf5 (fun i hi e => by have e2 : i = w.heap.size := e; have := (Hgone.out.lt i hi).1; omega)
        have hF5 := HFw.out.new hf5 (fun i hi e => by have e2 : i = w.heap.size := e; omega)
        have HB15 := Lib.hid hB15
        have Ho5 := Lib.hid ho5
        have Hf5 := Lib.hid hf5
        have HB35 := Lib.hid hB35
        have Hg5 := Lib.hid hg5
        have HF5 := Lib.hid hF5
        clear hB15 ho5 hf5 hB35 hg5 hF5
        go_wp2_with (first | (refine wpl_load_blk (by rfl) 29 _ (by rfl) _ (by rfl) _ _ (by exact HB15.out) _ Tryd.underlying29 (by rfl) (by exact info_T) ?_) | (refine wpl_store_blk (by rfl) 29 _ _ (by rfl) _ (by rfl) _ _ (by exact HB35.out) _ (by rfl) (by exact info_T) (by rfl) (by kernel_rfl) ?_; intro wz hRq hfq; refine Hid.out ?_))
        refine Lib.hid ?_
        go_wp2_with fail
        refine bodyPost_ret (radd_res _ _ _ _ _ _ rfl rfl hRq rfl) rfl ?_
        have e1 : ([] ++ nowL mm L X) ++ [X] = addL mm L X := by rw [List.nil_append]; exact Had.out.symm
        have ho6 := Ho5.out.frm hfq (fun i hi e => by have e2 : i = w.heap.size + 1 + 1 := e; have := (Ho5.out.lt i hi).1; omega)
        have hg6 := Hg5.out.frm hfq (fun i hi e => by have e2 : i = w.heap.size + 1 + 1 := e; have := (Hg5.out.lt i hi).1; omega)
        rw [e1] at ho6
        exact ⟨_, _, rfl, ho6.base hzw, hg6.base (by omega), HF5.out.new hfq (fun i hi e => by have e2 : i = w.heap.size + 1 + 1 := e; omega)⟩
end Go.Proofs.YtdamhohoeobfgaaDoor
