/- The walk of the statement SampleFails. -/
import Derived.Test.YtdamhohoeobfgaaDoorSamplePlain
import Derived.Test.YtdamhohoeobfgaaDoorIntsL
import Derived.Deep.DeepCutAuto
set_option linter.unusedVariables false
set_option linter.unusedSimpArgs false
namespace Go.Proofs.YtdamhohoeobfgaaDoor
open Go.RowKit

set_option maxRecDepth 100000 in
set_option maxHeartbeats 8000000 in
theorem sampleFails_walk (a0 : Int) (a1 : Option Addr) (len1 cap1 : Nat) (z1 : List Int) (a2 : Int) (a3 : Bool) (a4 : Int) (w : World) (w0 : (Lit.int .i64 a0).wf = true) (w1 : IsRow .i64 w a1 len1 cap1 z1) (w2 : (Lit.int .i64 a2).wf = true) (w4 : (Lit.int .i64 a4).wf = true) :
    Calls Tryd.prog 8 #[.int .i64 a0, .slice a1 len1 cap1, .int .i64 a2, .bool a3, .int .i64 a4] w fun e w' => e = .returned (.bool true) ∧ Below w.heap.size w w' := by
  obtain ⟨p0, p1⟩ := wf_i64 w0
  obtain ⟨q0, q1⟩ := wf_i64 w2
  obtain ⟨xs, hxs⟩ := w1.list
  have hlm := hxs.most
  have har := fun W => around_any a0 101 W p0 p1 (by omega) (by omega)
  have har2 := fun W => around_any a2 6 W q0 q1 (by omega) (by omega)
  have hp := around_lt a0 101 (by omega)
  have hq := around_lt a2 6 (by omega)
  generalize around a0 101 = p at *
  generalize around a2 6 = q at *
  obtain ⟨m, hm⟩ : ∃ m, m = min len1 20 := ⟨_, rfl⟩
  have Har := Lib.hid har
  have Har2 := Lib.hid har2
  have Hp := Lib.hid hp
  have Hq := Lib.hid hq
  have Hxs := Lib.hid hxs
  have Hm := Lib.hid hm
  have Hw1 := Lib.hid w1
  clear har har2 hp hq hxs hm w1
  go_enter Tryd.func8, Tryd.ntmps8
  go_wp2_with fail
  refine (Har.out _).mono ?_
  rintro e v0 ⟨rfl, rfl⟩
  go_wp2_with fail
  refine (Har2.out _).mono ?_
  rintro e v0 ⟨rfl, rfl⟩
  have hk5 : q < 6 := by have := Hq.out; omega
  go_wp2_with fail
  refine (TL.start 9 (p : Int) 10 w).mono ?_
  rintro e v1 ⟨b, O1, rfl, h1⟩
  have H1 := Lib.hid h1
  clear h1
  go_wp2_with fail
  go_loopw [14, 15] (fun al i wr => ∃ (j : Nat) (L : List Spn) (O : Nat → Prop), j ≤ m ∧ i = .int .i64 j ∧ L.length = j ∧ (∀ s ∈ L, SpanOk s) ∧ Own spnE wr w.heap.size 39 al L ∧ (∀ i, al.ownBlock = some i → ¬ O i) ∧ TL w wr b 9 (p : Int) 10 L (2 * j) O) (fun _ i _ => m - (intOf i).toNat)
  case atStart => exact ⟨0, [], O1, by omega, rfl, rfl, fun s h => (by cases h), Own.nil _ _ _ _, fun i hi => by simp [Value.ownBlock] at hi, H1.out⟩
  case round =>
    obtain ⟨j, L, O, hj, rfl, hLl, hok, hown, hao, htl⟩ := hrel
    have hj20 : j ≤ 20 := by have := Hm.out; omega
    have hjl : j ≤ len1 := by have := Hm.out; omega
    have HLl := Lib.hid hLl
    have Hok := Lib.hid hok
    have Hown := Lib.hid hown
    have Hao := Lib.hid hao
    have Htl := Lib.hid htl
    clear hLl hok hown hao htl
    go_upto_region 8 with fail
    go_cut [37] (fun s37 wx => s37 = .bool (decide (j < m)) ∧ wx = wr)
    case first =>
      have hm := Hm.out
      by_cases h1 : j < len1
      · by_cases h2 : j < 20
        · have hd : decide (j < m) = true := by rw [decide_eq_true_iff]; omega
          have g1 : (j : Int) < (len1 : Int) := by omega
          have g2 : (j : Int) < 20 := by omega
          have Hm := Lib.hid hm
          have Hd := Lib.hid hd
          clear hm hd
          go_wp2_with fail
          go_meet
          exact ⟨by rw [Hd.out], rfl⟩
        · have hd : decide (j < m) = false := by rw [decide_eq_false_iff_not]; omega
          have g1 : (j : Int) < (len1 : Int) := by omega
          have g2 : ¬ (j : Int) < 20 := by omega
          have Hm := Lib.hid hm
          have Hd := Lib.hid hd
          clear hm hd
          go_wp2_with fail
          go_meet
          exact ⟨by rw [Hd.out], rfl⟩
      · have hd : decide (j < m) = false := by rw [decide_eq_false_iff_not]; omega
        have g1 : ¬ (j : Int) < (len1 : Int) := by omega
        have Hm := Lib.hid hm
        have Hd := Lib.hid hd
        clear hm hd
        go_wp2_with fail
        go_meet
        exact ⟨by rw [Hd.out], rfl⟩
    case rest =>
      obtain ⟨rfl, rfl⟩ := hcut
      by_cases hlt : j < m
      · rw [show decide (j < m) = true from by rw [decide_eq_true_iff]; exact hlt]
        have hjl2 : j < len1 := by have := Hm.out; omega
        have hxw := Hxs.out.keep Htl.out.frm
        obtain ⟨z, hz⟩ := get_of_lt (l := xs) (j := j) (by rw [Hxs.out.len]; exact hjl2)
        obtain ⟨xb, xo, rfl, xl, xc⟩ := hxw.cells j z hz
        obtain ⟨zb0, zb1⟩ := Hxs.out.bd z (List.mem_of_getElem? hz)
        have hx := spanOf_ok (around z 1000000)
        have hcx := fun W => span_any z W zb0 zb1
        generalize spanOf (around z 1000000) = x at *
        have hnf := never_full Hok.out x
        have hoka := ok_app Hok.out hx
        have hlen : (L ++ [x]).length = j + 1 := by rw [List.length_append, HLl.out]; rfl
        have hsm : L.length ≤ 1000000 := by rw [HLl.out]; omega
        have j1 : (0 : Int) ≤ (j : Int) := by omega
        have j2 : (j : Int) < (len1 : Int) := by omega
        have Hxw := Lib.hid hxw
        have Hz := Lib.hid hz
        have Hx := Lib.hid hx
        have Hcx := Lib.hid hcx
        have Hnf := Lib.hid hnf
        have Hoka := Lib.hid hoka
        have Hlen := Lib.hid hlen
        have Hsm := Lib.hid hsm
        have Hlt := Lib.hid hlt
        have Hzb0 := Lib.hid zb0
        have Hzb1 := Lib.hid zb1
        clear hxw hz hx hcx hnf hoka hlen hsm hlt zb0 zb1
        go_wp2_with fail
        refine (Hcx.out _).mono ?_
        rintro e v2 ⟨rfl, hf2⟩
        have hfw : Frm noB w v2 := Htl.out.frm.trans hf2
        have htl2 := Htl.out.keep hf2
        have hown2 := Hown.out.keep hf2
        obtain ⟨X, hX⟩ : ∃ X, X = x := ⟨_, rfl⟩
        rw [← hX] at Hx Hnf Hoka Hlen
        obtain ⟨xn, x1, x2, x3, x4, x5⟩ := x
        have hVX : spnV X = .agg #[.string xn, .int .i64 x1, .int .i64 x2, .int .i64 x3, .bool x4, .int .i64 x5] := by rw [hX]; rfl
        unfold spnV
        have Hf2 := Lib.hid hf2
        have Hfw := Lib.hid hfw
        have Htl2 := Lib.hid htl2
        have Hown2 := Lib.hid hown2
        have HX := Lib.hid hX
        have HVX := Lib.hid hVX
        clear hf2 hfw htl2 hown2 hX hVX
        clear xc xl
        go_wp2_with (first | (refine wpl_store_new _ (by rfl) 39 _ _ (by rfl) _ (by rfl) (by first | rfl | simp) _ _ _ (by rfl) (by exact info_spz) (by rfl) (by kernel_rfl) ?_; refine Hid.out ?_))
        generalize hv3 : World.alloc v2 _ = v3
        have hb3 : Blk v3 v2.heap.size #[.string xn, .int .i64 x1, .int .i64 x2, .int .i64 x3, .bool x4, .int .i64 x5] 39 := by rw [← hv3]; exact Blk.made v2 _ _
        have hf3 : Frm noB v2 v3 := by rw [← hv3]; exact (Frm.refl noB v2).alloc _
        obtain ⟨B, hB⟩ : ∃ B, B = v2.heap.size := ⟨_, rfl⟩
        rw [← hB] at hb3 ⊢
        have hBO : ¬ O B := fun h => by have := Htl2.out.tail.lt _ h; omega
        have hBa : ∀ i, u14.ownBlock = some i → i ≠ B := fun i hi => by have := (Hown2.out.lt i hi).2; omega
        have htl3 := Htl2.out.keep hf3
        have hown3 := Hown2.out.keep hf3
        have hz3 : w.heap.size ≤ v3.heap.size := (Hfw.out.trans hf3).size
        have Hv3 := Lib.hid hv3
        have Hb3 := Lib.hid hb3
        have Hf3 := Lib.hid hf3
        have HB := Lib.hid hB
        have HBO := Lib.hid hBO
        have HBa := Lib.hid hBa
        have Htl3 := Lib.hid htl3
        have Hown3 := Lib.hid hown3
        clear hv3 hb3 hf3 hB hBO hBa htl3 hown3
        refine Lib.hid ?_
        go_wp2_with (first | (refine wpl_load_blk (by rfl) 39 _ (by rfl) _ (by rfl) _ _ (by exact Hb3.out) _ Tryd.underlying39 (by rfl) (by exact info_spz) ?_) | (at_builtin; refine app_spn v3 (by rfl) _ _ (by rfl) w.heap.size _ L (by rfl) Hown3.out X _ (by rw [HX.out]; rfl) v3.heap.size rfl (by rfl) Hsm.out hz3 ?_))
        intro v' v4 ho4 hf4a hf4 hat hne
        have hb4 := Hb3.out.frm hf4 (fun e => HBa.out B e.symm rfl)
        have htl4 := Htl3.out.frmS hf4 (fun i hi e => Hao.out i e.symm hi) (fun i e => (Hown3.out.lt i e.symm).1)
        have hao4 : ∀ i, v'.ownBlock = some i → ¬ O i := fun i hi hO => by
          rcases hat with e | ⟨g, e, hg, _⟩
          · exact Hao.out i (by rw [← e]; exact hi) hO
          · rw [e] at hi; cases hi; have := Htl3.out.tail.lt _ hO; omega
        have Ho4 := Lib.hid ho4
        have Hf4a := Lib.hid hf4a
        have Hf4 := Lib.hid hf4
        have Hat := Lib.hid hat
        have Hne := Lib.hid hne
        have Hb4 := Lib.hid hb4
        have Htl4 := Lib.hid htl4
        have Hao4 := Lib.hid hao4
        clear ho4 hf4a hf4 hat hne hb4 htl4 hao4
        go_wp2_with (first | (refine wpl_load_blk (by rfl) 39 _ (by rfl) _ (by rfl) _ _ (by exact Hb4.out) _ Tryd.underlying39 (by rfl) (by exact info_spz) ?_))
        rw [← HVX.out]
        refine (Htl4.out.add (mm := 9) X (by omega) (by have := Hx.out.sz; omega) (by omega) (by omega)).mono ?_
        rintro e v5 ⟨u5, O5, rfl, ho5, htl5, hoff5, hfr5, hsb5⟩
        rw [Hnf.out.1] at ho5
        rw [Hnf.out.2] at htl5
        obtain ⟨a5, c5, rfl, _, _⟩ := ho5.shape
        have ho5b := Ho4.out.frm hfr5 Hao4.out
        have hao5 : ∀ i, v'.ownBlock = some i → ¬ O5 i := fun i hi hO => by
          rcases hsb5 i hO with h1 | h1
          · exact Hao4.out i hi h1
          · have := (Ho4.out.lt i hi).2; omega
        have Ho5 := Lib.hid ho5
        have Htl5 := Lib.hid htl5
        have Hoff5 := Lib.hid hoff5
        have Hfr5 := Lib.hid hfr5
        have Hsb5 := Lib.hid hsb5
        have Ho5b := Lib.hid ho5b
        have Hao5 := Lib.hid hao5
        clear ho5 htl5 hoff5 hfr5 hsb5 ho5b hao5
        go_wp2_with fail
        go_roundw
        case rel => exact ⟨j + 1, L ++ [X], O5, by have := Hlt.out; omega, by go_num, Hlen.out, Hoka.out, Ho5b.out, Hao5.out, by rw [show 2 * (j + 1) = 2 * j + 2 from by omega]; exact Htl5.out⟩
        case measure => have := Hlt.out; simp [intOf]; omega
      · rw [show decide (j < m) = false from by rw [decide_eq_false_iff_not]; exact hlt]
        have hL5 : L.length ≤ 100000 := by rw [HLl.out]; omega
        have hof := of_any u14 L w.heap.size (1 + (q : Int)) wc Hown.out hL5 (ok_nm Hok.out)
        have hkb : keepB a3 a4 10 (1 + (q : Int)) (p : Int) = !(a3 && decide (a4 < 10) && !headB (1 + (q : Int)) (p : Int)) := rfl
        have hhd := fun W => shead_any (1 + (q : Int)) (by omega) (by omega) (p : Int) W
        obtain ⟨hb, hhb⟩ : ∃ x, x = headB (1 + (q : Int)) (p : Int) := ⟨_, rfl⟩
        rw [← hhb] at hkb hhd
        obtain ⟨kb, hkk⟩ : ∃ x, x = keepB a3 a4 10 (1 + (q : Int)) (p : Int) := ⟨_, rfl⟩
        rw [← hkk] at hkb
        have hol : overL a3 a4 10 (p : Int) L (1 + (q : Int)) = if kb = true then ofL L (1 + (q : Int)) else [] := by unfold overL; rw [← hkk]
        have hgone := over_gone L (1 + (q : Int)) (p : Int)
        have r0 : (0 : Int) ≤ 1 + (q : Int) := by omega
        have r1 : 1 + (q : Int) < 100 := by omega
        have Hlt := Lib.hid hlt
        have HL5 := Lib.hid hL5
        have Hof := Lib.hid hof
        have Hkb := Lib.hid hkb
        have Hhd := Lib.hid hhd
        have Hhb := Lib.hid hhb
        have Hkk := Lib.hid hkk
        have Hol := Lib.hid hol
        have Hgone := Lib.hid hgone
        clear hlt hL5 hof hkb hhd hhb hkk hol hgone
        go_wp2_with fail
        refine Hof.out.mono ?_
        rintro e v2 ⟨wo, wt, rfl, hwo, hwt, hf2, hap⟩
        have htl2 := Htl.out.keep hf2
        have hwoO : ∀ i, wo.ownBlock = some i → ¬ O i := fun i hi hO => by have := (hwo.lt i hi).1; have := Htl.out.tail.lt i hO; omega
        have Hwo := Lib.hid hwo
        have Hwt := Lib.hid hwt
        have Hf2 := Lib.hid hf2
        have Hap := Lib.hid hap
        have Htl2 := Lib.hid htl2
        have HwoO := Lib.hid hwoO
        clear hwo hwt hf2 hap htl2 hwoO
        go_wp2_with fail
        refine (Htl2.out.over (1 + (q : Int)) a4 a3 (by omega) r0 r1).mono ?_
        rintro e v3 ⟨g3, O3, rfl, hg3, htl3, hoff3, hfr3, hsb3⟩
        have hwo3 := Hwo.out.frm hfr3 HwoO.out
        rw [Hol.out] at hg3
        have hsame : ∀ W, Frm noB v3 W → Calls Tryd.prog 16 #[g3, wo] W fun e w' => ∃ sb, e = .returned (.bool sb) ∧ (kb = true → sb = true) ∧ Frm noB W w' := fun W hW => by
          cases hkb2 : kb with
          | true =>
            rw [hkb2, if_pos rfl] at hg3
            exact (rsame_any g3 wo _ 0 _ W (hg3.keep hW) (hwo3.keep hW)).mono fun e w' h => ⟨true, h.1, fun _ => rfl, h.2⟩
          | false =>
            rw [hkb2, if_neg (by decide)] at hg3
            obtain ⟨a9, c9, rfl, _, _⟩ := hg3.shape
            exact (rsame_empty a9 c9 wo _ _ W (hwo3.keep hW)).mono fun e w' h => ⟨_, h.1, fun h => (by cases h), h.2⟩
        obtain ⟨ga, gc, hg3e, _, _⟩ := hg3.shape
        obtain ⟨gn, hgn⟩ : ∃ n, n = (if kb = true then ofL L (1 + (q : Int)) else []).length := ⟨_, rfl⟩
        rw [← hgn] at hg3e
        subst hg3e
        have hgn0 : kb = false → gn = 0 := fun h => by rw [hgn, h]; rfl
        have Hg3 := Lib.hid hg3
        have Htl3 := Lib.hid htl3
        have Hoff3 := Lib.hid hoff3
        have Hfr3 := Lib.hid hfr3
        have Hsb3 := Lib.hid hsb3
        have Hwo3 := Lib.hid hwo3
        have Hsame := Lib.hid hsame
        have Hgn := Lib.hid hgn
        have Hgn0 := Lib.hid hgn0
        clear hg3 htl3 hoff3 hfr3 hsb3 hwo3 hsame hgn hgn0
        go_wp2_with fail
        refine (Hsame.out _ (Frm.refl _ _)).mono ?_
        rintro e v4 ⟨sb, rfl, hsb, hf4⟩
        have htl4 := Htl3.out.keep hf4
        have Hsb := Lib.hid hsb
        have Hf4 := Lib.hid hf4
        have Htl4 := Lib.hid htl4
        clear hsb hf4 htl4
        go_upto_region 17 with fail
        go_cut [78] (fun s78 wx => s78 = .bool kb ∧ Frm noB v4 wx)
        case first =>
          cases a3 with
          | false =>
            go_wp2_with fail
            go_meet
            exact ⟨by rw [Hkb.out]; rfl, Frm.refl _ _⟩
          | true =>
            by_cases ht : a4 < 10
            · have g1 : ¬ (10 : Int) ≤ a4 := by omega
              go_wp2_with fail
              refine (Hhd.out _).mono ?_
              rintro e v5 ⟨rfl, hf5⟩
              have Hf5 := Lib.hid hf5
              clear hf5
              go_wp2_with fail
              go_meet
              exact ⟨by rw [Hkb.out]; simp [ht], Hf5.out⟩
            · have g1 : (10 : Int) ≤ a4 := by omega
              go_wp2_with fail
              go_meet
              exact ⟨by rw [Hkb.out]; simp [ht], Frm.refl _ _⟩
        case rest =>
          obtain ⟨rfl, hfx⟩ := hcut
          have htl5 := Htl4.out.keep hfx
          have hov := htl5.over (1 + (q : Int)) 99 false (by omega) r0 r1
          rw [Hgone.out] at hov
          cases hkc : kb with
          | true =>
            have hsb1 : sb = true := Hsb.out hkc
            subst hsb1
            have Hfx := Lib.hid hfx
            have Htl5 := Lib.hid htl5
            have Hov := Lib.hid hov
            have Hkc := Lib.hid hkc
            clear hfx htl5 hov hkc
            go_wp2_with fail
            refine Hov.out.mono ?_
            rintro e v6 ⟨g6, O6, rfl, hg6, htl6, hoff6, hfr6, hsb6⟩
            obtain ⟨a6, c6, rfl, _, _⟩ := hg6.shape
            have Hg6 := Lib.hid hg6
            have Htl6 := Lib.hid htl6
            have Hoff6 := Lib.hid hoff6
            have Hfr6 := Lib.hid hfr6
            have Hsb6 := Lib.hid hsb6
            clear hg6 htl6 hoff6 hfr6 hsb6
            go_wp2_with fail
            refine (lives_any _).mono ?_
            rintro e v7 ⟨rfl, hf7⟩
            have Hf7 := Lib.hid (Htl6.out.frm.trans hf7)
            clear hf7
            go_wp2_with fail
            go_ret
            exact ⟨rfl, Hf7.out.below (Nat.le_refl _) (fun _ _ h => h)⟩
          | false =>
            obtain rfl : gn = 0 := Hgn0.out hkc
            have Hfx := Lib.hid hfx
            have Htl5 := Lib.hid htl5
            have Hov := Lib.hid hov
            have Hkc := Lib.hid hkc
            clear hfx htl5 hov hkc
            go_wp2_with fail
            refine Hov.out.mono ?_
            rintro e v6 ⟨g6, O6, rfl, hg6, htl6, hoff6, hfr6, hsb6⟩
            obtain ⟨a6, c6, rfl, _, _⟩ := hg6.shape
            have Hg6 := Lib.hid hg6
            have Htl6 := Lib.hid htl6
            have Hoff6 := Lib.hid hoff6
            have Hfr6 := Lib.hid hfr6
            have Hsb6 := Lib.hid hsb6
            clear hg6 htl6 hoff6 hfr6 hsb6
            go_wp2_with fail
            refine (lives_any _).mono ?_
            rintro e v7 ⟨rfl, hf7⟩
            have Hf7 := Lib.hid (Htl6.out.frm.trans hf7)
            clear hf7
            go_wp2_with fail
            go_ret
            exact ⟨rfl, Hf7.out.below (Nat.le_refl _) (fun _ _ h => h)⟩
end Go.Proofs.YtdamhohoeobfgaaDoor
