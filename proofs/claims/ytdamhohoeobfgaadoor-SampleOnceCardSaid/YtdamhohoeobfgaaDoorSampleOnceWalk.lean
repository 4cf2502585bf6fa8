/- The walk of the statement SampleOnce. -/
import Derived.Test.YtdamhohoeobfgaaDoorSampleTot
import Derived.Test.YtdamhohoeobfgaaDoorIntsL
import Derived.Deep.DeepCutAuto
set_option linter.unusedVariables false
set_option linter.unusedSimpArgs false
namespace Go.Proofs.YtdamhohoeobfgaaDoor
open Go.RowKit

set_option maxRecDepth 100000 in
set_option maxHeartbeats 8000000 in
theorem sampleOnce_walk (a0 : Int) (a1 : Int) (a2 : Option Addr) (len2 cap2 : Nat) (z2 : List Int) (a3 : Bool) (w : World) (w0 : (Lit.int .i64 a0).wf = true) (w1 : (Lit.int .i64 a1).wf = true) (w2 : IsRow .i64 w a2 len2 cap2 z2) :
    Calls Tryd.prog 5 #[.int .i64 a0, .int .i64 a1, .slice a2 len2 cap2, .bool a3] w fun e w' => e = .returned (.bool true) ∧ Below w.heap.size w w' := by
  obtain ⟨p0, p1⟩ := wf_i64 w0
  obtain ⟨q0, q1⟩ := wf_i64 w1
  obtain ⟨xs, hxs⟩ := w2.list
  have hlm := hxs.most
  have har := fun W => around_any a0 5 W p0 p1 (by omega) (by omega)
  have har2 := fun W => around_any a1 101 W q0 q1 (by omega) (by omega)
  have hq := around_lt a0 5 (by omega)
  have hp := around_lt a1 101 (by omega)
  generalize around a0 5 = q at *
  generalize around a1 101 = p at *
  obtain ⟨mm, hmm⟩ : ∃ mm : Nat, (mm : Int) = 1 + (q : Int) := ⟨1 + q, by omega⟩
  have hm1 : 1 ≤ mm := by omega
  have hm5 : mm ≤ 100000 := by omega
  obtain ⟨m, hm⟩ : ∃ m, m = min len2 30 := ⟨_, rfl⟩
  have Har := Lib.hid har
  have Har2 := Lib.hid har2
  have Hp := Lib.hid hp
  have Hq := Lib.hid hq
  have Hxs := Lib.hid hxs
  have Hm := Lib.hid hm
  have Hmm := Lib.hid hmm
  have Hw2 := Lib.hid w2
  clear har har2 hp hq hxs hm hmm w2
  go_enter Tryd.func5, Tryd.ntmps5
  go_wp2_with fail
  refine (Har.out _).mono ?_
  rintro e v0 ⟨rfl, rfl⟩
  have hq5 : q < 5 := by have := Hq.out; omega
  go_wp2_with fail
  refine (Har2.out _).mono ?_
  rintro e v0 ⟨rfl, rfl⟩
  go_wp2_with fail
  rw [← Hmm.out]
  refine (TL.start (mm : Int) (p : Int) 10 w).mono ?_
  rintro e v1 ⟨b, O1, rfl, h1⟩
  have H1 := Lib.hid h1
  clear h1
  go_wp2_with fail
  go_loopw [11, 12, 13] (fun tl al i wr => ∃ (j : Nat) (T L A : List Spn) (O : Nat → Prop), j ≤ m ∧ i = .int .i64 j ∧ A.length = j ∧ Tot mm T L A ∧ Own spnE wr w.heap.size 39 tl T ∧ Own spnE wr w.heap.size 39 al A ∧ apartV tl al ∧ (∀ i, tl.ownBlock = some i → ¬ O i) ∧ (∀ i, al.ownBlock = some i → ¬ O i) ∧
    TL w wr b (mm : Int) (p : Int) 10 L (2 * j) O) (fun _ _ i _ => m - (intOf i).toNat)
  case atStart => exact ⟨0, [], [], [], O1, by omega, rfl, rfl, Tot.nil _, Own.nil _ _ _ _, Own.nil _ _ _ _, fun i hi => by simp [Value.ownBlock] at hi, fun i hi => by simp [Value.ownBlock] at hi, fun i hi => by simp [Value.ownBlock] at hi, H1.out⟩
  case round =>
    obtain ⟨j, T, L, A, O, hj, rfl, hAl, htot, hot, hoa, hap, hto, hao, htl⟩ := hrel
    have hj30 : j ≤ 30 := by have := Hm.out; omega
    have hjl : j ≤ len2 := by have := Hm.out; omega
    have HAl := Lib.hid hAl
    have Htot := Lib.hid htot
    have Hot := Lib.hid hot
    have Hoa := Lib.hid hoa
    have Hap := Lib.hid hap
    have Hto := Lib.hid hto
    have Hao := Lib.hid hao
    have Htl := Lib.hid htl
    clear hAl htot hot hoa hap hto hao htl
    go_upto_region 8 with fail
    go_cut [38] (fun s38 wx => s38 = .bool (decide (j < m)) ∧ wx = wr)
    case first =>
      have hm := Hm.out
      by_cases h1 : j < len2
      · by_cases h2 : j < 30
        · have hd : decide (j < m) = true := by rw [decide_eq_true_iff]; omega
          have g1 : (j : Int) < (len2 : Int) := by omega
          have g2 : (j : Int) < 30 := by omega
          have Hm := Lib.hid hm
          have Hd := Lib.hid hd
          clear hm hd
          go_wp2_with fail
          go_meet
          exact ⟨by rw [Hd.out], rfl⟩
        · have hd : decide (j < m) = false := by rw [decide_eq_false_iff_not]; omega
          have g1 : (j : Int) < (len2 : Int) := by omega
          have g2 : ¬ (j : Int) < 30 := by omega
          have Hm := Lib.hid hm
          have Hd := Lib.hid hd
          clear hm hd
          go_wp2_with fail
          go_meet
          exact ⟨by rw [Hd.out], rfl⟩
      · have hd : decide (j < m) = false := by rw [decide_eq_false_iff_not]; omega
        have g1 : ¬ (j : Int) < (len2 : Int) := by omega
        have Hm := Lib.hid hm
        have Hd := Lib.hid hd
        clear hm hd
        go_wp2_with fail
        go_meet
        exact ⟨by rw [Hd.out], rfl⟩
    case rest =>
      obtain ⟨rfl, rfl⟩ := hcut
      by_cases hlt : j < m
      · rw [show decide (j < m) = true from by rw [decide_eq_true_iff]; exact hlt]
        have hjl2 : j < len2 := by have := Hm.out; omega
        have hxw := Hxs.out.keep Htl.out.frm
        obtain ⟨z, hz⟩ := get_of_lt (l := xs) (j := j) (by rw [Hxs.out.len]; exact hjl2)
        obtain ⟨xb, xo, rfl, xl, xc⟩ := hxw.cells j z hz
        obtain ⟨zb0, zb1⟩ := Hxs.out.bd z (List.mem_of_getElem? hz)
        have hx := atFrm_ok (spanOf_ok (around z 1000000)) (j : Int)
        have hcx := fun W => span_any z W zb0 zb1
        generalize spanOf (around z 1000000) = x at *
        have htot2 := Htot.out.add hm1 hx
        have hsome := add_some mm L (atFrm x (j : Int))
        have hlen : (A ++ [atFrm x (j : Int)]).length = j + 1 := by rw [List.length_append, HAl.out]; rfl
        have hsm : A.length ≤ 1000000 := by rw [HAl.out]; omega
        have j1 : (0 : Int) ≤ (j : Int) := by omega
        have j2 : (j : Int) < (len2 : Int) := by omega
        have Hxw := Lib.hid hxw
        have Hz := Lib.hid hz
        have Hx := Lib.hid hx
        have Hcx := Lib.hid hcx
        have Htot2 := Lib.hid htot2
        have Hsome := Lib.hid hsome
        have Hlen := Lib.hid hlen
        have Hsm := Lib.hid hsm
        have Hlt := Lib.hid hlt
        have Hzb0 := Lib.hid zb0
        have Hzb1 := Lib.hid zb1
        clear hxw hz hx hcx htot2 hsome hlen hsm hlt zb0 zb1
        go_wp2_with fail
        refine (Hcx.out _).mono ?_
        rintro e v2 ⟨rfl, hf2⟩
        have hfw : Frm noB w v2 := Htl.out.frm.trans hf2
        have htl2 := Htl.out.keep hf2
        have hot2 := Hot.out.keep hf2
        have hoa2 := Hoa.out.keep hf2
        obtain ⟨xn, x1, x2, x3, x4, x5⟩ := x
        obtain ⟨X, hX⟩ : ∃ X, X = atFrm ⟨xn, x1, x2, x3, x4, x5⟩ (j : Int) := ⟨_, rfl⟩
        rw [← hX] at Hx Htot2 Hsome Hlen
        have hVX : spnV X = .agg #[.string xn, .int .i64 x1, .int .i64 (j : Int), .int .i64 x3, .bool x4, .int .i64 x5] := by rw [hX]; rfl
        unfold spnV
        have Hf2 := Lib.hid hf2
        have Hfw := Lib.hid hfw
        have Htl2 := Lib.hid htl2
        have Hot2 := Lib.hid hot2
        have Hoa2 := Lib.hid hoa2
        have HX := Lib.hid hX
        have HVX := Lib.hid hVX
        clear hf2 hfw htl2 hot2 hoa2 hX hVX
        clear xc xl
        go_wp2_with (first | (refine wpl_store_new _ (by rfl) 39 _ _ (by rfl) _ (by rfl) (by first | rfl | simp) _ _ _ (by rfl) (by exact info_spz) (by rfl) (by kernel_rfl) ?_; refine Hid.out ?_))
        generalize hv3 : World.alloc v2 _ = v3
        have hb3 : Blk v3 v2.heap.size #[.string xn, .int .i64 x1, .int .i64 x2, .int .i64 x3, .bool x4, .int .i64 x5] 39 := by rw [← hv3]; exact Blk.made v2 _ _
        have hf3 : Frm noB v2 v3 := by rw [← hv3]; exact (Frm.refl noB v2).alloc _
        obtain ⟨B, hB⟩ : ∃ B, B = v2.heap.size := ⟨_, rfl⟩
        rw [← hB] at hb3 ⊢
        have y2 := hb3.cell 2
        simp at y2
        have yf := hb3.free 2
        have yl := hb3.lt
        obtain ⟨v4, hv4⟩ : ∃ v4, World.setCell v3 ⟨B, 2, none⟩ (.int .i64 (j : Int)) = v4 := ⟨_, rfl⟩
        have hb4 : Blk v4 B #[.string xn, .int .i64 x1, .int .i64 (j : Int), .int .i64 x3, .bool x4, .int .i64 x5] 39 := by
          have := hb3.set 2 (.int .i64 (j : Int))
          rw [hv4] at this
          exact this
        have hf4 : Frm noB v2 v4 := by rw [← hv4]; exact hf3.setNew (p := ⟨B, 2, none⟩) (by rw [hB]; exact Nat.le_refl _) _
        have hBO : ¬ O B := fun h => by have := Htl2.out.tail.lt _ h; omega
        have hBt : ∀ i, u11.ownBlock = some i → i ≠ B := fun i hi => by have := (Hot2.out.lt i hi).2; omega
        have hBa : ∀ i, u12.ownBlock = some i → i ≠ B := fun i hi => by have := (Hoa2.out.lt i hi).2; omega
        have htl4 := Htl2.out.keep hf4
        have hot4 := Hot2.out.keep hf4
        have hoa4 := Hoa2.out.keep hf4
        have hz4 : w.heap.size ≤ v4.heap.size := (Hfw.out.trans hf4).size
        have Hv3 := Lib.hid hv3
        have Hb3 := Lib.hid hb3
        have Hf3 := Lib.hid hf3
        have HB := Lib.hid hB
        have Hb4 := Lib.hid hb4
        have Hf4 := Lib.hid hf4
        have HBO := Lib.hid hBO
        have HBt := Lib.hid hBt
        have HBa := Lib.hid hBa
        have Htl4 := Lib.hid htl4
        have Hot4 := Lib.hid hot4
        have Hoa4 := Lib.hid hoa4
        clear hv3 hb3 hf3 hB hb4 hf4 hBO hBt hBa htl4 hot4 hoa4
        refine Lib.hid ?_
        go_wp2_with (first | (refine wpl_load_blk (by rfl) 39 _ (by rfl) _ (by rfl) _ _ (by exact Hb4.out) _ Tryd.underlying39 (by rfl) (by exact info_spz) ?_) | (at_builtin; refine app_spn v4 (by rfl) _ _ (by rfl) w.heap.size _ A (by rfl) Hoa4.out X _ (by rw [HX.out]; rfl) v4.heap.size rfl (by rfl) Hsm.out hz4 ?_))
        intro va v5 ho5 hf5a hf5 hat hne
        clear hv4 y2 yf yl
        have hb5 := Hb4.out.frm hf5 (fun e => HBa.out B e.symm rfl)
        have htl5 := Htl4.out.frmS hf5 (fun i hi e => Hao.out i e.symm hi) (fun i e => (Hoa4.out.lt i e.symm).1)
        have hot5 := Hot4.out.frm hf5 (fun i hi e => Hap.out i hi e.symm)
        have hap5 : apartV u11 va := (apart_new Hap.out.symm Hot4.out (hat.imp id (fun ⟨g, h1, h2, _⟩ => ⟨g, h1, h2⟩))).symm
        have hao5 : ∀ i, va.ownBlock = some i → ¬ O i := fun i hi hO => by
          rcases hat with e | ⟨g, e, hg, _⟩
          · exact Hao.out i (by rw [← e]; exact hi) hO
          · rw [e] at hi; cases hi; have := Htl4.out.tail.lt _ hO; omega
        have Ho5 := Lib.hid ho5
        have Hf5a := Lib.hid hf5a
        have Hf5 := Lib.hid hf5
        have Hat := Lib.hid hat
        have Hne := Lib.hid hne
        have Hb5 := Lib.hid hb5
        have Htl5 := Lib.hid htl5
        have Hot5 := Lib.hid hot5
        have Hap5 := Lib.hid hap5
        have Hao5 := Lib.hid hao5
        clear ho5 hf5a hf5 hat hne hb5 htl5 hot5 hap5 hao5
        go_wp2_with (first | (refine wpl_load_blk (by rfl) 39 _ (by rfl) _ (by rfl) _ _ (by exact Hb5.out) _ Tryd.underlying39 (by rfl) (by exact info_spz) ?_))
        rw [← HVX.out]
        refine (Htl5.out.add (mm := mm) X (by omega) (by have := Hx.out.sz; omega) hm1 hm5).mono ?_
        rintro e v6 ⟨g6, O6, rfl, ho6, htl6, hoff6, hfr6, hsb6⟩
        have hot6 := Hot5.out.frm hfr6 Hto.out
        have hoa6 := Ho5.out.frm hfr6 Hao5.out
        have hto6 : ∀ i, u11.ownBlock = some i → ¬ O6 i := fun i hi hO => by
          rcases hsb6 i hO with h1 | h1
          · exact Hto.out i hi h1
          · have := (Hot5.out.lt i hi).2; omega
        have hao6 : ∀ i, va.ownBlock = some i → ¬ O6 i := fun i hi hO => by
          rcases hsb6 i hO with h1 | h1
          · exact Hao5.out i hi h1
          · have := (Ho5.out.lt i hi).2; omega
        have hmz : T.length + (goneL mm L X).length ≤ 1000000 := by have h1 := Htot.out.len; have h2 := goneL_len mm L X; have h3 := HAl.out; omega
        have hz6 : w.heap.size ≤ v6.heap.size := htl6.frm.size
        have Ho6 := Lib.hid ho6
        have Htl6 := Lib.hid htl6
        have Hoff6 := Lib.hid hoff6
        have Hfr6 := Lib.hid hfr6
        have Hsb6 := Lib.hid hsb6
        have Hot6 := Lib.hid hot6
        have Hoa6 := Lib.hid hoa6
        have Hto6 := Lib.hid hto6
        have Hao6 := Lib.hid hao6
        have Hmz := Lib.hid hmz
        clear ho6 htl6 hoff6 hfr6 hsb6 hot6 hoa6 hto6 hao6 hmz
        go_wp2_with (first | (at_builtin; refine app_row v6 (by rfl) _ _ (by rfl) w.heap.size 0 _ T (by rfl) Hot6.out g6 (goneL mm L X) (by rfl) Ho6.out Hmz.out hz6 ?_))
        intro vt v7 ho7 hf7 hat7
        have hoa7 := Hoa6.out.frm hf7 (fun i hi e => Hap5.out i e.symm hi)
        have htl7 := Htl6.out.frmS hf7 (fun i hi e => Hto6.out i e.symm hi) (fun i e => (Hot6.out.lt i e.symm).1)
        have hap7 : apartV vt va := fun i h1 h2 => by
          rcases hat7 with e | e
          · exact Hap5.out i (by rw [← e]; exact h1) h2
          · rw [e] at h1; cases h1; have := (Hoa6.out.lt _ h2).2; omega
        have hto7 : ∀ i, vt.ownBlock = some i → ¬ O6 i := fun i hi hO => by
          rcases hat7 with e | e
          · exact Hto6.out i (by rw [← e]; exact hi) hO
          · rw [e] at hi; cases hi; have := Htl6.out.tail.lt _ hO; omega
        have hl7 := htl7.len
        obtain ⟨n7, hn7⟩ : ∃ n, n = (reqsL (addL mm L X)).length := ⟨_, rfl⟩
        rw [← hn7] at hl7
        have hn71 : 1 ≤ n7 := by rw [hn7]; exact Hsome.out
        have hn7m : n7 ≤ mm := by rw [hn7]; exact Htot2.out.most
        have g1 : ¬ (mm : Int) < (n7 : Int) := by omega
        have g2 : ¬ (n7 : Int) < 1 := by omega
        have Ho7 := Lib.hid ho7
        have Hf7 := Lib.hid hf7
        have Hat7 := Lib.hid hat7
        have Hoa7 := Lib.hid hoa7
        have Htl7 := Lib.hid htl7
        have Hap7 := Lib.hid hap7
        have Hto7 := Lib.hid hto7
        have Hl7 := Lib.hid hl7
        have Hn7 := Lib.hid hn7
        clear ho7 hf7 hat7 hoa7 htl7 hap7 hto7 hl7 hn7
        go_wp2_with fail
        refine Hl7.out.mono ?_
        rintro e v8 ⟨rfl, rfl⟩
        go_wp2_with fail
        refine Hl7.out.mono ?_
        rintro e v8 ⟨rfl, rfl⟩
        go_wp2_with fail
        go_roundw
        case rel => exact ⟨j + 1, T ++ goneL mm L X, addL mm L X, A ++ [X], O6, by have := Hlt.out; omega, by go_num, Hlen.out, Htot2.out, Ho7.out, Hoa7.out, Hap7.out, Hto7.out, Hao6.out, by rw [show 2 * (j + 1) = 2 * j + 2 from by omega]; exact Htl7.out⟩
        case measure => have := Hlt.out; simp [intOf]; omega
      · rw [show decide (j < m) = false from by rw [decide_eq_false_iff_not]; exact hlt]
        have hlow : ∀ s ∈ L, ((0 : Nat) : Int) < rq s := fun s hs => by have := (Htot.out.okL s hs).lo; omega
        obtain ⟨w9, hw9⟩ : ∃ W : World, W = wc := ⟨_, rfl⟩
        subst hw9
        have hj60 : 2 * j ≤ 60 := by omega
        have Hlt := Lib.hid hlt
        have Hlow := Lib.hid hlow
        clear hlt hlow
        go_wp2_with fail
        go_loopw [11, 15] (fun tl i wr => ∃ (c : Nat) (T L : List Spn) (O : Nat → Prop), c ≤ 6 ∧ i = .int .i64 ((c + 1 : Nat) : Int) ∧ Tot mm T L A ∧ (∀ s ∈ L, (c : Int) < rq s) ∧ Own spnE wr w.heap.size 39 tl T ∧ Own spnE wr w.heap.size 39 u12 A ∧ apartV tl u12 ∧ (∀ i, tl.ownBlock = some i → ¬ O i) ∧ (∀ i, u12.ownBlock = some i → ¬ O i) ∧
          TL w wr b (mm : Int) (p : Int) 10 L (2 * j) O) (fun _ i _ => 7 - (intOf i).toNat)
        case atStart => exact ⟨0, T, L, O, by omega, rfl, Htot.out, Hlow.out, Hot.out, Hoa.out, Hap.out, Hto.out, Hao.out, Htl.out⟩
        case round =>
          obtain ⟨c, T2, L2, O2, hc, rfl, htot2, hlow2, hot2, hoa2, hap2, hto2, hao2, htl2⟩ := hrel
          by_cases hc6 : c < 6
          · have g1 : ((c + 1 : Nat) : Int) ≤ 6 := by omega
            have hov := htl2.over ((c + 1 : Nat) : Int) 10 a3 (by omega) (by omega) (by omega)
            rw [over_all] at hov
            have hmz : T2.length + (ofL L2 ((c + 1 : Nat) : Int)).length ≤ 1000000 := by have h1 := htot2.len; have h2 := ofL_len L2 ((c + 1 : Nat) : Int); have h3 := HAl.out; omega
            have htot3 := htot2.drop ((c + 1 : Nat) : Int)
            have hlow3 := others_above hlow2
            obtain ⟨cc, hcc⟩ : ∃ cc : Int, cc = ((c + 1 : Nat) : Int) := ⟨_, rfl⟩
            rw [← hcc] at g1 hov hmz htot3 hlow3 ⊢
            have hcc0 : 0 ≤ cc := by omega
            have Htot2 := Lib.hid htot2
            have Hlow2 := Lib.hid hlow2
            have Hot2 := Lib.hid hot2
            have Hoa2 := Lib.hid hoa2
            have Hap2 := Lib.hid hap2
            have Hto2 := Lib.hid hto2
            have Hao2 := Lib.hid hao2
            have Htl2 := Lib.hid htl2
            have Hov := Lib.hid hov
            have Hmz := Lib.hid hmz
            have Htot3 := Lib.hid htot3
            have Hlow3 := Lib.hid hlow3
            have Hcc := Lib.hid hcc
            clear htot2 hlow2 hot2 hoa2 hap2 hto2 hao2 htl2 hov hmz htot3 hlow3 hcc
            go_wp2_with fail
            refine Hov.out.mono ?_
            rintro e v6 ⟨g6, O6, rfl, ho6, htl6, hoff6, hfr6, hsb6⟩
            have hot6 := Hot2.out.frm hfr6 Hto2.out
            have hoa6 := Hoa2.out.frm hfr6 Hao2.out
            have hz6 : w.heap.size ≤ v6.heap.size := htl6.frm.size
            have Ho6 := Lib.hid ho6
            have Htl6 := Lib.hid htl6
            have Hoff6 := Lib.hid hoff6
            have Hfr6 := Lib.hid hfr6
            have Hsb6 := Lib.hid hsb6
            have Hot6 := Lib.hid hot6
            have Hoa6 := Lib.hid hoa6
            clear ho6 htl6 hoff6 hfr6 hsb6 hot6 hoa6
            go_wp2_with (first | (at_builtin; refine app_row v6 (by rfl) _ _ (by rfl) w.heap.size 0 _ T2 (by rfl) Hot6.out g6 (ofL L2 cc) (by rfl) Ho6.out Hmz.out hz6 ?_))
            intro vt v7 ho7 hf7 hat7
            have hoa7 := Hoa6.out.frm hf7 (fun i hi e => Hap2.out i e.symm hi)
            have htl7 := Htl6.out.frmS hf7 (fun i hi e => Hto2.out i e.symm (Hsb6.out i hi)) (fun i e => (Hot6.out.lt i e.symm).1)
            have hap7 : apartV vt u12 := fun i h1 h2 => by
              rcases hat7 with e | e
              · exact Hap2.out i (by rw [← e]; exact h1) h2
              · rw [e] at h1; cases h1; have := (Hoa6.out.lt _ h2).2; omega
            have hto7 : ∀ i, vt.ownBlock = some i → ¬ O6 i := fun i hi hO => by
              rcases hat7 with e | e
              · exact Hto2.out i (by rw [← e]; exact hi) (Hsb6.out i hO)
              · rw [e] at hi; cases hi; have := Htl6.out.tail.lt _ hO; omega
            have Ho7 := Lib.hid ho7
            have Hf7 := Lib.hid hf7
            have Hat7 := Lib.hid hat7
            have Hoa7 := Lib.hid hoa7
            have Htl7 := Lib.hid htl7
            have Hap7 := Lib.hid hap7
            have Hto7 := Lib.hid hto7
            clear ho7 hf7 hat7 hoa7 htl7 hap7 hto7
            go_wp2_with fail
            go_roundw
            case rel => exact ⟨c + 1, T2 ++ ofL L2 cc, othersL L2 cc, O6, by omega, by have := Hcc.out; simp only [Value.int.injEq, true_and]; omega, Htot3.out, by have := Hlow3.out; rw [Hcc.out] at this ⊢; exact this, Ho7.out, Hoa7.out, Hap7.out, Hto7.out, fun i hi hO => Hao2.out i hi (Hsb6.out i hO), Htl7.out⟩
            case measure => have := Hcc.out; simp [intOf]; omega
          · obtain rfl : c = 6 := by omega
            obtain rfl : L2 = [] := none_above htot2.okL hlow2
            have hl7 := htl2.len
            obtain ⟨ta, tc, rfl, _, _⟩ := hot2.shape
            obtain ⟨aa, ac, rfl, _, _⟩ := hoa2.shape
            obtain ⟨tn, htn⟩ : ∃ n, n = T2.length := ⟨_, rfl⟩
            have han : A.length = tn := by have := htot2.len; rw [htn]; simpa using this.symm
            rw [han] at hoa2 ⊢
            rw [← htn] at hot2 ⊢
            have hFr := htl2.frm
            have hAl5 : A.length ≤ 100000 := by have := HAl.out; omega
            have hTl5 : T2.length ≤ 100000 := by rw [← htn, ← han]; exact hAl5
            have hnA := ok_nm htot2.okA
            have hnT := ok_nm htot2.okT
            have hdone := fun r => htot2.done r
            rw [show ((reqsL []).length : Int) = 0 from rfl] at hl7
            have e1 : ((tn : Int) != (tn : Int)) = false := by simp
            obtain ⟨w10, hw10⟩ : ∃ W : World, W = wr := ⟨_, rfl⟩
            subst hw10
            skip
            have Htot2 := Lib.hid htot2
            have Hlow2 := Lib.hid hlow2
            have Hot2 := Lib.hid hot2
            have Hoa2 := Lib.hid hoa2
            have Hap2 := Lib.hid hap2
            have Hto2 := Lib.hid hto2
            have Hao2 := Lib.hid hao2
            have Htl2 := Lib.hid htl2
            have Hl7 := Lib.hid hl7
            have Htn := Lib.hid htn
            have Han := Lib.hid han
            have HFr := Lib.hid hFr
            have HAl5 := Lib.hid hAl5
            have HTl5 := Lib.hid hTl5
            have HnA := Lib.hid hnA
            have HnT := Lib.hid hnT
            have Hdone := Lib.hid hdone
            clear htot2 hlow2 hot2 hoa2 hap2 hto2 hao2 htl2 hl7 htn han hFr hAl5 hTl5 hnA hnT hdone
            go_wp2_with fail
            refine Hl7.out.mono ?_
            rintro e v8 ⟨rfl, rfl⟩
            go_wp2_with fail
            go_loopw [16] (fun i wr => ∃ c : Nat, c ≤ 6 ∧ i = .int .i64 ((c + 1 : Nat) : Int) ∧ Frm noB w10 wr) (fun i _ => 7 - (intOf i).toNat)
            case atStart => exact ⟨0, by omega, rfl, Frm.refl _ _⟩
            case round =>
              obtain ⟨c, hc, rfl, hfr⟩ := hrel
              have hFw := HFr.out.trans hfr
              by_cases hc6 : c < 6
              · have g1 : ((c + 1 : Nat) : Int) ≤ 6 := by omega
                obtain ⟨cc, hcc⟩ : ∃ cc : Int, cc = ((c + 1 : Nat) : Int) := ⟨_, rfl⟩
                rw [← hcc] at g1 ⊢
                have hcc0 : 0 ≤ cc := by omega
                have hofA := of_any _ A w.heap.size cc wr (Hoa2.out.keep hfr) HAl5.out HnA.out
                have Hfr := Lib.hid hfr
                have HFw := Lib.hid hFw
                have Hcc := Lib.hid hcc
                have HofA := Lib.hid hofA
                clear hfr hFw hcc hofA
                go_wp2_with fail
                refine HofA.out.mono ?_
                rintro e v9 ⟨o1, o2, rfl, ho1, ho2, hf9, hap9⟩
                have hofT := of_any _ T2 w.heap.size cc v9 ((Hot2.out.keep Hfr.out).keep hf9) HTl5.out HnT.out
                have Ho1 := Lib.hid ho1
                have Ho2 := Lib.hid ho2
                have Hf9 := Lib.hid hf9
                have Hap9 := Lib.hid hap9
                have HofT := Lib.hid hofT
                clear ho1 ho2 hf9 hap9 hofT
                go_wp2_with fail
                refine HofT.out.mono ?_
                rintro e v10 ⟨o3, o4, rfl, ho3, ho4, hf10, hap10⟩
                rw [Hdone.out cc] at ho3
                have hsm := rsame_any o1 o3 _ _ _ v10 (Ho1.out.keep hf10) ho3
                have hFz := (HFw.out.trans Hf9.out).trans hf10
                have hfz := (Hfr.out.trans Hf9.out).trans hf10
                have Ho3 := Lib.hid ho3
                have Ho4 := Lib.hid ho4
                have Hf10 := Lib.hid hf10
                have Hap10 := Lib.hid hap10
                have Hsm := Lib.hid hsm
                have HFz := Lib.hid hFz
                have Hfz := Lib.hid hfz
                clear ho3 ho4 hf10 hap10 hsm hFz hfz
                go_wp2_with fail
                refine Hsm.out.mono ?_
                rintro e v11 ⟨rfl, hf11⟩
                have Hf11 := Lib.hid (Hfz.out.trans hf11)
                clear hf11
                go_wp2_with fail
                go_roundw
                case rel => exact ⟨c + 1, by omega, by have := Hcc.out; simp only [Value.int.injEq, true_and]; omega, Hf11.out⟩
                case measure => have := Hcc.out; simp [intOf]; omega
              · obtain rfl : c = 6 := by omega
                have Hfr := Lib.hid hfr
                have HFw := Lib.hid hFw
                clear hfr hFw
                go_wp2_with fail
                refine (lives_any _).mono ?_
                rintro e v11 ⟨rfl, hf11⟩
                have Hf11 := Lib.hid (HFw.out.trans hf11)
                clear hf11
                go_wp2_with fail
                go_ret
                exact ⟨rfl, Hf11.out.below (Nat.le_refl _) (fun _ _ h => h)⟩
end Go.Proofs.YtdamhohoeobfgaaDoor
