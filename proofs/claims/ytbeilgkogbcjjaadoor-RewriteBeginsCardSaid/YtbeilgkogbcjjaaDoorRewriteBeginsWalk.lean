/- The walk of the statement RewriteBegins. -/
import Derived.Test.YtbeilgkogbcjjaaDoorRule
import Derived.Test.YtbeilgkogbcjjaaDoorRewHeads
import Derived.Test.YtbeilgkogbcjjaaDoorShaped
import Derived.Test.YtbeilgkogbcjjaaDoorHeadEq
import Derived.Test.YtbeilgkogbcjjaaDoorStoreNew
import Derived.StillTailTactics
import Derived.Deep.RegionHeld3
import Derived.Outline
set_option linter.unusedVariables false
namespace Go.Proofs.YtbeilgkogbcjjaaDoor
open Go.RowKit

set_option maxRecDepth 100000 in
set_option maxHeartbeats 4000000 in
theorem rewriteBegins_walk (a0 : Option Addr) (len0 cap0 : Nat) (z0 : List Int) (a1 : Int) (a2 : Int) (w : World) (w0 : IsRow .i64 w a0 len0 cap0 z0) (w1 : (Lit.int .i64 a1).wf = true) (w2 : (Lit.int .i64 a2).wf = true) (hmax : MaxL w) :
    Calls Tryd.prog 6 #[.slice a0 len0 cap0, .int .i64 a1, .int .i64 a2] w fun e w' => e = .returned (.bool true) ∧ Below w.heap.size w w' := by
  obtain ⟨xs, h0⟩ := w0.list
  have hcap := w0.caps
  have hb1 := wf_i64 w1
  have hb2 := wf_i64 w2
  have H0 := Lib.hid h0
  have Hb1 := Lib.hid hb1
  have Hb2 := Lib.hid hb2
  clear h0 hb1 hb2
  clear w0 w1 w2
  go_enter Tryd.func6, Tryd.ntmps6
  go_wp2_with fail
  with_reducible refine (rule_any a0 len0 cap0 xs _ H0.out hcap.1 hcap.2).mono ?_
  rintro e x1 ⟨sv, dv, rfl, hs, hd, hf1⟩
  obtain ⟨sa, sc, rfl, _⟩ := hs.shape
  obtain ⟨da, dc, rfl, _⟩ := hd.shape
  obtain ⟨ns, hns⟩ : ∃ n, n = (genH ((xs.drop 4).take 4)).length := ⟨_, rfl⟩
  obtain ⟨nd, hnd⟩ : ∃ n, n = (namesH ((xs.drop 8).take 6)).length := ⟨_, rfl⟩
  rw [← hns] at hs ⊢
  rw [← hnd] at hd ⊢
  have hgS := GoodL.gen ((xs.drop 4).take 4)
  generalize genH ((xs.drop 4).take 4) = SS at *
  generalize namesH ((xs.drop 8).take 6) = DD at *
  have hbo := ofZ_ok (numAt xs 0)
  have hbl := ofZ_len (numAt xs 0)
  have hpx := pfx_cases (numAt xs 3) (numAt xs 1)
  generalize ofZ (numAt xs 0) = b at *
  generalize decide (around (numAt xs 2) 4 = 1) = ex at *
  generalize pfxOf (numAt xs 3) (numAt xs 1) = pfx at *
  obtain ⟨mp, hmp⟩ : ∃ mp, mp = bs (pathOf b) := ⟨_, rfl⟩
  rw [← hmp]
  unfold ruleV ruleC
  have fa := (Frm.refl noB x1).alloc (.cells (ruleC mp ex pfx (.slice sa ns sc) (.slice da nd dc)) 35)
  have hB := Blk.made x1 (ruleC mp ex pfx (.slice sa ns sc) (.slice da nd dc)) 35
  unfold ruleC at fa hB
  have hs1 := hs.keep fa
  have hd1 := hd.keep fa
  have hf2 := hf1.trans fa
  have hm2 := hmax.keep hf2
  have Hs := Lib.hid hs
  have Hd := Lib.hid hd
  have Hf1 := Lib.hid hf1
  have Hns := Lib.hid hns
  have Hnd := Lib.hid hnd
  have Hmp := Lib.hid hmp
  have Hfa := Lib.hid fa
  have HB := Lib.hid hB
  have Hs1 := Lib.hid hs1
  have Hd1 := Lib.hid hd1
  have Hf2 := Lib.hid hf2
  have Hm2 := Lib.hid hm2
  have Hbo := Lib.hid hbo
  have Hbl := Lib.hid hbl
  have Hpx := Lib.hid hpx
  have HgS := Lib.hid hgS
  clear hs hd hf1 hns hnd hmp fa hB hs1 hd1 hf2 hm2 hbo hbl hpx hgS
  go_upto_region 2 with (refine wpl_store_new _ (by rfl) 35 _ _ (by rfl) _ (by rfl) (by first | rfl | simp) _ _ _ (by rfl) (by exact info_rule) (by rfl) (by kernel_rfl) ?_)
  generalize x1.alloc (.cells #[.string mp, .bool ex, .slice none 0 0, .slice none 0 0, .int .i64 0, .int .i64 0, .int .i64 0, .int .i64 0, .string pfx, .slice sa ns sc, .slice da nd dc, .int .i64 0, .int .i64 0, .int .i64 0, .int .i64 0, .int .i64 0, .int .i64 0, .int .i64 0, .int .i64 0] 35) = W at *
  have b0 := (HB.out.cell 0).trans (show _ = some (Value.string mp) from rfl)
  have b1 := (HB.out.cell 1).trans (show _ = some (Value.bool ex) from rfl)
  by_cases hb0 : b = []
  · have t1 : (mp.toList == [47]) = true := slash_yes (by rw [Hmp.out, hb0]; rfl)
    have Hb0 := Lib.hid hb0
    clear hb0
    go_wp2_with fail
    refine (rlives_any _ Hm2.out).mono ?_
    rintro e yz ⟨rfl, hgz⟩
    have Hfz := Lib.hid (Hf2.out.trans hgz)
    clear hgz
    go_wp2_with fail
    go_ret
    exact ⟨rfl, Hfz.out.below (Nat.le_refl _) (fun _ _ h => h)⟩
  have hmp47 : ¬ mp = ⟨#[47]⟩ := fun e => by
    have h1 : mp.data.toList = [47] := by rw [e]
    rw [Hmp.out, bs_list, pathOf_ne hb0] at h1
    exact join_ne47 Hbo.out h1
  have t1 := slash_test hmp47
  cases ex
  · obtain ⟨Z1, hZ1⟩ : ∃ Z, Z = ofZ a1 := ⟨_, rfl⟩
    obtain ⟨Z2, hZ2⟩ : ∃ Z, Z = ofZ a2 := ⟨_, rfl⟩
    have ho1 := fun w => of_any a1 w Hb1.out.1 Hb1.out.2
    have ho2 := fun w => of_any a2 w Hb2.out.1 Hb2.out.2
    have hz1 := ofZ_ok a1
    have hz2 := ofZ_ok a2
    have hl1 := ofZ_len a1
    have hl2 := ofZ_len a2
    rw [← hZ1] at ho1 hz1 hl1
    rw [← hZ2] at ho2 hz2 hl2
    have hmps : mp.size ≤ 60 := by rw [Hmp.out, bs_size]; exact Hbl.out
    obtain ⟨q1, hq1⟩ : ∃ q, q = bs (pathOf Z1) := ⟨_, rfl⟩
    obtain ⟨q2, hq2⟩ : ∃ q, q = bs (pathOf Z2) := ⟨_, rfl⟩
    rw [← hq1] at ho1
    rw [← hq2] at ho2
    have hs1 : q1.size ≤ 60 := by rw [hq1, bs_size]; exact hl1
    have hs2 : q2.size ≤ 60 := by rw [hq2, bs_size]; exact hl2
    have hsum : (9223372036854775807 < mp.size + q1.size) = False := by simp; omega
    have Hhs1 := Lib.hid hs1
    have Hhs2 := Lib.hid hs2
    clear hs1 hs2
    have hA1 : (mp ++ q1).data.toList = pathOf b ++ pathOf Z1 := by rw [Hmp.out, hq1, bs_app, bs_list]
    have hAs : (mp ++ q1).size ≤ 200 := by rw [ByteArray.size_append]; have := Hhs1.out; omega
    have hadd := fun w => run_cat (mp ++ q1) q2 (by have := Hhs2.out; omega) w
    have hB1 : ((mp ++ q1) ++ q2).data.toList = (pathOf b ++ pathOf Z1) ++ pathOf Z2 := by rw [Hmp.out, hq1, hq2, bs_app, bs_app, bs_list]
    have hBs : ((mp ++ q1) ++ q2).size ≤ 300 := by rw [ByteArray.size_append]; have := Hhs2.out; omega
    have Hb0 := Lib.hid hb0
    have Hmp47 := Lib.hid hmp47
    have Ho1 := Lib.hid ho1
    have Ho2 := Lib.hid ho2
    have Hz1 := Lib.hid hz1
    have Hz2 := Lib.hid hz2
    have Hl1 := Lib.hid hl1
    have Hl2 := Lib.hid hl2
    have HZ1 := Lib.hid hZ1
    have HZ2 := Lib.hid hZ2
    have Hq1 := Lib.hid hq1
    have Hq2 := Lib.hid hq2
    have HA1 := Lib.hid hA1
    have HAs := Lib.hid hAs
    have Hadd := Lib.hid hadd
    have HB1 := Lib.hid hB1
    have HBs := Lib.hid hBs
    clear hb0 hmp47 ho1 ho2 hz1 hz2 hl1 hl2 hZ1 hZ2 hq1 hq2 hA1 hAs hadd hB1 hBs
    go_upto_region 4 with fail
    go_region_held3 (fun X => X.cell? ⟨x1.heap.size, 0, none⟩ = some (.string mp)) (first | (with_reducible assumption) | exact b0)
      (first
        | (go_at_call 11; (with_reducible refine (Ho1.out _).mono ?_); rintro e y1 ⟨rfl, hg1⟩; have c0 := cell_frm hg1 (fun h => h) b0))
    have hf3 := (Hf2.out.drew).trans hg1
    have hB3 := (HB.out.frm (Frm.refl noB W).drew (fun h => h)).frm hg1 (fun h => h)
    have hm3 := hmax.keep hf3
    clear hsum t1 b0 b1 c0
    obtain ⟨A, hA⟩ : ∃ A, A = mp ++ q1 := ⟨_, rfl⟩
    obtain ⟨Bv, hBv⟩ : ∃ A, A = (mp ++ q1) ++ q2 := ⟨_, rfl⟩
    rw [← hA] at hBv ⊢
    have hadd := Hadd.out
    have hA1 := HA1.out
    have hAs := HAs.out
    have hB1 := HB1.out
    have hBs := HBs.out
    rw [← hA] at hadd hA1 hAs hB1 hBs
    rw [← hBv] at hadd hB1 hBs
    clear Hadd HA1 HAs HB1 HBs
    have Hf3 := Lib.hid hf3
    have HB3 := Lib.hid hB3
    have Hm3 := Lib.hid hm3
    have Hg1 := Lib.hid hg1
    have Hadd := Lib.hid hadd
    have HA1 := Lib.hid hA1
    have HB1 := Lib.hid hB1
    have HA := Lib.hid hA
    have HBv := Lib.hid hBv
    clear hf3 hB3 hm3 hg1 hadd hA1 hB1 hA hBv
    go_wp2_with fail
    refine (Ho2.out _).mono ?_
    rintro e y2 ⟨rfl, hg2⟩
    have hf4 := Hf3.out.trans hg2
    have hB4 := HB3.out.frm hg2 (fun h => h)
    have hm4 := hmax.keep hf4
    have hpA := fun w h => path_any A w (by omega) h
    have hpB := fun w h => path_any Bv w (by omega) h
    rw [HA1.out] at hpA
    rw [HB1.out] at hpB
    cases hiA : isPathL (pathOf b ++ pathOf Z1)
    · rw [hiA] at hpA
      have Hf4 := Lib.hid hf4
      have HB4 := Lib.hid hB4
      have Hm4 := Lib.hid hm4
      have Hg2 := Lib.hid hg2
      have HpA := Lib.hid hpA
      have HpB := Lib.hid hpB
      have HiA := Lib.hid hiA
      clear hf4 hB4 hm4 hg2 hpA hpB hiA
      go_wp2_with (refine wpl_add (by rfl) _ _ (by rfl) _ _ _ (by rfl) (by rfl) (Hadd.out _) ?_)
      refine (HpA.out _ Hm4.out).mono ?_
      rintro e y3 ⟨rfl, hg3⟩
      have hf5 := Hf4.out.trans hg3
      have hm5 := hmax.keep hf5
      have Hf5 := Lib.hid hf5
      have Hm5 := Lib.hid hm5
      clear hf5 hm5
      clear hg3
      go_wp2_with fail
      refine (rlives_any _ Hm5.out).mono ?_
      rintro e yz ⟨rfl, hgz⟩
      have Hfz := Lib.hid (Hf5.out.trans hgz)
      clear hgz
      go_wp2_with fail
      go_ret
      exact ⟨rfl, Hfz.out.below (Nat.le_refl _) (fun _ _ h => h)⟩
    obtain ⟨hZ1n, hAp⟩ := app_path Hbo.out Hz1.out Hb0.out hiA
    have hu := Hbo.out.app Hz1.out
    cases hiB : isPathL ((pathOf b ++ pathOf Z1) ++ pathOf Z2)
    · rw [hiA] at hpA
      rw [hiB] at hpB
      have Hf4 := Lib.hid hf4
      have HB4 := Lib.hid hB4
      have Hm4 := Lib.hid hm4
      have Hg2 := Lib.hid hg2
      have HpA := Lib.hid hpA
      have HpB := Lib.hid hpB
      have HiA := Lib.hid hiA
      have HiB := Lib.hid hiB
      have HZ1n := Lib.hid hZ1n
      have HAp := Lib.hid hAp
      have Hu := Lib.hid hu
      clear hf4 hB4 hm4 hg2 hpA hpB hiA hiB hZ1n hAp hu
      go_wp2_with (refine wpl_add (by rfl) _ _ (by rfl) _ _ _ (by rfl) (by rfl) (Hadd.out _) ?_)
      refine (HpA.out _ Hm4.out).mono ?_
      rintro e y3 ⟨rfl, hg3⟩
      have hf5 := Hf4.out.trans hg3
      have hm5 := hmax.keep hf5
      have Hf5 := Lib.hid hf5
      have Hm5 := Lib.hid hm5
      clear hf5 hm5
      clear hg3
      go_wp2_with fail
      refine (HpB.out _ Hm5.out).mono ?_
      rintro e y4 ⟨rfl, hg4⟩
      have hf6 := Hf5.out.trans hg4
      have hm6 := hmax.keep hf6
      have Hf6 := Lib.hid hf6
      have Hm6 := Lib.hid hm6
      clear hf6 hm6
      clear hg4
      go_wp2_with fail
      refine (rlives_any _ Hm6.out).mono ?_
      rintro e yz ⟨rfl, hgz⟩
      have Hfz := Lib.hid (Hf6.out.trans hgz)
      clear hgz
      go_wp2_with fail
      go_ret
      exact ⟨rfl, Hfz.out.below (Nat.le_refl _) (fun _ _ h => h)⟩
    rw [hAp] at hiB
    obtain ⟨hZ2n, hBp⟩ := app_path hu Hz2.out (by intro e; exact Hb0.out (List.append_eq_nil_iff.1 e).1) hiB
    have hla := path_len hiA
    have hlb := path_len hiB
    rw [hAp] at hla
    rw [hBp] at hlb
    have hAl : A.data.toList = pathOf (b ++ Z1) := by rw [HA1.out, hAp]
    have hBl : Bv.data.toList = pathOf ((b ++ Z1) ++ Z2) := by rw [HB1.out, hAp, hBp]
    rw [hiA] at hpA
    rw [hAp, hiB] at hpB
    have hpfs : pfx.size ≤ 1000 := by
      rcases Hpx.out with h | ⟨c, _, h, hl⟩
      · rw [← ba_len, h]; simp
      · rw [← ba_len, h]; omega
    have hr1 := fun w h => rew_path_any b Hbo.out (by have := Hbl.out; omega) false pfx hpfs sa ns sc da nd dc A (by omega) w h
    have hr2 := fun w h => rew_path_any b Hbo.out (by have := Hbl.out; omega) false pfx hpfs sa ns sc da nd dc Bv (by omega) w h
    rw [hAl] at hr1
    rw [hBl] at hr2
    unfold ruleV ruleC at hr1 hr2
    rw [← Hmp.out] at hr1 hr2
    have key : bs (rewP pfx.data.toList b false (pathOf (b ++ Z1))) = A ∨ bs (rewP pfx.data.toList b false (pathOf ((b ++ Z1) ++ Z2))) = Bv ∨ onL (bs (rewP pfx.data.toList b false (pathOf (b ++ Z1)))) false (bs (rewP pfx.data.toList b false (pathOf ((b ++ Z1) ++ Z2)))) = true := by
      rcases Hpx.out with h | ⟨c, hc, h, hl⟩
      · left
        rw [h]; unfold rewP; rw [if_pos rfl, ← hAl, bs_of]
      · by_cases e1 : rewP (pathOf c) b false (pathOf (b ++ Z1)) = pathOf (b ++ Z1)
        · left; rw [h, e1, ← hAl, bs_of]
        · by_cases e2 : rewP (pathOf c) b false (pathOf ((b ++ Z1) ++ Z2)) = pathOf ((b ++ Z1) ++ Z2)
          · right; left; rw [h, e2, ← hBl, bs_of]
          · right; right
            have hk := rew_begins hu Hz2.out Hbo.out hc hla hlb e1 e2
            rw [h]
            unfold onL
            rw [if_neg Bool.false_ne_true, bs_list, bs_list, hk.1, hk.2]; rfl
    have hPs : (bs (rewP pfx.data.toList b false (pathOf (b ++ Z1)))).size ≤ 1000 := rew_small (by rw [ba_len]; omega) (by rw [← hAl, ba_len]; omega)
    have hQs : (bs (rewP pfx.data.toList b false (pathOf ((b ++ Z1) ++ Z2)))).size ≤ 1000 := rew_small (by rw [ba_len]; omega) (by rw [← hBl, ba_len]; omega)
    generalize bs (rewP pfx.data.toList b false (pathOf (b ++ Z1))) = P at *
    generalize bs (rewP pfx.data.toList b false (pathOf ((b ++ Z1) ++ Z2))) = Q at *
    have hon := fun w h => on_any P false none 0 0 Q w (by omega) h
    generalize onL P false Q = oq at *
    have Hf4 := Lib.hid hf4
    have HB4 := Lib.hid hB4
    have Hm4 := Lib.hid hm4
    have Hg2 := Lib.hid hg2
    have HpA := Lib.hid hpA
    have HpB := Lib.hid hpB
    have HiA := Lib.hid hiA
    have HiB := Lib.hid hiB
    have HZ1n := Lib.hid hZ1n
    have HAp := Lib.hid hAp
    have Hu := Lib.hid hu
    have HZ2n := Lib.hid hZ2n
    have HBp := Lib.hid hBp
    have Hla := Lib.hid hla
    have Hlb := Lib.hid hlb
    have HAl := Lib.hid hAl
    have HBl := Lib.hid hBl
    have Hr1 := Lib.hid hr1
    have Hr2 := Lib.hid hr2
    have HPs := Lib.hid hPs
    have HQs := Lib.hid hQs
    have Hon := Lib.hid hon
    have Hpfs := Lib.hid hpfs
    clear hf4 hB4 hm4 hg2 hpA hpB hiA hiB hZ1n hAp hu hZ2n hBp hla hlb hAl hBl hr1 hr2 hPs hQs hon hpfs
    go_wp2_with (refine wpl_add (by rfl) _ _ (by rfl) _ _ _ (by rfl) (by rfl) (Hadd.out _) ?_)
    refine (HpA.out _ Hm4.out).mono ?_
    rintro e y3 ⟨rfl, hg3⟩
    have hf5 := Hf4.out.trans hg3
    have hB5 := HB4.out.frm hg3 (fun h => h)
    have hm5 := hmax.keep hf5
    have Hf5 := Lib.hid hf5
    have Hm5 := Lib.hid hm5
    have HB5 := Lib.hid hB5
    have Hg3 := Lib.hid hg3
    clear hf5 hm5 hB5 hg3
    go_wp2_with fail
    refine (HpB.out _ Hm5.out).mono ?_
    rintro e y4 ⟨rfl, hg4⟩
    have hf6 := Hf5.out.trans hg4
    have bL := HB5.out.frm hg4 (fun h => h)
    have hm6 := hmax.keep hf6
    have Hf6 := Lib.hid hf6
    have Hm6 := Lib.hid hm6
    have Hg4 := Lib.hid hg4
    clear hf6 hm6 hg4
    go_wp2_with (refine wpl_load_blk (by rfl) 35 _ (by rfl) _ (by rfl) _ _ (by exact bL) _ Tryd.underlying35 (by rfl) (by exact info_rule) ?_)
    refine (Hr1.out _ Hm6.out).mono ?_
    rintro e y5 ⟨rfl, hg5⟩
    have hf7 := Hf6.out.trans hg5
    have hB7 := bL.frm hg5 (fun h => h)
    clear bL
    have bL := hB7
    have hm7 := hmax.keep hf7
    have Hf7 := Lib.hid hf7
    have Hm7 := Lib.hid hm7
    have Hg5 := Lib.hid hg5
    have HB7 := Lib.hid hB7
    clear hf7 hm7 hg5 hB7
    go_wp2_with (refine wpl_load_blk (by rfl) 35 _ (by rfl) _ (by rfl) _ _ (by exact bL) _ Tryd.underlying35 (by rfl) (by exact info_rule) ?_)
    refine (Hr2.out _ Hm7.out).mono ?_
    rintro e y6 ⟨rfl, hg6⟩
    have hf8 := Hf7.out.trans hg6
    have hm8 := hmax.keep hf8
    clear bL
    have Hf8 := Lib.hid hf8
    have Hm8 := Lib.hid hm8
    have Hg6 := Lib.hid hg6
    clear hf8 hm8 hg6
    by_cases hPA : P = A
    · have t2 := str_yes hPA
      have HPA := Lib.hid hPA
      have Hkey := Lib.hid key
      clear hPA key
      go_wp2_with fail
      refine (rlives_any _ Hm8.out).mono ?_
      rintro e yz ⟨rfl, hgz⟩
      have Hfz := Lib.hid (Hf8.out.trans hgz)
      clear hgz
      go_wp2_with fail
      go_ret
      exact ⟨rfl, Hfz.out.below (Nat.le_refl _) (fun _ _ h => h)⟩
    have t2 := str_ne hPA
    by_cases hQB : Q = Bv
    · have t3 := str_yes hQB
      have HPA := Lib.hid hPA
      have HQB := Lib.hid hQB
      have Hkey := Lib.hid key
      clear hPA hQB key
      go_wp2_with fail
      refine (rlives_any _ Hm8.out).mono ?_
      rintro e yz ⟨rfl, hgz⟩
      have Hfz := Lib.hid (Hf8.out.trans hgz)
      clear hgz
      go_wp2_with fail
      go_ret
      exact ⟨rfl, Hfz.out.below (Nat.le_refl _) (fun _ _ h => h)⟩
    have t3 := str_ne hQB
    have hoq : oq = true := by
      rcases key with h | h | h
      · exact absurd h hPA
      · exact absurd h hQB
      · exact h
    have HPA := Lib.hid hPA
    have HQB := Lib.hid hQB
    have Hkey := Lib.hid key
    have Hoq := Lib.hid hoq
    clear hPA hQB key hoq
    go_wp2_with fail
    refine (Hon.out _ Hm8.out).mono ?_
    rintro e y7 ⟨rfl, hg7⟩
    rw [Hoq.out]
    have hf9 := Hf8.out.trans hg7
    have hm9 := hmax.keep hf9
    have Hf9 := Lib.hid hf9
    have Hm9 := Lib.hid hm9
    have Hg7 := Lib.hid hg7
    clear hf9 hm9 hg7
    go_wp2_with fail
    refine (rlives_any _ Hm9.out).mono ?_
    rintro e yz ⟨rfl, hgz⟩
    have Hfz := Lib.hid (Hf9.out.trans hgz)
    clear hgz
    go_wp2_with fail
    go_ret
    exact ⟨rfl, Hfz.out.below (Nat.le_refl _) (fun _ _ h => h)⟩
  · have Hb0 := Lib.hid hb0
    have Hmp47 := Lib.hid hmp47
    clear hb0 hmp47
    go_wp2_with fail
    refine (rlives_any _ Hm2.out).mono ?_
    rintro e yz ⟨rfl, hgz⟩
    have Hfz := Lib.hid (Hf2.out.trans hgz)
    clear hgz
    go_wp2_with fail
    go_ret
    exact ⟨rfl, Hfz.out.below (Nat.le_refl _) (fun _ _ h => h)⟩
end Go.Proofs.YtbeilgkogbcjjaaDoor
