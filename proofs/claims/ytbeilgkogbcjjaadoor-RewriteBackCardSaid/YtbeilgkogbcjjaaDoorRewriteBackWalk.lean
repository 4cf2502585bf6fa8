/- The walk of the statement RewriteBack. -/
import Derived.Test.YtbeilgkogbcjjaaDoorRule
import Derived.Test.YtbeilgkogbcjjaaDoorRewHeads
import Derived.Test.YtbeilgkogbcjjaaDoorShaped
import Derived.Test.YtbeilgkogbcjjaaDoorHeadEq
import Derived.Test.YtbeilgkogbcjjaaDoorStoreNew
import Derived.StillTailTactics
import Derived.Deep.RegionHeld3
import Derived.Outline
set_option linter.unusedVariables false
namespace Go.Proofs.YtbeilgkogbcjjaaDoor
open Go.RowKit

set_option maxRecDepth 100000 in
set_option maxHeartbeats 4000000 in
theorem rewriteBack_walk (a0 : Option Addr) (len0 cap0 : Nat) (z0 : List Int) (a1 : Int) (w : World) (w0 : IsRow .i64 w a0 len0 cap0 z0) (w1 : (Lit.int .i64 a1).wf = true) (hmax : MaxL w) :
    Calls Tryd.prog 5 #[.slice a0 len0 cap0, .int .i64 a1] w fun e w' => e = .returned (.bool true) ∧ Below w.heap.size w w' := by
  obtain ⟨xs, h0⟩ := w0.list
  have hcap := w0.caps
  have hb1 := wf_i64 w1
  have H0 := Lib.hid h0
  have Hb1 := Lib.hid hb1
  clear h0 hb1
  clear w0 w1
  go_enter Tryd.func5, Tryd.ntmps5
  go_wp2_with fail
  with_reducible refine (rule_any a0 len0 cap0 xs _ H0.out hcap.1 hcap.2).mono ?_
  rintro e x1 ⟨sv, dv, rfl, hs, hd, hf1⟩
  obtain ⟨sa, sc, rfl, _⟩ := hs.shape
  obtain ⟨da, dc, rfl, _⟩ := hd.shape
  obtain ⟨ns, hns⟩ : ∃ n, n = (genH ((xs.drop 4).take 4)).length := ⟨_, rfl⟩
  obtain ⟨nd, hnd⟩ : ∃ n, n = (namesH ((xs.drop 8).take 6)).length := ⟨_, rfl⟩
  rw [← hns] at hs ⊢
  rw [← hnd] at hd ⊢
  have hgS := GoodL.gen ((xs.drop 4).take 4)
  generalize genH ((xs.drop 4).take 4) = SS at *
  generalize namesH ((xs.drop 8).take 6) = DD at *
  have hbo := ofZ_ok (numAt xs 0)
  have hbl := ofZ_len (numAt xs 0)
  have hpx := pfx_cases (numAt xs 3) (numAt xs 1)
  generalize ofZ (numAt xs 0) = b at *
  generalize decide (around (numAt xs 2) 4 = 1) = ex at *
  generalize pfxOf (numAt xs 3) (numAt xs 1) = pfx at *
  obtain ⟨mp, hmp⟩ : ∃ mp, mp = bs (pathOf b) := ⟨_, rfl⟩
  rw [← hmp]
  unfold ruleV ruleC
  have fa := (Frm.refl noB x1).alloc (.cells (ruleC mp ex pfx (.slice sa ns sc) (.slice da nd dc)) 35)
  have hB := Blk.made x1 (ruleC mp ex pfx (.slice sa ns sc) (.slice da nd dc)) 35
  unfold ruleC at fa hB
  have hs1 := hs.keep fa
  have hd1 := hd.keep fa
  have hf2 := hf1.trans fa
  have hm2 := hmax.keep hf2
  have Hs := Lib.hid hs
  have Hd := Lib.hid hd
  have Hf1 := Lib.hid hf1
  have Hns := Lib.hid hns
  have Hnd := Lib.hid hnd
  have Hmp := Lib.hid hmp
  have Hfa := Lib.hid fa
  have HB := Lib.hid hB
  have Hs1 := Lib.hid hs1
  have Hd1 := Lib.hid hd1
  have Hf2 := Lib.hid hf2
  have Hm2 := Lib.hid hm2
  have Hbo := Lib.hid hbo
  have Hbl := Lib.hid hbl
  have Hpx := Lib.hid hpx
  have HgS := Lib.hid hgS
  clear hs hd hf1 hns hnd hmp fa hB hs1 hd1 hf2 hm2 hbo hbl hpx hgS
  have hw1 := Hf1.out.size
  go_upto_region 2 with (refine wpl_store_new _ (by rfl) 35 _ _ (by rfl) _ (by rfl) (by first | rfl | simp) _ _ _ (by rfl) (by exact info_rule) (by rfl) (by kernel_rfl) ?_)
  generalize x1.alloc (.cells #[.string mp, .bool ex, .slice none 0 0, .slice none 0 0, .int .i64 0, .int .i64 0, .int .i64 0, .int .i64 0, .string pfx, .slice sa ns sc, .slice da nd dc, .int .i64 0, .int .i64 0, .int .i64 0, .int .i64 0, .int .i64 0, .int .i64 0, .int .i64 0, .int .i64 0] 35) = W at *
  have b1 := (HB.out.cell 1).trans (show _ = some (Value.bool ex) from rfl)
  have y1 := HB.out.free 1
  have bl := HB.out.lt
  have hB3 := HB.out.set 1 (.bool false)
  rw [show (#[.string mp, .bool ex, .slice none 0 0, .slice none 0 0, .int .i64 0, .int .i64 0, .int .i64 0, .int .i64 0, .string pfx, .slice sa ns sc, .slice da nd dc, .int .i64 0, .int .i64 0, .int .i64 0, .int .i64 0, .int .i64 0, .int .i64 0, .int .i64 0, .int .i64 0] : Array Value).setIfInBounds 1 (.bool false) = #[.string mp, .bool false, .slice none 0 0, .slice none 0 0, .int .i64 0, .int .i64 0, .int .i64 0, .int .i64 0, .string pfx, .slice sa ns sc, .slice da nd dc, .int .i64 0, .int .i64 0, .int .i64 0, .int .i64 0, .int .i64 0, .int .i64 0, .int .i64 0, .int .i64 0] from rfl] at hB3
  have hf3 := Hf2.out.setNew (p := ⟨x1.heap.size, 1, none⟩) hw1 (.bool false)
  go_upto_region 3 with fail
  generalize W.setCell ⟨x1.heap.size, 1, none⟩ (.bool false) = W3 at *
  clear b1 y1 bl
  have b0 := (hB3.cell 0).trans (show _ = some (Value.string mp) from rfl)
  obtain ⟨Z1, hZ1⟩ : ∃ Z, Z = ofZ a1 := ⟨_, rfl⟩
  have ho1 := fun w => of_any a1 w Hb1.out.1 Hb1.out.2
  have hz1 := ofZ_ok a1
  have hl1 := ofZ_len a1
  rw [← hZ1] at ho1 hz1 hl1
  have hmps : mp.size ≤ 60 := by rw [Hmp.out, bs_size]; exact Hbl.out
  obtain ⟨q1, hq1⟩ : ∃ q, q = bs (pathOf Z1) := ⟨_, rfl⟩
  rw [← hq1] at ho1
  have hs1 : q1.size ≤ 60 := by rw [hq1, bs_size]; exact hl1
  have hsum : (9223372036854775807 < mp.size + q1.size) = False := by simp; omega
  have hA1 : (mp ++ q1).data.toList = pathOf b ++ pathOf Z1 := by rw [Hmp.out, hq1, bs_app, bs_list]
  have hAs : (mp ++ q1).size ≤ 200 := by rw [ByteArray.size_append]; omega
  have Ho1 := Lib.hid ho1
  have Hz1 := Lib.hid hz1
  have Hl1 := Lib.hid hl1
  have HZ1 := Lib.hid hZ1
  have Hq1 := Lib.hid hq1
  have HA1 := Lib.hid hA1
  have HAs := Lib.hid hAs
  have Hs1 := Lib.hid hs1
  have Hmps := Lib.hid hmps
  have Hf3 := Lib.hid hf3
  have HB3 := Lib.hid hB3
  clear ho1 hz1 hl1 hZ1 hq1 hA1 hAs hs1 hmps hf3 hB3
  go_region_held3 (fun X => X.cell? ⟨x1.heap.size, 0, none⟩ = some (.string mp)) (first | (with_reducible assumption) | exact b0)
    (first
      | (go_at_call 11; (with_reducible refine (Ho1.out _).mono ?_); rintro e y1 ⟨rfl, hg1⟩; have c0 := cell_frm hg1 (fun h => h) b0))
  have hf4 := (Hf3.out.drew).trans hg1
  have hB4 := (HB3.out.frm (Frm.refl noB W3).drew (fun h => h)).frm hg1 (fun h => h)
  clear hsum b0
  obtain ⟨A, hA⟩ : ∃ A, A = mp ++ q1 := ⟨_, rfl⟩
  rw [← hA]
  have hA1 := HA1.out
  have hAs := HAs.out
  rw [← hA] at hA1 hAs
  clear HA1 HAs
  have hm4 := hmax.keep hf4
  have hw1 := 0
  clear hw1
  by_cases hb0 : b = []
  · have t1 : (mp.toList == [47]) = true := slash_yes (by rw [Hmp.out, hb0]; rfl)
    have hpt : mp.data.toList = pathOf b := by rw [Hmp.out, bs_list]
    have hpl : mp.size ≤ 300 := by have := Hmps.out; omega
    have Hb0 := Lib.hid hb0
    have HA1 := Lib.hid hA1
    have HAs := Lib.hid hAs
    have HA := Lib.hid hA
    have Hg1 := Lib.hid hg1
    clear hb0 hA1 hAs hA hg1
    have hf5 := hf4
    have hB5 := hB4
    have hm5 := hm4
    have ha := Hbo.out
    obtain ⟨a, haa⟩ : ∃ a, a = b := ⟨_, rfl⟩
    rw [← haa] at hpt ha
    obtain ⟨pt, hptt⟩ : ∃ pt, pt = mp := ⟨_, rfl⟩
    rw [← hptt] at hpt hpl
    go_upto_region 6 with fail
    rw [← hptt]
    have Haa := Lib.hid haa
    have Hptt := Lib.hid hptt
    have Hf4 := Lib.hid hf4
    have HB4 := Lib.hid hB4
    have Hm4 := Lib.hid hm4
    clear haa hptt hf4 hB4 hm4
    clear t1 c0
    have hpp := fun w h => path_any pt w (by omega) h
    rw [hpt] at hpp
    cases hi : isPathL (pathOf a)
    · rw [hi] at hpp
      have Hpp := Lib.hid hpp
      have Hi := Lib.hid hi
      have Hpt := Lib.hid hpt
      have Ha := Lib.hid ha
      have Hf5 := Lib.hid hf5
      have HB5 := Lib.hid hB5
      have Hm5 := Lib.hid hm5
      have Hpl := Lib.hid hpl
      clear hpp hi hpt ha hf5 hB5 hm5 hpl
      go_wp2_with fail
      refine (Hpp.out _ Hm5.out).mono ?_
      rintro e y3 ⟨rfl, hg3⟩
      have hf6 := Hf5.out.trans hg3
      have hm6 := hmax.keep hf6
      have Hf6 := Lib.hid hf6
      have Hm6 := Lib.hid hm6
      clear hf6 hm6
      clear hg3
      go_wp2_with fail
      refine (rlives_any _ Hm6.out).mono ?_
      rintro e yz ⟨rfl, hgz⟩
      have Hfz := Lib.hid (Hf6.out.trans hgz)
      clear hgz
      go_wp2_with fail
      go_ret
      exact ⟨rfl, Hfz.out.below (Nat.le_refl _) (fun _ _ h => h)⟩
    rw [hi] at hpp
    have hla := path_len hi
    have hpfs : pfx.size ≤ 1000 := by
      rcases Hpx.out with h | ⟨c, _, h, hl⟩
      · rw [← ba_len, h]; simp
      · rw [← ba_len, h]; omega
    by_cases hp0 : pfx.data.toList = []
    · have t5 := empty_yes hp0
      have t6 : pfx.toList = [] := by rw [ByteArray.toList_eq]; exact hp0
      have Hpp := Lib.hid hpp
      have Hi := Lib.hid hi
      have Hpt := Lib.hid hpt
      have Ha := Lib.hid ha
      have Hf5 := Lib.hid hf5
      have HB5 := Lib.hid hB5
      have Hm5 := Lib.hid hm5
      have Hpl := Lib.hid hpl
      have Hla := Lib.hid hla
      have Hp0 := Lib.hid hp0
      clear hpp hi hpt ha hf5 hB5 hm5 hpl hla hp0
      go_wp2_with fail
      refine (Hpp.out _ Hm5.out).mono ?_
      rintro e y3 ⟨rfl, hg3⟩
      have hf6 := Hf5.out.trans hg3
      have hm6 := hmax.keep hf6
      have b8 := ((HB5.out.frm hg3 (fun h => h)).cell 8).trans (show _ = some (Value.string pfx) from rfl)
      have Hf6 := Lib.hid hf6
      have Hm6 := Lib.hid hm6
      clear hf6 hm6
      clear hg3
      go_wp2_with fail
      refine (rlives_any _ Hm6.out).mono ?_
      rintro e yz ⟨rfl, hgz⟩
      have Hfz := Lib.hid (Hf6.out.trans hgz)
      clear hgz
      go_wp2_with fail
      go_ret
      exact ⟨rfl, Hfz.out.below (Nat.le_refl _) (fun _ _ h => h)⟩
    have t5 := empty_test hp0
    have t6 : ¬ pfx.toList = [] := by rw [ByteArray.toList_eq]; exact hp0
    obtain ⟨c, hc, hpc, hcl⟩ : ∃ c, PartsOk c ∧ pfx.data.toList = pathOf c ∧ (pathOf c).length ≤ 60 := by
      rcases Hpx.out with h | h
      · exact absurd h hp0
      · exact h
    have hpb : pfx = bs (pathOf c) := by rw [← hpc, bs_of]
    have hr1 := fun w h => rew_path_any b Hbo.out (by have := Hbl.out; omega) false pfx hpfs sa ns sc da nd dc pt (by omega) w h
    rw [hpt] at hr1
    have hkey : ¬ bs (rewP pfx.data.toList b false (pathOf a)) = pt → bs (rewP mp.data.toList c false (rewP pfx.data.toList b false (pathOf a))) = pt := fun hne => by
      have hne2 : rewP (pathOf c) b false (pathOf a) ≠ pathOf a := fun e => hne (by rw [hpc, e, ← hpt, bs_of])
      have := rew_back ha Hbo.out hc hla hne2
      rw [hpc, Hmp.out, bs_list, this, ← hpt, bs_of]
    have hPs : (bs (rewP pfx.data.toList b false (pathOf a))).size ≤ 1000 := rew_small (by rw [ba_len]; omega) (by omega)
    have hr2 := fun w h => rew_path_any c hc (by omega) false mp (by have := Hmps.out; omega) none 0 0 none 0 0 (bs (rewP pfx.data.toList b false (pathOf a))) hPs w h
    rw [← hpb, bs_list] at hr2
    unfold ruleV ruleC at hr1 hr2
    rw [← Hmp.out] at hr1
    generalize bs (rewP mp.data.toList c false (rewP pfx.data.toList b false (pathOf a))) = Q at *
    generalize bs (rewP pfx.data.toList b false (pathOf a)) = PP at *
    have Hpp := Lib.hid hpp
    have Hi := Lib.hid hi
    have Hpt := Lib.hid hpt
    have Ha := Lib.hid ha
    have Hf5 := Lib.hid hf5
    have HB5 := Lib.hid hB5
    have Hm5 := Lib.hid hm5
    have Hpl := Lib.hid hpl
    have Hla := Lib.hid hla
    have Hp0 := Lib.hid hp0
    have Hc := Lib.hid hc
    have Hpc := Lib.hid hpc
    have Hcl := Lib.hid hcl
    have Hpb := Lib.hid hpb
    have Hr1 := Lib.hid hr1
    have Hr2 := Lib.hid hr2
    have HPs := Lib.hid hPs
    have Hpfs := Lib.hid hpfs
    clear hpp hi hpt ha hf5 hB5 hm5 hpl hla hp0 hc hpc hcl hpb hr1 hr2 hPs hpfs
    go_wp2_with fail
    refine (Hpp.out _ Hm5.out).mono ?_
    rintro e y3 ⟨rfl, hg3⟩
    have hf6 := Hf5.out.trans hg3
    have hm6 := hmax.keep hf6
    have hB6 := HB5.out.frm hg3 (fun h => h)
    have b8 := (hB6.cell 8).trans (show _ = some (Value.string pfx) from rfl)
    have bL := hB6
    have Hf6 := Lib.hid hf6
    have Hm6 := Lib.hid hm6
    have Hg3 := Lib.hid hg3
    have HB6 := Lib.hid hB6
    clear hf6 hm6 hg3 hB6
    go_wp2_with (refine wpl_load_blk (by rfl) 35 _ (by rfl) _ (by rfl) _ _ (by exact bL) _ Tryd.underlying35 (by rfl) (by exact info_rule) ?_)
    refine (Hr1.out _ Hm6.out).mono ?_
    rintro e y4 ⟨rfl, hg4⟩
    have hf7 := Hf6.out.trans hg4
    have hm7 := hmax.keep hf7
    have hB7 := HB6.out.frm hg4 (fun h => h)
    clear bL b8
    have b0 := (hB7.cell 0).trans (show _ = some (Value.string mp) from rfl)
    have b8 := (hB7.cell 8).trans (show _ = some (Value.string pfx) from rfl)
    by_cases hPt : PP = pt
    · have t7 := str_yes hPt
      have HPt := Lib.hid hPt
      have Hf7 := Lib.hid hf7
      have Hm7 := Lib.hid hm7
      have Hg4 := Lib.hid hg4
      have HB7 := Lib.hid hB7
      have Hkey := Lib.hid hkey
      clear hPt hf7 hm7 hg4 hB7 hkey
      go_wp2_with fail
      refine (rlives_any _ Hm7.out).mono ?_
      rintro e yz ⟨rfl, hgz⟩
      have Hfz := Lib.hid (Hf7.out.trans hgz)
      clear hgz
      go_wp2_with fail
      go_ret
      exact ⟨rfl, Hfz.out.below (Nat.le_refl _) (fun _ _ h => h)⟩
    have t7 := str_ne hPt
    have hQ := hkey hPt
    have t8 : (pt.toList == pt.toList) = true := by simp
    have fb := (Frm.refl noB y4).alloc (.cells #[.string pfx, .bool false, .slice none 0 0, .slice none 0 0, .int .i64 0, .int .i64 0, .int .i64 0, .int .i64 0, .string mp, .slice none 0 0, .slice none 0 0, .int .i64 0, .int .i64 0, .int .i64 0, .int .i64 0, .int .i64 0, .int .i64 0, .int .i64 0, .int .i64 0] 35)
    have bL := Blk.made y4 #[.string pfx, .bool false, .slice none 0 0, .slice none 0 0, .int .i64 0, .int .i64 0, .int .i64 0, .int .i64 0, .string mp, .slice none 0 0, .slice none 0 0, .int .i64 0, .int .i64 0, .int .i64 0, .int .i64 0, .int .i64 0, .int .i64 0, .int .i64 0, .int .i64 0] 35
    have hf8 := hf7.trans fb
    have hm8 := hmax.keep hf8
    have HPt := Lib.hid hPt
    have Hf7 := Lib.hid hf7
    have Hm7 := Lib.hid hm7
    have Hg4 := Lib.hid hg4
    have HB7 := Lib.hid hB7
    have Hkey := Lib.hid hkey
    have HQ := Lib.hid hQ
    have Hfb := Lib.hid fb
    have Hf8 := Lib.hid hf8
    have Hm8 := Lib.hid hm8
    clear hPt hf7 hm7 hg4 hB7 hkey hQ fb hf8 hm8
    go_wp2_with (first | (refine wpl_load_blk (by rfl) 35 _ (by rfl) _ (by rfl) _ _ (by exact bL) _ Tryd.underlying35 (by rfl) (by exact info_rule) ?_) | (refine wpl_store_new _ (by rfl) 35 _ _ (by rfl) _ (by rfl) (by first | rfl | simp) _ _ _ (by rfl) (by exact info_rule) (by rfl) (by kernel_rfl) ?_))
    refine (Hr2.out _ Hm8.out).mono ?_
    rintro e y5 ⟨rfl, hg5⟩
    rw [HQ.out]
    have hf9 := Hf8.out.trans hg5
    have hm9 := hmax.keep hf9
    have Hf9 := Lib.hid hf9
    have Hm9 := Lib.hid hm9
    have Hg5 := Lib.hid hg5
    clear hf9 hm9 hg5
    clear bL
    go_wp2_with fail
    refine (rlives_any _ Hm9.out).mono ?_
    rintro e yz ⟨rfl, hgz⟩
    have Hfz := Lib.hid (Hf9.out.trans hgz)
    clear hgz
    go_wp2_with fail
    go_ret
    exact ⟨rfl, Hfz.out.below (Nat.le_refl _) (fun _ _ h => h)⟩
  have hmp47 : ¬ mp = ⟨#[47]⟩ := fun e => by
    have h1 : mp.data.toList = [47] := by rw [e]
    rw [Hmp.out, bs_list, pathOf_ne hb0] at h1
    exact join_ne47 Hbo.out h1
  have t1 := slash_test hmp47
  by_cases hz0 : Z1 = []
  · have t2 : (q1.toList == [47]) = true := slash_yes (by rw [Hq1.out, hz0]; rfl)
    have hpt : mp.data.toList = pathOf b := by rw [Hmp.out, bs_list]
    have hpl : mp.size ≤ 300 := by have := Hmps.out; omega
    have Hb0 := Lib.hid hb0
    have HA1 := Lib.hid hA1
    have HAs := Lib.hid hAs
    have HA := Lib.hid hA
    have Hg1 := Lib.hid hg1
    have Hz0 := Lib.hid hz0
    have Hmp47 := Lib.hid hmp47
    have Hf4 := Lib.hid hf4
    have HB4 := Lib.hid hB4
    have Hm4 := Lib.hid hm4
    clear hb0 hA1 hAs hA hg1 hz0 hmp47 hf4 hB4 hm4
    go_wp2_with fail
    refine (Ho1.out _).mono ?_
    rintro e y2 ⟨rfl, hg2⟩
    have hf5 := Hf4.out.trans hg2
    have hB5 := HB4.out.frm hg2 (fun h => h)
    have hm5 := hmax.keep hf5
    have b0 := (hB5.cell 0).trans (show _ = some (Value.string mp) from rfl)
    have ha := Hbo.out
    obtain ⟨a, haa⟩ : ∃ a, a = b := ⟨_, rfl⟩
    rw [← haa] at hpt ha
    obtain ⟨pt, hptt⟩ : ∃ pt, pt = mp := ⟨_, rfl⟩
    rw [← hptt] at hpt hpl
    have Hg2 := Lib.hid hg2
    clear hg2
    go_upto_region 6 with fail
    rw [← hptt]
    have Haa := Lib.hid haa
    have Hptt := Lib.hid hptt
    clear haa hptt
    clear t1 t2 c0 b0
    have hpp := fun w h => path_any pt w (by omega) h
    rw [hpt] at hpp
    cases hi : isPathL (pathOf a)
    · rw [hi] at hpp
      have Hpp := Lib.hid hpp
      have Hi := Lib.hid hi
      have Hpt := Lib.hid hpt
      have Ha := Lib.hid ha
      have Hf5 := Lib.hid hf5
      have HB5 := Lib.hid hB5
      have Hm5 := Lib.hid hm5
      have Hpl := Lib.hid hpl
      clear hpp hi hpt ha hf5 hB5 hm5 hpl
      go_wp2_with fail
      refine (Hpp.out _ Hm5.out).mono ?_
      rintro e y3 ⟨rfl, hg3⟩
      have hf6 := Hf5.out.trans hg3
      have hm6 := hmax.keep hf6
      have Hf6 := Lib.hid hf6
      have Hm6 := Lib.hid hm6
      clear hf6 hm6
      clear hg3
      go_wp2_with fail
      refine (rlives_any _ Hm6.out).mono ?_
      rintro e yz ⟨rfl, hgz⟩
      have Hfz := Lib.hid (Hf6.out.trans hgz)
      clear hgz
      go_wp2_with fail
      go_ret
      exact ⟨rfl, Hfz.out.below (Nat.le_refl _) (fun _ _ h => h)⟩
    rw [hi] at hpp
    have hla := path_len hi
    have hpfs : pfx.size ≤ 1000 := by
      rcases Hpx.out with h | ⟨c, _, h, hl⟩
      · rw [← ba_len, h]; simp
      · rw [← ba_len, h]; omega
    by_cases hp0 : pfx.data.toList = []
    · have t5 := empty_yes hp0
      have t6 : pfx.toList = [] := by rw [ByteArray.toList_eq]; exact hp0
      have Hpp := Lib.hid hpp
      have Hi := Lib.hid hi
      have Hpt := Lib.hid hpt
      have Ha := Lib.hid ha
      have Hf5 := Lib.hid hf5
      have HB5 := Lib.hid hB5
      have Hm5 := Lib.hid hm5
      have Hpl := Lib.hid hpl
      have Hla := Lib.hid hla
      have Hp0 := Lib.hid hp0
      clear hpp hi hpt ha hf5 hB5 hm5 hpl hla hp0
      go_wp2_with fail
      refine (Hpp.out _ Hm5.out).mono ?_
      rintro e y3 ⟨rfl, hg3⟩
      have hf6 := Hf5.out.trans hg3
      have hm6 := hmax.keep hf6
      have b8 := ((HB5.out.frm hg3 (fun h => h)).cell 8).trans (show _ = some (Value.string pfx) from rfl)
      have Hf6 := Lib.hid hf6
      have Hm6 := Lib.hid hm6
      clear hf6 hm6
      clear hg3
      go_wp2_with fail
      refine (rlives_any _ Hm6.out).mono ?_
      rintro e yz ⟨rfl, hgz⟩
      have Hfz := Lib.hid (Hf6.out.trans hgz)
      clear hgz
      go_wp2_with fail
      go_ret
      exact ⟨rfl, Hfz.out.below (Nat.le_refl _) (fun _ _ h => h)⟩
    have t5 := empty_test hp0
    have t6 : ¬ pfx.toList = [] := by rw [ByteArray.toList_eq]; exact hp0
    obtain ⟨c, hc, hpc, hcl⟩ : ∃ c, PartsOk c ∧ pfx.data.toList = pathOf c ∧ (pathOf c).length ≤ 60 := by
      rcases Hpx.out with h | h
      · exact absurd h hp0
      · exact h
    have hpb : pfx = bs (pathOf c) := by rw [← hpc, bs_of]
    have hr1 := fun w h => rew_path_any b Hbo.out (by have := Hbl.out; omega) false pfx hpfs sa ns sc da nd dc pt (by omega) w h
    rw [hpt] at hr1
    have hkey : ¬ bs (rewP pfx.data.toList b false (pathOf a)) = pt → bs (rewP mp.data.toList c false (rewP pfx.data.toList b false (pathOf a))) = pt := fun hne => by
      have hne2 : rewP (pathOf c) b false (pathOf a) ≠ pathOf a := fun e => hne (by rw [hpc, e, ← hpt, bs_of])
      have := rew_back ha Hbo.out hc hla hne2
      rw [hpc, Hmp.out, bs_list, this, ← hpt, bs_of]
    have hPs : (bs (rewP pfx.data.toList b false (pathOf a))).size ≤ 1000 := rew_small (by rw [ba_len]; omega) (by omega)
    have hr2 := fun w h => rew_path_any c hc (by omega) false mp (by have := Hmps.out; omega) none 0 0 none 0 0 (bs (rewP pfx.data.toList b false (pathOf a))) hPs w h
    rw [← hpb, bs_list] at hr2
    unfold ruleV ruleC at hr1 hr2
    rw [← Hmp.out] at hr1
    generalize bs (rewP mp.data.toList c false (rewP pfx.data.toList b false (pathOf a))) = Q at *
    generalize bs (rewP pfx.data.toList b false (pathOf a)) = PP at *
    have Hpp := Lib.hid hpp
    have Hi := Lib.hid hi
    have Hpt := Lib.hid hpt
    have Ha := Lib.hid ha
    have Hf5 := Lib.hid hf5
    have HB5 := Lib.hid hB5
    have Hm5 := Lib.hid hm5
    have Hpl := Lib.hid hpl
    have Hla := Lib.hid hla
    have Hp0 := Lib.hid hp0
    have Hc := Lib.hid hc
    have Hpc := Lib.hid hpc
    have Hcl := Lib.hid hcl
    have Hpb := Lib.hid hpb
    have Hr1 := Lib.hid hr1
    have Hr2 := Lib.hid hr2
    have HPs := Lib.hid hPs
    have Hpfs := Lib.hid hpfs
    clear hpp hi hpt ha hf5 hB5 hm5 hpl hla hp0 hc hpc hcl hpb hr1 hr2 hPs hpfs
    go_wp2_with fail
    refine (Hpp.out _ Hm5.out).mono ?_
    rintro e y3 ⟨rfl, hg3⟩
    have hf6 := Hf5.out.trans hg3
    have hm6 := hmax.keep hf6
    have hB6 := HB5.out.frm hg3 (fun h => h)
    have b8 := (hB6.cell 8).trans (show _ = some (Value.string pfx) from rfl)
    have bL := hB6
    have Hf6 := Lib.hid hf6
    have Hm6 := Lib.hid hm6
    have Hg3 := Lib.hid hg3
    have HB6 := Lib.hid hB6
    clear hf6 hm6 hg3 hB6
    go_wp2_with (refine wpl_load_blk (by rfl) 35 _ (by rfl) _ (by rfl) _ _ (by exact bL) _ Tryd.underlying35 (by rfl) (by exact info_rule) ?_)
    refine (Hr1.out _ Hm6.out).mono ?_
    rintro e y4 ⟨rfl, hg4⟩
    have hf7 := Hf6.out.trans hg4
    have hm7 := hmax.keep hf7
    have hB7 := HB6.out.frm hg4 (fun h => h)
    clear bL b8
    have b0 := (hB7.cell 0).trans (show _ = some (Value.string mp) from rfl)
    have b8 := (hB7.cell 8).trans (show _ = some (Value.string pfx) from rfl)
    by_cases hPt : PP = pt
    · have t7 := str_yes hPt
      have HPt := Lib.hid hPt
      have Hf7 := Lib.hid hf7
      have Hm7 := Lib.hid hm7
      have Hg4 := Lib.hid hg4
      have HB7 := Lib.hid hB7
      have Hkey := Lib.hid hkey
      clear hPt hf7 hm7 hg4 hB7 hkey
      go_wp2_with fail
      refine (rlives_any _ Hm7.out).mono ?_
      rintro e yz ⟨rfl, hgz⟩
      have Hfz := Lib.hid (Hf7.out.trans hgz)
      clear hgz
      go_wp2_with fail
      go_ret
      exact ⟨rfl, Hfz.out.below (Nat.le_refl _) (fun _ _ h => h)⟩
    have t7 := str_ne hPt
    have hQ := hkey hPt
    have t8 : (pt.toList == pt.toList) = true := by simp
    have fb := (Frm.refl noB y4).alloc (.cells #[.string pfx, .bool false, .slice none 0 0, .slice none 0 0, .int .i64 0, .int .i64 0, .int .i64 0, .int .i64 0, .string mp, .slice none 0 0, .slice none 0 0, .int .i64 0, .int .i64 0, .int .i64 0, .int .i64 0, .int .i64 0, .int .i64 0, .int .i64 0, .int .i64 0] 35)
    have bL := Blk.made y4 #[.string pfx, .bool false, .slice none 0 0, .slice none 0 0, .int .i64 0, .int .i64 0, .int .i64 0, .int .i64 0, .string mp, .slice none 0 0, .slice none 0 0, .int .i64 0, .int .i64 0, .int .i64 0, .int .i64 0, .int .i64 0, .int .i64 0, .int .i64 0, .int .i64 0] 35
    have hf8 := hf7.trans fb
    have hm8 := hmax.keep hf8
    have HPt := Lib.hid hPt
    have Hf7 := Lib.hid hf7
    have Hm7 := Lib.hid hm7
    have Hg4 := Lib.hid hg4
    have HB7 := Lib.hid hB7
    have Hkey := Lib.hid hkey
    have HQ := Lib.hid hQ
    have Hfb := Lib.hid fb
    have Hf8 := Lib.hid hf8
    have Hm8 := Lib.hid hm8
    clear hPt hf7 hm7 hg4 hB7 hkey hQ fb hf8 hm8
    go_wp2_with (first | (refine wpl_load_blk (by rfl) 35 _ (by rfl) _ (by rfl) _ _ (by exact bL) _ Tryd.underlying35 (by rfl) (by exact info_rule) ?_) | (refine wpl_store_new _ (by rfl) 35 _ _ (by rfl) _ (by rfl) (by first | rfl | simp) _ _ _ (by rfl) (by exact info_rule) (by rfl) (by kernel_rfl) ?_))
    refine (Hr2.out _ Hm8.out).mono ?_
    rintro e y5 ⟨rfl, hg5⟩
    rw [HQ.out]
    have hf9 := Hf8.out.trans hg5
    have hm9 := hmax.keep hf9
    have Hf9 := Lib.hid hf9
    have Hm9 := Lib.hid hm9
    have Hg5 := Lib.hid hg5
    clear hf9 hm9 hg5
    clear bL
    go_wp2_with fail
    refine (rlives_any _ Hm9.out).mono ?_
    rintro e yz ⟨rfl, hgz⟩
    have Hfz := Lib.hid (Hf9.out.trans hgz)
    clear hgz
    go_wp2_with fail
    go_ret
    exact ⟨rfl, Hfz.out.below (Nat.le_refl _) (fun _ _ h => h)⟩
  have hq47 : ¬ q1 = ⟨#[47]⟩ := fun e => by
    have h1 : q1.data.toList = [47] := by rw [e]
    rw [Hq1.out, bs_list, pathOf_ne hz0] at h1
    exact join_ne47 Hz1.out h1
  have t2 := slash_test hq47
  have hpt : A.data.toList = pathOf (b ++ Z1) := by rw [hA1, pathOf_ne hb0, pathOf_ne hz0, pathOf_ne (by simp [hb0]), joinP_app]
  have hpl : A.size ≤ 300 := by omega
  have ha := Hbo.out.app Hz1.out
  obtain ⟨a, haa⟩ : ∃ a, a = b ++ Z1 := ⟨_, rfl⟩
  rw [← haa] at hpt ha
  have Hb0 := Lib.hid hb0
  have HA1 := Lib.hid hA1
  have HAs := Lib.hid hAs
  have HA := Lib.hid hA
  have Hg1 := Lib.hid hg1
  have Hz0 := Lib.hid hz0
  have Hmp47 := Lib.hid hmp47
  have Hq47 := Lib.hid hq47
  have Hf4 := Lib.hid hf4
  have HB4 := Lib.hid hB4
  have Hm4 := Lib.hid hm4
  have Haa := Lib.hid haa
  clear hb0 hA1 hAs hA hg1 hz0 hmp47 hq47 hf4 hB4 hm4 haa
  go_wp2_with fail
  refine (Ho1.out _).mono ?_
  rintro e y2 ⟨rfl, hg2⟩
  have hf5 := Hf4.out.trans hg2
  have hB5 := HB4.out.frm hg2 (fun h => h)
  have hm5 := hmax.keep hf5
  have Hg2 := Lib.hid hg2
  clear hg2
  go_upto_region 6 with fail
  clear t1 t2 c0
  obtain ⟨pt, hptt⟩ : ∃ pt, pt = A := ⟨_, rfl⟩
  rw [← hptt] at hpt hpl ⊢
  have Hptt := Lib.hid hptt
  clear hptt
  have hpp := fun w h => path_any pt w (by omega) h
  rw [hpt] at hpp
  cases hi : isPathL (pathOf a)
  · rw [hi] at hpp
    have Hpp := Lib.hid hpp
    have Hi := Lib.hid hi
    have Hpt := Lib.hid hpt
    have Ha := Lib.hid ha
    have Hf5 := Lib.hid hf5
    have HB5 := Lib.hid hB5
    have Hm5 := Lib.hid hm5
    have Hpl := Lib.hid hpl
    clear hpp hi hpt ha hf5 hB5 hm5 hpl
    go_wp2_with fail
    refine (Hpp.out _ Hm5.out).mono ?_
    rintro e y3 ⟨rfl, hg3⟩
    have hf6 := Hf5.out.trans hg3
    have hm6 := hmax.keep hf6
    have Hf6 := Lib.hid hf6
    have Hm6 := Lib.hid hm6
    clear hf6 hm6
    clear hg3
    go_wp2_with fail
    refine (rlives_any _ Hm6.out).mono ?_
    rintro e yz ⟨rfl, hgz⟩
    have Hfz := Lib.hid (Hf6.out.trans hgz)
    clear hgz
    go_wp2_with fail
    go_ret
    exact ⟨rfl, Hfz.out.below (Nat.le_refl _) (fun _ _ h => h)⟩
  rw [hi] at hpp
  have hla := path_len hi
  have hpfs : pfx.size ≤ 1000 := by
    rcases Hpx.out with h | ⟨c, _, h, hl⟩
    · rw [← ba_len, h]; simp
    · rw [← ba_len, h]; omega
  by_cases hp0 : pfx.data.toList = []
  · have t5 := empty_yes hp0
    have t6 : pfx.toList = [] := by rw [ByteArray.toList_eq]; exact hp0
    have Hpp := Lib.hid hpp
    have Hi := Lib.hid hi
    have Hpt := Lib.hid hpt
    have Ha := Lib.hid ha
    have Hf5 := Lib.hid hf5
    have HB5 := Lib.hid hB5
    have Hm5 := Lib.hid hm5
    have Hpl := Lib.hid hpl
    have Hla := Lib.hid hla
    have Hp0 := Lib.hid hp0
    clear hpp hi hpt ha hf5 hB5 hm5 hpl hla hp0
    go_wp2_with fail
    refine (Hpp.out _ Hm5.out).mono ?_
    rintro e y3 ⟨rfl, hg3⟩
    have hf6 := Hf5.out.trans hg3
    have hm6 := hmax.keep hf6
    have b8 := ((HB5.out.frm hg3 (fun h => h)).cell 8).trans (show _ = some (Value.string pfx) from rfl)
    have Hf6 := Lib.hid hf6
    have Hm6 := Lib.hid hm6
    clear hf6 hm6
    clear hg3
    go_wp2_with fail
    refine (rlives_any _ Hm6.out).mono ?_
    rintro e yz ⟨rfl, hgz⟩
    have Hfz := Lib.hid (Hf6.out.trans hgz)
    clear hgz
    go_wp2_with fail
    go_ret
    exact ⟨rfl, Hfz.out.below (Nat.le_refl _) (fun _ _ h => h)⟩
  have t5 := empty_test hp0
  have t6 : ¬ pfx.toList = [] := by rw [ByteArray.toList_eq]; exact hp0
  obtain ⟨c, hc, hpc, hcl⟩ : ∃ c, PartsOk c ∧ pfx.data.toList = pathOf c ∧ (pathOf c).length ≤ 60 := by
    rcases Hpx.out with h | h
    · exact absurd h hp0
    · exact h
  have hpb : pfx = bs (pathOf c) := by rw [← hpc, bs_of]
  have hr1 := fun w h => rew_path_any b Hbo.out (by have := Hbl.out; omega) false pfx hpfs sa ns sc da nd dc pt (by omega) w h
  rw [hpt] at hr1
  have hkey : ¬ bs (rewP pfx.data.toList b false (pathOf a)) = pt → bs (rewP mp.data.toList c false (rewP pfx.data.toList b false (pathOf a))) = pt := fun hne => by
    have hne2 : rewP (pathOf c) b false (pathOf a) ≠ pathOf a := fun e => hne (by rw [hpc, e, ← hpt, bs_of])
    have := rew_back ha Hbo.out hc hla hne2
    rw [hpc, Hmp.out, bs_list, this, ← hpt, bs_of]
  have hPs : (bs (rewP pfx.data.toList b false (pathOf a))).size ≤ 1000 := rew_small (by rw [ba_len]; omega) (by omega)
  have hr2 := fun w h => rew_path_any c hc (by omega) false mp (by have := Hmps.out; omega) none 0 0 none 0 0 (bs (rewP pfx.data.toList b false (pathOf a))) hPs w h
  rw [← hpb, bs_list] at hr2
  unfold ruleV ruleC at hr1 hr2
  rw [← Hmp.out] at hr1
  generalize bs (rewP mp.data.toList c false (rewP pfx.data.toList b false (pathOf a))) = Q at *
  generalize bs (rewP pfx.data.toList b false (pathOf a)) = PP at *
  have Hpp := Lib.hid hpp
  have Hi := Lib.hid hi
  have Hpt := Lib.hid hpt
  have Ha := Lib.hid ha
  have Hf5 := Lib.hid hf5
  have HB5 := Lib.hid hB5
  have Hm5 := Lib.hid hm5
  have Hpl := Lib.hid hpl
  have Hla := Lib.hid hla
  have Hp0 := Lib.hid hp0
  have Hc := Lib.hid hc
  have Hpc := Lib.hid hpc
  have Hcl := Lib.hid hcl
  have Hpb := Lib.hid hpb
  have Hr1 := Lib.hid hr1
  have Hr2 := Lib.hid hr2
  have HPs := Lib.hid hPs
  have Hpfs := Lib.hid hpfs
  clear hpp hi hpt ha hf5 hB5 hm5 hpl hla hp0 hc hpc hcl hpb hr1 hr2 hPs hpfs
  go_wp2_with fail
  refine (Hpp.out _ Hm5.out).mono ?_
  rintro e y3 ⟨rfl, hg3⟩
  have hf6 := Hf5.out.trans hg3
  have hm6 := hmax.keep hf6
  have hB6 := HB5.out.frm hg3 (fun h => h)
  have b8 := (hB6.cell 8).trans (show _ = some (Value.string pfx) from rfl)
  have bL := hB6
  have Hf6 := Lib.hid hf6
  have Hm6 := Lib.hid hm6
  have Hg3 := Lib.hid hg3
  have HB6 := Lib.hid hB6
  clear hf6 hm6 hg3 hB6
  go_wp2_with (refine wpl_load_blk (by rfl) 35 _ (by rfl) _ (by rfl) _ _ (by exact bL) _ Tryd.underlying35 (by rfl) (by exact info_rule) ?_)
  refine (Hr1.out _ Hm6.out).mono ?_
  rintro e y4 ⟨rfl, hg4⟩
  have hf7 := Hf6.out.trans hg4
  have hm7 := hmax.keep hf7
  have hB7 := HB6.out.frm hg4 (fun h => h)
  clear bL b8
  have b0 := (hB7.cell 0).trans (show _ = some (Value.string mp) from rfl)
  have b8 := (hB7.cell 8).trans (show _ = some (Value.string pfx) from rfl)
  by_cases hPt : PP = pt
  · have t7 := str_yes hPt
    have HPt := Lib.hid hPt
    have Hf7 := Lib.hid hf7
    have Hm7 := Lib.hid hm7
    have Hg4 := Lib.hid hg4
    have HB7 := Lib.hid hB7
    have Hkey := Lib.hid hkey
    clear hPt hf7 hm7 hg4 hB7 hkey
    go_wp2_with fail
    refine (rlives_any _ Hm7.out).mono ?_
    rintro e yz ⟨rfl, hgz⟩
    have Hfz := Lib.hid (Hf7.out.trans hgz)
    clear hgz
    go_wp2_with fail
    go_ret
    exact ⟨rfl, Hfz.out.below (Nat.le_refl _) (fun _ _ h => h)⟩
  have t7 := str_ne hPt
  have hQ := hkey hPt
  have t8 : (pt.toList == pt.toList) = true := by simp
  have fb := (Frm.refl noB y4).alloc (.cells #[.string pfx, .bool false, .slice none 0 0, .slice none 0 0, .int .i64 0, .int .i64 0, .int .i64 0, .int .i64 0, .string mp, .slice none 0 0, .slice none 0 0, .int .i64 0, .int .i64 0, .int .i64 0, .int .i64 0, .int .i64 0, .int .i64 0, .int .i64 0, .int .i64 0] 35)
  have bL := Blk.made y4 #[.string pfx, .bool false, .slice none 0 0, .slice none 0 0, .int .i64 0, .int .i64 0, .int .i64 0, .int .i64 0, .string mp, .slice none 0 0, .slice none 0 0, .int .i64 0, .int .i64 0, .int .i64 0, .int .i64 0, .int .i64 0, .int .i64 0, .int .i64 0, .int .i64 0] 35
  have hf8 := hf7.trans fb
  have hm8 := hmax.keep hf8
  have HPt := Lib.hid hPt
  have Hf7 := Lib.hid hf7
  have Hm7 := Lib.hid hm7
  have Hg4 := Lib.hid hg4
  have HB7 := Lib.hid hB7
  have Hkey := Lib.hid hkey
  have HQ := Lib.hid hQ
  have Hfb := Lib.hid fb
  have Hf8 := Lib.hid hf8
  have Hm8 := Lib.hid hm8
  clear hPt hf7 hm7 hg4 hB7 hkey hQ fb hf8 hm8
  go_wp2_with (first | (refine wpl_load_blk (by rfl) 35 _ (by rfl) _ (by rfl) _ _ (by exact bL) _ Tryd.underlying35 (by rfl) (by exact info_rule) ?_) | (refine wpl_store_new _ (by rfl) 35 _ _ (by rfl) _ (by rfl) (by first | rfl | simp) _ _ _ (by rfl) (by exact info_rule) (by rfl) (by kernel_rfl) ?_))
  refine (Hr2.out _ Hm8.out).mono ?_
  rintro e y5 ⟨rfl, hg5⟩
  rw [HQ.out]
  have hf9 := Hf8.out.trans hg5
  have hm9 := hmax.keep hf9
  have Hf9 := Lib.hid hf9
  have Hm9 := Lib.hid hm9
  have Hg5 := Lib.hid hg5
  clear hf9 hm9 hg5
  clear bL
  go_wp2_with fail
  refine (rlives_any _ Hm9.out).mono ?_
  rintro e yz ⟨rfl, hgz⟩
  have Hfz := Lib.hid (Hf9.out.trans hgz)
  clear hgz
  go_wp2_with fail
  go_ret
  exact ⟨rfl, Hfz.out.below (Nat.le_refl _) (fun _ _ h => h)⟩
end Go.Proofs.YtbeilgkogbcjjaaDoor
