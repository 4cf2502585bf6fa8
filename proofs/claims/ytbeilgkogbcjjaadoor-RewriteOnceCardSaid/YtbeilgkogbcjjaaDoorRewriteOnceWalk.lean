/- The walk of the statement RewriteOnce. -/
import Derived.Test.YtbeilgkogbcjjaaDoorRule
import Derived.Test.YtbeilgkogbcjjaaDoorRewPlain
import Derived.Test.YtbeilgkogbcjjaaDoorRewHeads
import Derived.Test.YtbeilgkogbcjjaaDoorShaped
import Derived.Test.YtbeilgkogbcjjaaDoorHeadEq
import Derived.Test.YtbeilgkogbcjjaaDoorStoreNew
import Derived.StillTailTactics
import Derived.Deep.RegionHeld3
import Derived.Outline
set_option linter.unusedVariables false
namespace Go.Proofs.YtbeilgkogbcjjaaDoor
open Go.RowKit

set_option maxRecDepth 100000 in
set_option maxHeartbeats 4000000 in
theorem rewriteOnce_walk (a0 : Option Addr) (len0 cap0 : Nat) (z0 : List Int) (a1 : Int) (a2 : Option Addr) (len2 cap2 : Nat) (z2 : List Int) (w : World) (w0 : IsRow .i64 w a0 len0 cap0 z0) (w1 : (Lit.int .i64 a1).wf = true) (w2 : IsRow .i64 w a2 len2 cap2 z2) (hmax : MaxL w) :
    Calls Tryd.prog 8 #[.slice a0 len0 cap0, .int .i64 a1, .slice a2 len2 cap2] w fun e w' => e = .returned (.bool true) ∧ Below w.heap.size w w' := by
  obtain ⟨xs, h0⟩ := w0.list
  have hcap := w0.caps
  obtain ⟨ys, h2⟩ := w2.list
  have hb1 := wf_i64 w1
  have H0 := Lib.hid h0
  have H2 := Lib.hid h2
  have Hb1 := Lib.hid hb1
  clear h0 h2 hb1
  clear w0 w1 w2
  go_enter Tryd.func8, Tryd.ntmps8
  go_wp2_with fail
  with_reducible refine (rule_any a0 len0 cap0 xs _ H0.out hcap.1 hcap.2).mono ?_
  rintro e x1 ⟨sv, dv, rfl, hs, hd, hf1⟩
  obtain ⟨sa, sc, rfl, _⟩ := hs.shape
  obtain ⟨da, dc, rfl, _⟩ := hd.shape
  obtain ⟨ns, hns⟩ : ∃ n, n = (genH ((xs.drop 4).take 4)).length := ⟨_, rfl⟩
  obtain ⟨nd, hnd⟩ : ∃ n, n = (namesH ((xs.drop 8).take 6)).length := ⟨_, rfl⟩
  rw [← hns] at hs ⊢
  rw [← hnd] at hd ⊢
  have hgS := GoodL.gen ((xs.drop 4).take 4)
  generalize genH ((xs.drop 4).take 4) = SS at *
  generalize namesH ((xs.drop 8).take 6) = DD at *
  have hbo := ofZ_ok (numAt xs 0)
  have hbl := ofZ_len (numAt xs 0)
  have hpx := pfx_cases (numAt xs 3) (numAt xs 1)
  generalize ofZ (numAt xs 0) = b at *
  generalize decide (around (numAt xs 2) 4 = 1) = ex at *
  generalize pfxOf (numAt xs 3) (numAt xs 1) = pfx at *
  obtain ⟨mp, hmp⟩ : ∃ mp, mp = bs (pathOf b) := ⟨_, rfl⟩
  rw [← hmp]
  unfold ruleV ruleC
  have fa := (Frm.refl noB x1).alloc (.cells (ruleC mp ex pfx (.slice sa ns sc) (.slice da nd dc)) 35)
  have hB := Blk.made x1 (ruleC mp ex pfx (.slice sa ns sc) (.slice da nd dc)) 35
  unfold ruleC at fa hB
  have hs1 := hs.keep fa
  have hd1 := hd.keep fa
  have hf2 := hf1.trans fa
  have hm2 := hmax.keep hf2
  have Hs := Lib.hid hs
  have Hd := Lib.hid hd
  have Hf1 := Lib.hid hf1
  have Hns := Lib.hid hns
  have Hnd := Lib.hid hnd
  have Hmp := Lib.hid hmp
  have Hfa := Lib.hid fa
  have HB := Lib.hid hB
  have Hs1 := Lib.hid hs1
  have Hd1 := Lib.hid hd1
  have Hf2 := Lib.hid hf2
  have Hm2 := Lib.hid hm2
  have Hbo := Lib.hid hbo
  have Hbl := Lib.hid hbl
  have Hpx := Lib.hid hpx
  have HgS := Lib.hid hgS
  clear hs hd hf1 hns hnd hmp fa hB hs1 hd1 hf2 hm2 hbo hbl hpx hgS
  go_upto_region 2 with (refine wpl_store_new _ (by rfl) 35 _ _ (by rfl) _ (by rfl) (by first | rfl | simp) _ _ _ (by rfl) (by exact info_rule) (by rfl) (by kernel_rfl) ?_)
  generalize x1.alloc (.cells #[.string mp, .bool ex, .slice none 0 0, .slice none 0 0, .int .i64 0, .int .i64 0, .int .i64 0, .int .i64 0, .string pfx, .slice sa ns sc, .slice da nd dc, .int .i64 0, .int .i64 0, .int .i64 0, .int .i64 0, .int .i64 0, .int .i64 0, .int .i64 0, .int .i64 0] 35) = W at *
  have bL := HB.out
  have hB8 := Blk.made W #[.string mp, .bool ex, .slice none 0 0, .slice none 0 0, .int .i64 0, .int .i64 0, .int .i64 0, .int .i64 0, .string pfx, .slice sa ns sc, .slice da nd dc, .int .i64 0, .int .i64 0, .int .i64 0, .int .i64 0, .int .i64 0, .int .i64 0, .int .i64 0, .int .i64 0] 35
  have g8 := (Frm.refl noB W).alloc (.cells #[.string mp, .bool ex, .slice none 0 0, .slice none 0 0, .int .i64 0, .int .i64 0, .int .i64 0, .int .i64 0, .string pfx, .slice sa ns sc, .slice da nd dc, .int .i64 0, .int .i64 0, .int .i64 0, .int .i64 0, .int .i64 0, .int .i64 0, .int .i64 0, .int .i64 0] 35)
  have Hg8 := Lib.hid g8
  have HB8 := Lib.hid hB8
  clear g8 hB8
  go_upto_region 3 with (first | (refine wpl_load_blk (by rfl) 35 _ (by rfl) _ (by rfl) _ _ (by exact bL) _ Tryd.underlying35 (by rfl) (by exact info_rule) ?_) | (refine wpl_store_new _ (by rfl) 35 _ _ (by rfl) _ (by rfl) (by first | rfl | simp) _ _ _ (by rfl) (by exact info_rule) (by rfl) (by kernel_rfl) ?_))
  generalize W.alloc (.cells #[.string mp, .bool ex, .slice none 0 0, .slice none 0 0, .int .i64 0, .int .i64 0, .int .i64 0, .int .i64 0, .string pfx, .slice sa ns sc, .slice da nd dc, .int .i64 0, .int .i64 0, .int .i64 0, .int .i64 0, .int .i64 0, .int .i64 0, .int .i64 0, .int .i64 0] 35) = W8 at *
  clear bL
  have y1 := HB8.out.free 8
  have b8 := (HB8.out.cell 8).trans (show _ = some (Value.string pfx) from rfl)
  have bl := HB8.out.lt
  have hB8b := HB8.out.set 8 (.string ⟨#[]⟩)
  rw [show (#[.string mp, .bool ex, .slice none 0 0, .slice none 0 0, .int .i64 0, .int .i64 0, .int .i64 0, .int .i64 0, .string pfx, .slice sa ns sc, .slice da nd dc, .int .i64 0, .int .i64 0, .int .i64 0, .int .i64 0, .int .i64 0, .int .i64 0, .int .i64 0, .int .i64 0] : Array Value).setIfInBounds 8 (.string ⟨#[]⟩) = #[.string mp, .bool ex, .slice none 0 0, .slice none 0 0, .int .i64 0, .int .i64 0, .int .i64 0, .int .i64 0, .string ⟨#[]⟩, .slice sa ns sc, .slice da nd dc, .int .i64 0, .int .i64 0, .int .i64 0, .int .i64 0, .int .i64 0, .int .i64 0, .int .i64 0, .int .i64 0] from rfl] at hB8b
  have g4 := Hg8.out.setNew (p := ⟨W.heap.size, 8, none⟩) (Nat.le_refl _) (.string ⟨#[]⟩)
  have HB8b := Lib.hid hB8b
  have Hg4 := Lib.hid g4
  clear hB8b g4
  go_upto_region 4 with fail
  generalize W8.setCell ⟨W.heap.size, 8, none⟩ (.string ⟨#[]⟩) = W4 at *
  clear y1 b8 bl
  have bL := HB.out.frm Hg4.out (fun h => h)
  have hB9 := Blk.made W4 #[.string mp, .bool ex, .slice none 0 0, .slice none 0 0, .int .i64 0, .int .i64 0, .int .i64 0, .int .i64 0, .string pfx, .slice sa ns sc, .slice da nd dc, .int .i64 0, .int .i64 0, .int .i64 0, .int .i64 0, .int .i64 0, .int .i64 0, .int .i64 0, .int .i64 0] 35
  have k9 := (Frm.refl noB W4).alloc (.cells #[.string mp, .bool ex, .slice none 0 0, .slice none 0 0, .int .i64 0, .int .i64 0, .int .i64 0, .int .i64 0, .string pfx, .slice sa ns sc, .slice da nd dc, .int .i64 0, .int .i64 0, .int .i64 0, .int .i64 0, .int .i64 0, .int .i64 0, .int .i64 0, .int .i64 0] 35)
  have hB7c := bL.alloc (.cells #[.string mp, .bool ex, .slice none 0 0, .slice none 0 0, .int .i64 0, .int .i64 0, .int .i64 0, .int .i64 0, .string pfx, .slice sa ns sc, .slice da nd dc, .int .i64 0, .int .i64 0, .int .i64 0, .int .i64 0, .int .i64 0, .int .i64 0, .int .i64 0, .int .i64 0] 35)
  have HB9 := Lib.hid hB9
  have Hk9 := Lib.hid k9
  have HB7c := Lib.hid hB7c
  clear hB9 k9 hB7c
  go_upto_region 5 with (first | (refine wpl_load_blk (by rfl) 35 _ (by rfl) _ (by rfl) _ _ (by exact bL) _ Tryd.underlying35 (by rfl) (by exact info_rule) ?_) | (refine wpl_store_new _ (by rfl) 35 _ _ (by rfl) _ (by rfl) (by first | rfl | simp) _ _ _ (by rfl) (by exact info_rule) (by rfl) (by kernel_rfl) ?_))
  generalize W4.alloc (.cells #[.string mp, .bool ex, .slice none 0 0, .slice none 0 0, .int .i64 0, .int .i64 0, .int .i64 0, .int .i64 0, .string pfx, .slice sa ns sc, .slice da nd dc, .int .i64 0, .int .i64 0, .int .i64 0, .int .i64 0, .int .i64 0, .int .i64 0, .int .i64 0, .int .i64 0] 35) = W9 at *
  clear bL
  have y1 := HB9.out.free 8
  have b8 := (HB9.out.cell 8).trans (show _ = some (Value.string pfx) from rfl)
  have bl := HB9.out.lt
  have c0 := (HB7c.out.cell 0).trans (show _ = some (Value.string mp) from rfl)
  have hB9b := HB9.out.set 8 (.string mp)
  rw [show (#[.string mp, .bool ex, .slice none 0 0, .slice none 0 0, .int .i64 0, .int .i64 0, .int .i64 0, .int .i64 0, .string pfx, .slice sa ns sc, .slice da nd dc, .int .i64 0, .int .i64 0, .int .i64 0, .int .i64 0, .int .i64 0, .int .i64 0, .int .i64 0, .int .i64 0] : Array Value).setIfInBounds 8 (.string mp) = #[.string mp, .bool ex, .slice none 0 0, .slice none 0 0, .int .i64 0, .int .i64 0, .int .i64 0, .int .i64 0, .string mp, .slice sa ns sc, .slice da nd dc, .int .i64 0, .int .i64 0, .int .i64 0, .int .i64 0, .int .i64 0, .int .i64 0, .int .i64 0, .int .i64 0] from rfl] at hB9b
  have k5 := Hk9.out.setNew (p := ⟨W4.heap.size, 8, none⟩) (Nat.le_refl _) (.string mp)
  have HB9b := Lib.hid hB9b
  have Hk5 := Lib.hid k5
  clear hB9b k5
  go_upto_region 6 with fail
  generalize W9.setCell ⟨W4.heap.size, 8, none⟩ (.string mp) = W5 at *
  clear y1 b8 bl c0
  have g5 := Hg4.out.trans Hk5.out
  have hf5 := Hf2.out.trans g5
  have hB8e := HB8b.out.frm Hk5.out (fun h => h)
  have hB7e := HB.out.frm g5 (fun h => h)
  have hs5 := Hs1.out.keep g5
  have hd5 := Hd1.out.keep g5
  have Hg5 := Lib.hid g5
  have Hf5 := Lib.hid hf5
  have HB8e := Lib.hid hB8e
  have HB7e := Lib.hid hB7e
  have Hs5 := Lib.hid hs5
  have Hd5 := Lib.hid hd5
  clear g5 hf5 hB8e hB7e hs5 hd5
  obtain ⟨Z1, hZ1⟩ : ∃ Z, Z = ofZ a1 := ⟨_, rfl⟩
  have ho1 := fun w => of_any a1 w Hb1.out.1 Hb1.out.2
  have hz1 := ofZ_ok a1
  have hl1 := ofZ_len a1
  rw [← hZ1] at ho1 hz1 hl1
  have hmps : mp.size ≤ 60 := by rw [Hmp.out, bs_size]; exact Hbl.out
  obtain ⟨q1, hq1⟩ : ∃ q, q = bs (pathOf Z1) := ⟨_, rfl⟩
  rw [← hq1] at ho1
  have hqs : q1.size ≤ 60 := by rw [hq1, bs_size]; exact hl1
  have hpp := fun w h => path_any q1 w (by omega) h
  have hmp2 : mp.data.toList = pathOf b := by rw [Hmp.out, bs_list]
  have hpfs : pfx.size ≤ 1000 := by
    rcases Hpx.out with h | ⟨c, _, h, hl⟩
    · rw [← ba_len, h]; simp
    · rw [← ba_len, h]; omega
  have hpx2 : pfx.data.toList = [] ∨ ∃ c, PartsOk c ∧ pfx.data.toList = pathOf c := by
    rcases Hpx.out with h | ⟨c, hc, h, _⟩
    · exact .inl h
    · exact .inr ⟨c, hc, h⟩
  have hpx3 : pfx.data.toList.length ≤ 60 := by
    rcases Hpx.out with h | ⟨c, _, h, hl⟩
    · rw [h]; simp
    · rw [h]; exact hl
  have hr2 := fun w h => rew_path_any b Hbo.out (by have := Hbl.out; omega) ex ⟨#[]⟩ (by decide) sa ns sc da nd dc q1 (by omega) w h
  have hr3 := fun w h => rew_path_any b Hbo.out (by have := Hbl.out; omega) ex mp (by omega) sa ns sc da nd dc q1 (by omega) w h
  have hk2 : bs (rewP (⟨#[]⟩ : ByteArray).data.toList b ex q1.data.toList) = q1 := by unfold rewP; rw [if_pos (by rfl), bs_of]
  have hk3 := fun h => rew_same (b := b) (path := q1.data.toList) (ex := ex) Hbo.out h
  rw [hk2] at hr2
  rw [hmp2] at hr3
  unfold ruleV ruleC at hr2 hr3
  rw [← Hmp.out] at hr2 hr3
  cases hi : isPathL q1.data.toList
  · rw [hi] at hpp
    have Ho1 := Lib.hid ho1
    have Hz1 := Lib.hid hz1
    have Hl1 := Lib.hid hl1
    have HZ1 := Lib.hid hZ1
    have Hq1 := Lib.hid hq1
    have Hqs := Lib.hid hqs
    have Hpp := Lib.hid hpp
    have Hmp2 := Lib.hid hmp2
    have Hpfs := Lib.hid hpfs
    have Hpx2 := Lib.hid hpx2
    have Hpx3 := Lib.hid hpx3
    have Hr2 := Lib.hid hr2
    have Hr3 := Lib.hid hr3
    have Hk2 := Lib.hid hk2
    have Hk3 := Lib.hid hk3
    have Hi := Lib.hid hi
    have Hmps := Lib.hid hmps
    clear ho1 hz1 hl1 hZ1 hq1 hqs hpp hmp2 hpfs hpx2 hpx3 hr2 hr3 hk2 hk3 hi hmps
    go_wp2_with fail
    refine (Ho1.out _).mono ?_
    rintro e y1 ⟨rfl, hg1⟩
    have hf10 := Hf5.out.trans hg1
    have hm10 := hmax.keep hf10
    have Hf10 := Lib.hid hf10
    have Hm10 := Lib.hid hm10
    have Hg1 := Lib.hid hg1
    clear hf10 hm10 hg1
    go_wp2_with fail
    refine (Hpp.out _ Hm10.out).mono ?_
    rintro e y2 ⟨rfl, hg2⟩
    have hf11 := Hf10.out.trans hg2
    have hm11 := hmax.keep hf11
    have Hf11 := Lib.hid hf11
    have Hm11 := Lib.hid hm11
    have Hg2 := Lib.hid hg2
    clear hf11 hm11 hg2
    go_wp2_with fail
    refine (rlives_any _ Hm11.out).mono ?_
    rintro e yz ⟨rfl, hgz⟩
    have Hfz := Lib.hid (Hf11.out.trans hgz)
    clear hgz
    go_wp2_with fail
    go_ret
    exact ⟨rfl, Hfz.out.below (Nat.le_refl _) (fun _ _ h => h)⟩
  rw [hi] at hpp
  rw [hk3 hi, bs_of] at hr3
  have Ho1 := Lib.hid ho1
  have Hz1 := Lib.hid hz1
  have Hl1 := Lib.hid hl1
  have HZ1 := Lib.hid hZ1
  have Hq1 := Lib.hid hq1
  have Hqs := Lib.hid hqs
  have Hpp := Lib.hid hpp
  have Hmp2 := Lib.hid hmp2
  have Hpfs := Lib.hid hpfs
  have Hpx2 := Lib.hid hpx2
  have Hpx3 := Lib.hid hpx3
  have Hr2 := Lib.hid hr2
  have Hr3 := Lib.hid hr3
  have Hk2 := Lib.hid hk2
  have Hk3 := Lib.hid hk3
  have Hi := Lib.hid hi
  have Hmps := Lib.hid hmps
  clear ho1 hz1 hl1 hZ1 hq1 hqs hpp hmp2 hpfs hpx2 hpx3 hr2 hr3 hk2 hk3 hi hmps
  go_wp2_with fail
  refine (Ho1.out _).mono ?_
  rintro e y1 ⟨rfl, hg1⟩
  have hf10 := Hf5.out.trans hg1
  have hm10 := hmax.keep hf10
  have Hf10 := Lib.hid hf10
  have Hm10 := Lib.hid hm10
  have Hg1 := Lib.hid hg1
  clear hf10 hm10 hg1
  go_wp2_with fail
  refine (Hpp.out _ Hm10.out).mono ?_
  rintro e y2 ⟨rfl, hg2⟩
  have hp2 := Hg1.out.trans hg2
  have hf11 := Hf5.out.trans hp2
  have hB7f := HB7e.out.frm hp2 (fun h => h)
  have HB8f := Lib.hid (HB8e.out.frm hp2 (fun h => h))
  have HB9f := Lib.hid (HB9b.out.frm hp2 (fun h => h))
  have hs11 := Hs5.out.keep hp2
  have hd11 := Hd5.out.keep hp2
  have h211 := H2.out.keep hf11
  have Hp2 := Lib.hid hp2
  have Hf11 := Lib.hid hf11
  have Hs11 := Lib.hid hs11
  have Hd11 := Lib.hid hd11
  have H211 := Lib.hid h211
  have Hg2 := Lib.hid hg2
  clear hp2 hf11 hs11 hd11 h211 hg2
  go_upto_region 9 with fail
  refine wp_region_noPanic ?_
  refine wp_region_held_drew (S := fun X => Blk X x1.heap.size #[.string mp, .bool ex, .slice none 0 0, .slice none 0 0, .int .i64 0, .int .i64 0, .int .i64 0, .int .i64 0, .string pfx, .slice sa ns sc, .slice da nd dc, .int .i64 0, .int .i64 0, .int .i64 0, .int .i64 0, .int .i64 0, .int .i64 0, .int .i64 0, .int .i64 0] 35) (by kernel_rfl) ?_ (fun hHeld => ?_)
  · (repeat (first | assumption | ((with_reducible refine blk_new _ _ _ ?_); (first | (with_reducible rfl) | (simp; done))) | (with_reducible refine Blk.drew ?_) | (with_reducible refine Blk.alloc ?_ _) | (with_reducible refine Blk.frm ?_ (by assumption) (fun h => h))))
  refine takeD (i := 0) (some 28) (v := .agg (List.toArray (#[.string mp, .bool ex, .slice none 0 0, .slice none 0 0, .int .i64 0, .int .i64 0, .int .i64 0, .int .i64 0, .string pfx, .slice sa ns sc, .slice da nd dc, .int .i64 0, .int .i64 0, .int .i64 0, .int .i64 0, .int .i64 0, .int .i64 0, .int .i64 0, .int .i64 0] : Array Value).toList)) rfl rfl (by kernel_rfl) (by kernel_rfl) (by kernel_rfl) (fun _ _ _ h => h) (yieldsIf_load_mid (by kernel_rfl) 35 _ (by rfl) x1.heap.size 0 (by rfl) (#[.string mp, .bool ex, .slice none 0 0, .slice none 0 0, .int .i64 0, .int .i64 0, .int .i64 0, .int .i64 0, .string pfx, .slice sa ns sc, .slice da nd dc, .int .i64 0, .int .i64 0, .int .i64 0, .int .i64 0, .int .i64 0, .int .i64 0, .int .i64 0, .int .i64 0] : Array Value).toList _ (fun w h => blk_range h) Tryd.underlying35 rfl (by exact info_rule)) (by assumption) ?_
  (try dsimp only [Act.put]); try simp only [Act.put, List.setIfInBounds_toArray, List.set_cons_zero, List.set_cons_succ]
  refine takeD (i := 1) (some 29) (v := ?_) rfl rfl (by kernel_rfl) (by kernel_rfl) (by kernel_rfl) (fun _ _ _ h => h) (Or.inl ⟨by kernel_rfl, ?_⟩) (by assumption) ?_
  rotate_left
  · (intro w hSw; (try dsimp only at hSw); go_simp; try (with_reducible rfl))
  (try dsimp only [Act.put]); try simp only [Act.put, List.setIfInBounds_toArray, List.set_cons_zero, List.set_cons_succ]
  refine wpAnyH_ready (rs := [2]) (by kernel_rfl) (by simp) ?_
  refine AllReadyH.cons rfl (fun K hK => ?_) ?_
  · go_simp
    refine (heads_hv a2 len2 cap2 ys _ (H211.out.keep (Frm.refl noB _).drew)).mono ?_
    rintro e z1 ⟨va, rfl, ha, hg3⟩
    have hga := GoodL.gen (ys.take 12)
    generalize genH (ys.take 12) = A at *
    have Hdr := Lib.hid (((Frm.refl noB y2).drew).trans hg3)
    have Hga := Lib.hid hga
    have Ha := Lib.hid ha
    clear hga ha
    go_wp2_with fail
    refine hK.out _ _ ?_ (fun hHeld => ?_)
    · (repeat (first | assumption | ((with_reducible refine blk_new _ _ _ ?_); (first | (with_reducible rfl) | (simp; done))) | (with_reducible refine Blk.drew ?_) | (with_reducible refine Blk.alloc ?_ _) | (with_reducible refine Blk.frm ?_ (by assumption) (fun h => h))))
    clear hK K
    (try dsimp only [Act.put]); try simp only [Act.put, List.setIfInBounds_toArray, List.set_cons_zero, List.set_cons_succ]
    refine wpAnyH_ready (rs := [3]) (by kernel_rfl) (by simp) ?_
    refine AllReadyH.cons rfl (fun K hK => ?_) ?_
    · go_simp
      refine (rew_heads_any mp ex pfx (.slice sa ns sc) (.slice da nd dc) va A SS DD _ Ha.out (by have := Hga.out.len; omega) Hga.out.nd ((Hs11.out).keep Hdr.out) ((Hd11.out).keep Hdr.out)).mono ?_
      rintro e z2 ⟨vb, rfl, hb, hg4⟩
      have Hfr := Lib.hid (Hdr.out.trans hg4)
      have hgB := turn_good Hga.out HgS.out DD
      have honce := turn_once (l := A) Hga.out.nd HgS.out.nd DD
      generalize setAll (dropL A DD) SS = Bl at *
      have Hf13 := Lib.hid (Hf11.out.trans Hfr.out)
      obtain ⟨ba, bc, rfl, _⟩ := hb.shape
      obtain ⟨nb, hnb⟩ : ∃ n, n = Bl.length := ⟨_, rfl⟩
      rw [← hnb] at hb ⊢
      have Hb := Lib.hid hb
      have Honce := Lib.hid honce
      have HgB := Lib.hid hgB
      have Hnb := Lib.hid hnb
      clear hb honce hgB hnb
      go_wp2_with fail
      refine hK.out _ _ ?_ (fun hHeld => ?_)
      · (repeat (first | assumption | ((with_reducible refine blk_new _ _ _ ?_); (first | (with_reducible rfl) | (simp; done))) | (with_reducible refine Blk.drew ?_) | (with_reducible refine Blk.alloc ?_ _) | (with_reducible refine Blk.frm ?_ (by assumption) (fun h => h))))
      clear hK K
      (try dsimp only [Act.put]); try simp only [Act.put, List.setIfInBounds_toArray, List.set_cons_zero, List.set_cons_succ]
      refine takeD (i := 4) (some 11) (v := ?_) rfl rfl (by kernel_rfl) (by kernel_rfl) (by kernel_rfl) (fun _ _ _ h => h) (Or.inl ⟨by kernel_rfl, ?_⟩) (by assumption) ?_
      rotate_left
      · (intro w hSw; (try dsimp only at hSw); go_simp; try (with_reducible rfl))
      (try dsimp only [Act.put]); try simp only [Act.put, List.setIfInBounds_toArray, List.set_cons_zero, List.set_cons_succ]
      refine wpAnyH_done (by kernel_rfl) ?_ _
      refine NoPanic.normal ?_
      have Hfz := Lib.hid (Hfr.out)
      have bL := hB7f.frm Hfr.out (fun h => h)
      have c9 := (bL.cell 9).trans (show _ = some (Value.slice sa ns sc) from rfl)
      have hm13 := hmax.keep Hf13.out
      have Hm13 := Lib.hid hm13
      have Hg3 := Lib.hid hg3
      have Hg4 := Lib.hid hg4
      clear hm13 hg3 hg4
      clear hHeld hB7f
      by_cases hn0 : ns = 0
      · have hSn : SS = [] := List.eq_nil_of_length_eq_zero (by rw [← Hns.out]; exact hn0)
        have hn1 : ((ns : Int) == 0) = true := by simp; omega
        have HSn := Lib.hid hSn
        have Hn0 := Lib.hid hn0
        clear hSn hn0
        have hh := fun w hl hs hd => rew_heads_any mp ex pfx (.slice sa ns sc) (.slice da nd dc) (.slice ba nb bc) Bl SS DD w hl (by have := HgB.out.len; omega) HgB.out.nd hs hd
        unfold ruleV ruleC at hh
        have hsm := Honce.out (.inl HSn.out)
        have Hh := Lib.hid hh
        have Hsm := Lib.hid hsm
        clear hh hsm
        go_upto_region 11 with fail
        try rw [Hn7.out]
        go_wp2_with (refine wpl_load_blk (by rfl) 35 _ (by rfl) _ (by rfl) _ _ (by exact bL) _ Tryd.underlying35 (by rfl) (by exact info_rule) ?_)
        refine (Hh.out _ Hb.out (Hs11.out.keep Hfr.out) (Hd11.out.keep Hfr.out)).mono ?_
        rintro e u8 ⟨vc, rfl, hc, hg8⟩
        have hf18 := Hf13.out.trans hg8
        have hb18 := Hb.out.keep hg8
        have hfr8 := Hfr.out.trans hg8
        have Hf18 := Lib.hid hf18
        have Hb18 := Lib.hid hb18
        have Hg8 := Lib.hid hg8
        have Hfr8 := Lib.hid hfr8
        clear hf18 hb18 hg8 hfr8
        clear bL c9
        go_wp2_with fail
        refine (same_hv vc _ _ Bl _ hc Hb18.out).mono ?_
        rintro e u9 ⟨rfl, hg9⟩
        rw [Hsm.out]
        have hf19 := Hf18.out.trans hg9
        have hm19 := hmax.keep hf19
        have hfr9 := Hfr8.out.trans hg9
        have Hf19 := Lib.hid hf19
        have Hm19 := Lib.hid hm19
        have Hfr9 := Lib.hid hfr9
        have Hg9 := Lib.hid hg9
        have Hc := Lib.hid hc
        clear hf19 hm19 hfr9 hg9 hc
        have bM := HB8f.out.frm Hfr9.out (fun h => h)
        have bN := HB9f.out.frm Hfr9.out (fun h => h)
        have q3 : (q1.toList == q1.toList) = true := by simp
        go_wp2_with (first | (refine wpl_load_blk (by rfl) 35 _ (by rfl) _ (by rfl) _ _ (by exact bM) _ Tryd.underlying35 (by rfl) (by exact info_rule) ?_) | (refine wpl_load_blk (by rfl) 35 _ (by rfl) _ (by rfl) _ _ (by exact bN) _ Tryd.underlying35 (by rfl) (by exact info_rule) ?_))
        refine (Hr2.out _ Hm19.out).mono ?_
        rintro e u1 ⟨rfl, hg21⟩
        have hf21 := Hf19.out.trans hg21
        have hm21 := hmax.keep hf21
        have bN2 := bN.frm hg21 (fun h => h)
        have Hf21 := Lib.hid hf21
        have Hm21 := Lib.hid hm21
        have Hg21 := Lib.hid hg21
        clear hf21 hm21 hg21
        clear bM bN
        go_wp2_with (first | (refine wpl_load_blk (by rfl) 35 _ (by rfl) _ (by rfl) _ _ (by exact bN2) _ Tryd.underlying35 (by rfl) (by exact info_rule) ?_))
        refine (Hr3.out _ Hm21.out).mono ?_
        rintro e u2 ⟨rfl, hg22⟩
        have hf22 := Hf21.out.trans hg22
        have hm22 := hmax.keep hf22
        have Hf22 := Lib.hid hf22
        have Hm22 := Lib.hid hm22
        have Hg22 := Lib.hid hg22
        clear hf22 hm22 hg22
        clear bN2
        go_wp2_with fail
        refine (rlives_any _ Hm22.out).mono ?_
        rintro e yz ⟨rfl, hgz⟩
        have Hfz := Lib.hid (Hf22.out.trans hgz)
        clear hgz
        go_wp2_with fail
        go_ret
        exact ⟨rfl, Hfz.out.below (Nat.le_refl _) (fun _ _ h => h)⟩
      by_cases hn8 : nb < 8
      · have hn1 : ((ns : Int) == 0) = false := by simp; omega
        have Hn7 := Lib.hid (show decide ((nb : Int) < 8) = true by simp; omega)
        have Hn0 := Lib.hid hn0
        clear hn0
        have hh := fun w hl hs hd => rew_heads_any mp ex pfx (.slice sa ns sc) (.slice da nd dc) (.slice ba nb bc) Bl SS DD w hl (by have := HgB.out.len; omega) HgB.out.nd hs hd
        unfold ruleV ruleC at hh
        have hsm := Honce.out (.inr (by rw [← Hnb.out]; exact hn8))
        have Hh := Lib.hid hh
        have Hsm := Lib.hid hsm
        clear hh hsm
        go_upto_region 11 with fail
        try rw [Hn7.out]
        go_wp2_with (refine wpl_load_blk (by rfl) 35 _ (by rfl) _ (by rfl) _ _ (by exact bL) _ Tryd.underlying35 (by rfl) (by exact info_rule) ?_)
        refine (Hh.out _ Hb.out (Hs11.out.keep Hfr.out) (Hd11.out.keep Hfr.out)).mono ?_
        rintro e u8 ⟨vc, rfl, hc, hg8⟩
        have hf18 := Hf13.out.trans hg8
        have hb18 := Hb.out.keep hg8
        have hfr8 := Hfr.out.trans hg8
        have Hf18 := Lib.hid hf18
        have Hb18 := Lib.hid hb18
        have Hg8 := Lib.hid hg8
        have Hfr8 := Lib.hid hfr8
        clear hf18 hb18 hg8 hfr8
        clear bL c9
        go_wp2_with fail
        refine (same_hv vc _ _ Bl _ hc Hb18.out).mono ?_
        rintro e u9 ⟨rfl, hg9⟩
        rw [Hsm.out]
        have hf19 := Hf18.out.trans hg9
        have hm19 := hmax.keep hf19
        have hfr9 := Hfr8.out.trans hg9
        have Hf19 := Lib.hid hf19
        have Hm19 := Lib.hid hm19
        have Hfr9 := Lib.hid hfr9
        have Hg9 := Lib.hid hg9
        have Hc := Lib.hid hc
        clear hf19 hm19 hfr9 hg9 hc
        have bM := HB8f.out.frm Hfr9.out (fun h => h)
        have bN := HB9f.out.frm Hfr9.out (fun h => h)
        have q3 : (q1.toList == q1.toList) = true := by simp
        go_wp2_with (first | (refine wpl_load_blk (by rfl) 35 _ (by rfl) _ (by rfl) _ _ (by exact bM) _ Tryd.underlying35 (by rfl) (by exact info_rule) ?_) | (refine wpl_load_blk (by rfl) 35 _ (by rfl) _ (by rfl) _ _ (by exact bN) _ Tryd.underlying35 (by rfl) (by exact info_rule) ?_))
        refine (Hr2.out _ Hm19.out).mono ?_
        rintro e u1 ⟨rfl, hg21⟩
        have hf21 := Hf19.out.trans hg21
        have hm21 := hmax.keep hf21
        have bN2 := bN.frm hg21 (fun h => h)
        have Hf21 := Lib.hid hf21
        have Hm21 := Lib.hid hm21
        have Hg21 := Lib.hid hg21
        clear hf21 hm21 hg21
        clear bM bN
        go_wp2_with (first | (refine wpl_load_blk (by rfl) 35 _ (by rfl) _ (by rfl) _ _ (by exact bN2) _ Tryd.underlying35 (by rfl) (by exact info_rule) ?_))
        refine (Hr3.out _ Hm21.out).mono ?_
        rintro e u2 ⟨rfl, hg22⟩
        have hf22 := Hf21.out.trans hg22
        have hm22 := hmax.keep hf22
        have Hf22 := Lib.hid hf22
        have Hm22 := Lib.hid hm22
        have Hg22 := Lib.hid hg22
        clear hf22 hm22 hg22
        clear bN2
        go_wp2_with fail
        refine (rlives_any _ Hm22.out).mono ?_
        rintro e yz ⟨rfl, hgz⟩
        have Hfz := Lib.hid (Hf22.out.trans hgz)
        clear hgz
        go_wp2_with fail
        go_ret
        exact ⟨rfl, Hfz.out.below (Nat.le_refl _) (fun _ _ h => h)⟩
      have hn1 : ((ns : Int) == 0) = false := by simp; omega
      have hn7 : decide ((nb : Int) < 8) = false := by simp; omega
      have hn6 : decide (nb < 8) = false := by simp; omega
      have Hn0 := Lib.hid hn0
      have Hn8 := Lib.hid hn8
      clear hn0 hn8
      have bM := HB8f.out.frm Hfr.out (fun h => h)
      have bN := HB9f.out.frm Hfr.out (fun h => h)
      have q3 : (q1.toList == q1.toList) = true := by simp
      go_wp2_with (first | (refine wpl_load_blk (by rfl) 35 _ (by rfl) _ (by rfl) _ _ (by exact bM) _ Tryd.underlying35 (by rfl) (by exact info_rule) ?_) | (refine wpl_load_blk (by rfl) 35 _ (by rfl) _ (by rfl) _ _ (by exact bN) _ Tryd.underlying35 (by rfl) (by exact info_rule) ?_))
      refine (Hr2.out _ Hm13.out).mono ?_
      rintro e u1 ⟨rfl, hg21⟩
      have hf21 := Hf13.out.trans hg21
      have hm21 := hmax.keep hf21
      have bN2 := bN.frm hg21 (fun h => h)
      have Hf21 := Lib.hid hf21
      have Hm21 := Lib.hid hm21
      have Hg21 := Lib.hid hg21
      clear hf21 hm21 hg21
      clear bM bN
      go_wp2_with (first | (refine wpl_load_blk (by rfl) 35 _ (by rfl) _ (by rfl) _ _ (by exact bN2) _ Tryd.underlying35 (by rfl) (by exact info_rule) ?_))
      refine (Hr3.out _ Hm21.out).mono ?_
      rintro e u2 ⟨rfl, hg22⟩
      have hf22 := Hf21.out.trans hg22
      have hm22 := hmax.keep hf22
      have Hf22 := Lib.hid hf22
      have Hm22 := Lib.hid hm22
      have Hg22 := Lib.hid hg22
      clear hf22 hm22 hg22
      clear bN2
      go_wp2_with fail
      refine (rlives_any _ Hm22.out).mono ?_
      rintro e yz ⟨rfl, hgz⟩
      have Hfz := Lib.hid (Hf22.out.trans hgz)
      clear hgz
      go_wp2_with fail
      go_ret
      exact ⟨rfl, Hfz.out.below (Nat.le_refl _) (fun _ _ h => h)⟩
    exact AllReadyH.nil
  exact AllReadyH.nil
end Go.Proofs.YtbeilgkogbcjjaaDoor
