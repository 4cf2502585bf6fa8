/- The walk of the statement RewriteHeads. -/
import Derived.Test.YtbeilgkogbcjjaaDoorRule
import Derived.Test.YtbeilgkogbcjjaaDoorRewHeads
import Derived.Test.YtbeilgkogbcjjaaDoorShaped
import Derived.Test.YtbeilgkogbcjjaaDoorHeadEq
import Derived.Test.YtbeilgkogbcjjaaDoorStoreNew
import Derived.StillTailTactics
import Derived.Deep.RegionHeld3
import Derived.Outline
set_option linter.unusedVariables false
namespace Go.Proofs.YtbeilgkogbcjjaaDoor
open Go.RowKit

set_option maxRecDepth 100000 in
set_option maxHeartbeats 4000000 in
theorem rewriteHeads_walk (a0 : Option Addr) (len0 cap0 : Nat) (z0 : List Int) (a1 : Option Addr) (len1 cap1 : Nat) (z1 : List Int) (w : World) (w0 : IsRow .i64 w a0 len0 cap0 z0) (w1 : IsRow .i64 w a1 len1 cap1 z1) (hmax : MaxL w) :
    Calls Tryd.prog 7 #[.slice a0 len0 cap0, .slice a1 len1 cap1] w fun e w' => e = .returned (.bool true) ∧ Below w.heap.size w w' := by
  obtain ⟨xs, h0⟩ := w0.list
  have hcap := w0.caps
  obtain ⟨ys, h1⟩ := w1.list
  have H0 := Lib.hid h0
  have H1 := Lib.hid h1
  clear h0 h1
  clear w0 w1
  go_enter Tryd.func7, Tryd.ntmps7
  go_wp2_with fail
  with_reducible refine (rule_any a0 len0 cap0 xs _ H0.out hcap.1 hcap.2).mono ?_
  rintro e x1 ⟨sv, dv, rfl, hs, hd, hf1⟩
  obtain ⟨sa, sc, rfl, _⟩ := hs.shape
  obtain ⟨da, dc, rfl, _⟩ := hd.shape
  obtain ⟨ns, hns⟩ : ∃ n, n = (genH ((xs.drop 4).take 4)).length := ⟨_, rfl⟩
  obtain ⟨nd, hnd⟩ : ∃ n, n = (namesH ((xs.drop 8).take 6)).length := ⟨_, rfl⟩
  rw [← hns] at hs ⊢
  rw [← hnd] at hd ⊢
  have hgS := GoodL.gen ((xs.drop 4).take 4)
  generalize genH ((xs.drop 4).take 4) = SS at *
  generalize namesH ((xs.drop 8).take 6) = DD at *
  have hbo := ofZ_ok (numAt xs 0)
  have hbl := ofZ_len (numAt xs 0)
  have hpx := pfx_cases (numAt xs 3) (numAt xs 1)
  generalize ofZ (numAt xs 0) = b at *
  generalize decide (around (numAt xs 2) 4 = 1) = ex at *
  generalize pfxOf (numAt xs 3) (numAt xs 1) = pfx at *
  obtain ⟨mp, hmp⟩ : ∃ mp, mp = bs (pathOf b) := ⟨_, rfl⟩
  rw [← hmp]
  unfold ruleV ruleC
  have fa := (Frm.refl noB x1).alloc (.cells (ruleC mp ex pfx (.slice sa ns sc) (.slice da nd dc)) 35)
  have hB := Blk.made x1 (ruleC mp ex pfx (.slice sa ns sc) (.slice da nd dc)) 35
  unfold ruleC at fa hB
  have hs1 := hs.keep fa
  have hd1 := hd.keep fa
  have hf2 := hf1.trans fa
  have hm2 := hmax.keep hf2
  have Hs := Lib.hid hs
  have Hd := Lib.hid hd
  have Hf1 := Lib.hid hf1
  have Hns := Lib.hid hns
  have Hnd := Lib.hid hnd
  have Hmp := Lib.hid hmp
  have Hfa := Lib.hid fa
  have HB := Lib.hid hB
  have Hs1 := Lib.hid hs1
  have Hd1 := Lib.hid hd1
  have Hf2 := Lib.hid hf2
  have Hm2 := Lib.hid hm2
  have Hbo := Lib.hid hbo
  have Hbl := Lib.hid hbl
  have Hpx := Lib.hid hpx
  have HgS := Lib.hid hgS
  clear hs hd hf1 hns hnd hmp fa hB hs1 hd1 hf2 hm2 hbo hbl hpx hgS
  go_wp2_with (refine wpl_store_new _ (by rfl) 35 _ _ (by rfl) _ (by rfl) (by first | rfl | simp) _ _ _ (by rfl) (by exact info_rule) (by rfl) (by kernel_rfl) ?_)
  refine (heads_hv a1 len1 cap1 ys _ (H1.out.keep Hf2.out)).mono ?_
  rintro e x3 ⟨va, rfl, ha, hf3⟩
  have hs4 := Hs1.out.keep hf3
  have hd4 := Hd1.out.keep hf3
  have hB4 := HB.out.frm hf3 (fun h => h)
  have hf4 := Hf2.out.trans hf3
  have hga := GoodL.gen (ys.take 12)
  have hal : (genH (ys.take 12)).length ≤ 1000 := by have := hga.len; omega
  have hand := hga.nd
  generalize genH (ys.take 12) = A at *
  have Ha4 := Lib.hid ha
  clear ha hga
  have Hs4 := Lib.hid hs4
  have Hd4 := Lib.hid hd4
  have Hf4 := Lib.hid hf4
  have Hf3 := Lib.hid hf3
  clear hs4 hd4 hf4 hf3
  go_upto_region 3 with fail
  refine wp_region_noPanic ?_
  refine wp_region_held_drew (S := fun W => Blk W x1.heap.size #[.string mp, .bool ex, .slice none 0 0, .slice none 0 0, .int .i64 0, .int .i64 0, .int .i64 0, .int .i64 0, .string pfx, .slice sa ns sc, .slice da nd dc, .int .i64 0, .int .i64 0, .int .i64 0, .int .i64 0, .int .i64 0, .int .i64 0, .int .i64 0, .int .i64 0] 35) (by kernel_rfl) ?_ (fun hHeld => ?_)
  · (repeat (first | assumption | ((with_reducible refine blk_new _ _ _ ?_); (first | (with_reducible rfl) | (simp; done))) | (with_reducible refine Blk.drew ?_) | (with_reducible refine Blk.alloc ?_ _) | (with_reducible refine Blk.frm ?_ (by assumption) (fun h => h))))
  refine takeD (i := 0) (some 11) (v := .agg (List.toArray (#[.string mp, .bool ex, .slice none 0 0, .slice none 0 0, .int .i64 0, .int .i64 0, .int .i64 0, .int .i64 0, .string pfx, .slice sa ns sc, .slice da nd dc, .int .i64 0, .int .i64 0, .int .i64 0, .int .i64 0, .int .i64 0, .int .i64 0, .int .i64 0, .int .i64 0] : Array Value).toList)) rfl rfl (by kernel_rfl) (by kernel_rfl) (by kernel_rfl) (fun _ _ _ h => h) (yieldsIf_load_mid (by kernel_rfl) 35 _ (by rfl) x1.heap.size 0 (by rfl) (#[.string mp, .bool ex, .slice none 0 0, .slice none 0 0, .int .i64 0, .int .i64 0, .int .i64 0, .int .i64 0, .string pfx, .slice sa ns sc, .slice da nd dc, .int .i64 0, .int .i64 0, .int .i64 0, .int .i64 0, .int .i64 0, .int .i64 0, .int .i64 0, .int .i64 0] : Array Value).toList _ (fun w h => blk_range h) Tryd.underlying35 rfl (by exact info_rule)) (by assumption) ?_
  (try dsimp only [Act.put]); try simp only [Act.put, List.setIfInBounds_toArray, List.set_cons_zero, List.set_cons_succ]
  refine takeD (i := 1) (some 12) (v := ?_) rfl rfl (by kernel_rfl) (by kernel_rfl) (by kernel_rfl) (fun _ _ _ h => h) (Or.inl ⟨by kernel_rfl, ?_⟩) (by assumption) ?_
  rotate_left
  · (intro w hSw; (try dsimp only at hSw); go_simp; try (with_reducible rfl))
  (try dsimp only [Act.put]); try simp only [Act.put, List.setIfInBounds_toArray, List.set_cons_zero, List.set_cons_succ]
  refine takeD (i := 3) (some 14) (v := .agg (List.toArray (#[.string mp, .bool ex, .slice none 0 0, .slice none 0 0, .int .i64 0, .int .i64 0, .int .i64 0, .int .i64 0, .string pfx, .slice sa ns sc, .slice da nd dc, .int .i64 0, .int .i64 0, .int .i64 0, .int .i64 0, .int .i64 0, .int .i64 0, .int .i64 0, .int .i64 0] : Array Value).toList)) rfl rfl (by kernel_rfl) (by kernel_rfl) (by kernel_rfl) (fun _ _ _ h => h) (yieldsIf_load_mid (by kernel_rfl) 35 _ (by rfl) x1.heap.size 0 (by rfl) (#[.string mp, .bool ex, .slice none 0 0, .slice none 0 0, .int .i64 0, .int .i64 0, .int .i64 0, .int .i64 0, .string pfx, .slice sa ns sc, .slice da nd dc, .int .i64 0, .int .i64 0, .int .i64 0, .int .i64 0, .int .i64 0, .int .i64 0, .int .i64 0, .int .i64 0] : Array Value).toList _ (fun w h => blk_range h) Tryd.underlying35 rfl (by exact info_rule)) (by assumption) ?_
  (try dsimp only [Act.put]); try simp only [Act.put, List.setIfInBounds_toArray, List.set_cons_zero, List.set_cons_succ]
  refine takeD (i := 4) (some 15) (v := ?_) rfl rfl (by kernel_rfl) (by kernel_rfl) (by kernel_rfl) (fun _ _ _ h => h) (Or.inl ⟨by kernel_rfl, ?_⟩) (by assumption) ?_
  rotate_left
  · (intro w hSw; (try dsimp only at hSw); go_simp; try (with_reducible rfl))
  (try dsimp only [Act.put]); try simp only [Act.put, List.setIfInBounds_toArray, List.set_cons_zero, List.set_cons_succ]
  refine wpAnyH_ready (rs := [2]) (by kernel_rfl) (by simp) ?_
  refine AllReadyH.cons rfl (fun K hK => ?_) ?_
  · go_simp
    refine (rew_heads_any mp ex pfx (.slice sa ns sc) (.slice da nd dc) va A SS DD _ ?_ hal hand ?_ ?_).mono ?_
    · exact Ha4.out.keep (Frm.refl noB _).drew
    · exact Hs4.out.keep (Frm.refl noB _).drew
    · exact Hd4.out.keep (Frm.refl noB _).drew
    rintro e y1 ⟨v1, rfl, hv1, hg1⟩
    have Hf5 := Lib.hid ((Hf4.out.drew).trans hg1)
    go_wp2_with fail
    refine hK.out _ _ ?_ (fun hHeld => ?_)
    · (repeat (first | assumption | ((with_reducible refine blk_new _ _ _ ?_); (first | (with_reducible rfl) | (simp; done))) | (with_reducible refine Blk.drew ?_) | (with_reducible refine Blk.alloc ?_ _) | (with_reducible refine Blk.frm ?_ (by assumption) (fun h => h))))
    clear hK K
    (try dsimp only [Act.put]); try simp only [Act.put, List.setIfInBounds_toArray, List.set_cons_zero, List.set_cons_succ]
    refine wpAnyH_ready (rs := [5]) (by kernel_rfl) (by simp) ?_
    refine AllReadyH.cons rfl (fun K hK => ?_) ?_
    · go_simp
      refine (ref_heads_any mp ex pfx (.slice sa ns sc) (.slice da nd dc) va A SS DD _ ?_ hal ?_ ?_).mono ?_
      · exact (Ha4.out.keep (Frm.refl noB _).drew).keep hg1
      · exact (Hs4.out.keep (Frm.refl noB _).drew).keep hg1
      · exact (Hd4.out.keep (Frm.refl noB _).drew).keep hg1
      rintro e y2 ⟨v2, rfl, hv2, hg2⟩
      have hv1b := hv1.keep hg2
      have Hf6 := Lib.hid (Hf5.out.trans hg2)
      go_wp2_with fail
      refine hK.out _ _ ?_ (fun hHeld => ?_)
      · (repeat (first | assumption | ((with_reducible refine blk_new _ _ _ ?_); (first | (with_reducible rfl) | (simp; done))) | (with_reducible refine Blk.drew ?_) | (with_reducible refine Blk.alloc ?_ _) | (with_reducible refine Blk.frm ?_ (by assumption) (fun h => h))))
      clear hK K
      (try dsimp only [Act.put]); try simp only [Act.put, List.setIfInBounds_toArray, List.set_cons_zero, List.set_cons_succ]
      refine wpAnyH_ready (rs := [6]) (by kernel_rfl) (by simp) ?_
      refine AllReadyH.cons rfl (fun K hK => ?_) ?_
      · go_simp
        refine (row_hv v1 v2 _ _ _ hv1b hv2).mono ?_
        rintro e y3 ⟨rfl, hg3⟩
        rw [rowB_self]
        have Hf7 := Lib.hid (Hf6.out.trans hg3)
        go_wp2_with fail
        refine hK.out _ _ ?_ (fun hHeld => ?_)
        · (repeat (first | assumption | ((with_reducible refine blk_new _ _ _ ?_); (first | (with_reducible rfl) | (simp; done))) | (with_reducible refine Blk.drew ?_) | (with_reducible refine Blk.alloc ?_ _) | (with_reducible refine Blk.frm ?_ (by assumption) (fun h => h))))
        clear hK K
        (try dsimp only [Act.put]); try simp only [Act.put, List.setIfInBounds_toArray, List.set_cons_zero, List.set_cons_succ]
        refine takeD (i := 7) (some 18) (v := ?_) rfl rfl (by kernel_rfl) (by kernel_rfl) (by kernel_rfl) (fun _ _ _ h => h) (Or.inl ⟨by kernel_rfl, ?_⟩) (by assumption) ?_
        rotate_left
        · (intro w hSw; (try dsimp only at hSw); go_simp; try (with_reducible rfl))
        (try dsimp only [Act.put]); try simp only [Act.put, List.setIfInBounds_toArray, List.set_cons_zero, List.set_cons_succ]
        refine wpAnyH_ready (rs := [8]) (by kernel_rfl) (by simp) ?_
        refine AllReadyH.cons rfl (fun K hK => ?_) ?_
        · go_simp
          refine (rlives_any _ (hmax.keep Hf7.out)).mono ?_
          rintro e y4 ⟨rfl, hg4⟩
          have Hf8 := Lib.hid (Hf7.out.trans hg4)
          go_wp2_with fail
          refine hK.out _ _ ?_ (fun hHeld => ?_)
          · (repeat (first | assumption | ((with_reducible refine blk_new _ _ _ ?_); (first | (with_reducible rfl) | (simp; done))) | (with_reducible refine Blk.drew ?_) | (with_reducible refine Blk.alloc ?_ _) | (with_reducible refine Blk.frm ?_ (by assumption) (fun h => h))))
          clear hK K
          (try dsimp only [Act.put]); try simp only [Act.put, List.setIfInBounds_toArray, List.set_cons_zero, List.set_cons_succ]
          refine takeD (i := 9) (some 20) (v := ?_) rfl rfl (by kernel_rfl) (by kernel_rfl) (by kernel_rfl) (fun _ _ _ h => h) (Or.inl ⟨by kernel_rfl, ?_⟩) (by assumption) ?_
          rotate_left
          · (intro w hSw; (try dsimp only at hSw); go_simp; try (with_reducible rfl))
          (try dsimp only [Act.put]); try simp only [Act.put, List.setIfInBounds_toArray, List.set_cons_zero, List.set_cons_succ]
          refine takeD (i := 10) (some 4) (v := ?_) rfl rfl (by kernel_rfl) (by kernel_rfl) (by kernel_rfl) (fun _ _ _ h => h) (Or.inl ⟨by kernel_rfl, ?_⟩) (by assumption) ?_
          rotate_left
          · (intro w hSw; (try dsimp only at hSw); go_simp; try (with_reducible rfl))
          (try dsimp only [Act.put]); try simp only [Act.put, List.setIfInBounds_toArray, List.set_cons_zero, List.set_cons_succ]
          refine wpAnyH_done (by kernel_rfl) ?_ _
          refine NoPanic.normal ?_
          go_wp2_with fail
          go_ret
          exact ⟨rfl, Hf8.out.below (Nat.le_refl _) (fun _ _ h => h)⟩
        exact AllReadyH.nil
      exact AllReadyH.nil
    exact AllReadyH.nil
  exact AllReadyH.nil
end Go.Proofs.YtbeilgkogbcjjaaDoor
