/- The walk of the statement MatchRow. -/
import Derived.Test.YtjehdldjfnaniaaDoorMatchRCmp
import Derived.Test.YtjehdldjfnaniaaDoorMatchFits
import Derived.Test.YtjehdldjfnaniaaDoorMatchLives
import Derived.Test.YtjehdldjfnaniaaDoorShaped
import Derived.Test.YtjehdldjfnaniaaDoorMatchPlain
import Derived.Test.YtjehdldjfnaniaaDoorTakeD
import Derived.StillTailTactics
import Derived.Deep.RegionHeld3
import Derived.Outline
set_option linter.unusedVariables false
set_option linter.unusedSimpArgs false
namespace Go.Proofs.YtjehdldjfnaniaaDoor
open Go.RowKit

set_option maxRecDepth 100000 in
set_option maxHeartbeats 4000000 in
theorem matchRow_walk (a0 : Option Addr) (len0 cap0 : Nat) (z0 : List Int) (a1 : Option Addr) (len1 cap1 : Nat) (z1 : List Int) (w : World) (w0 : IsRow .i64 w a0 len0 cap0 z0) (w1 : IsRow .i64 w a1 len1 cap1 z1) (hmax : MaxL w) :
    Calls Tryd.prog 3 #[.slice a0 len0 cap0, .slice a1 len1 cap1] w fun e w' => e = .returned (.bool true) ∧ Below w.heap.size w w' := by
  obtain ⟨xs, h0⟩ := w0.list
  obtain ⟨ys, h1⟩ := w1.list
  have H0 := Lib.hid h0
  have H1 := Lib.hid h1
  clear h0 h1
  clear w0 w1
  go_enter Tryd.func3, Tryd.ntmps3
  go_wp2_with fail
  refine (match_any a0 len0 cap0 xs _ H0.out).mono ?_
  rintro e x1 ⟨hv, rfl, hh, hg⟩
  obtain ⟨sa1, sc1, hve, hre, _⟩ := hh.shape
  obtain ⟨sn1, hsn⟩ : ∃ n, n = (mHs xs).length := ⟨_, rfl⟩
  rw [← hsn] at hve
  subst hve
  have hpo1 := mMp_ok xs
  have hpl1 := mMp_len xs
  have hls1 : (mHs xs).length ≤ 3 := by unfold mHs; have := mHsU_len xs (max 1 (min xs.length 3)); omega
  generalize mMp xs = P1 at *
  generalize mEx xs = ex1 at *
  generalize mHs xs = S1 at *
  obtain ⟨mp1, hmp1⟩ : ∃ m, m = bs (pathOf P1) := ⟨_, rfl⟩
  rw [← hmp1]
  have HG1 := Lib.hid (hg.alloc (.cells #[.string mp1, .bool ex1, .slice sa1 sn1 sc1] 25))
  have HB1 := Lib.hid (Blk.made x1 #[.string mp1, .bool ex1, .slice sa1 sn1 sc1] 25)
  have HH1 := Lib.hid (hh.keep ((Frm.refl noB x1).alloc (.cells #[.string mp1, .bool ex1, .slice sa1 sn1 sc1] 25)))
  have Hsn1 := Lib.hid hsn
  clear hsn hh hg hre
  have Hpo1 := Lib.hid hpo1
  have Hpl1 := Lib.hid hpl1
  have Hmp1 := Lib.hid hmp1
  have Hls1 := Lib.hid hls1
  clear hpo1 hpl1 hmp1 hls1
  have HF1 := Lib.hid (HG1.out)
  go_upto_region 2 with (refine wpl_store_new _ (by rfl) 25 _ _ (by rfl) _ (by rfl) (by first | rfl | simp) _ _ _ (by rfl) (by exact info_match) (by rfl) (by kernel_rfl) ?_)
  generalize x1.alloc (.cells #[.string mp1, .bool ex1, .slice sa1 sn1 sc1] 25) = W1 at *
  go_wp2_with fail
  refine (match_any a1 len1 cap1 ys _ (H1.out.keep HF1.out)).mono ?_
  rintro e x2 ⟨hv, rfl, hh, hg⟩
  obtain ⟨sa2, sc2, hve, hre, _⟩ := hh.shape
  obtain ⟨sn2, hsn⟩ : ∃ n, n = (mHs ys).length := ⟨_, rfl⟩
  rw [← hsn] at hve
  subst hve
  have hpo2 := mMp_ok ys
  have hpl2 := mMp_len ys
  have hls2 : (mHs ys).length ≤ 3 := by unfold mHs; have := mHsU_len ys (max 1 (min ys.length 3)); omega
  generalize mMp ys = P2 at *
  generalize mEx ys = ex2 at *
  generalize mHs ys = S2 at *
  obtain ⟨mp2, hmp2⟩ : ∃ m, m = bs (pathOf P2) := ⟨_, rfl⟩
  rw [← hmp2]
  have HG2 := Lib.hid (hg.alloc (.cells #[.string mp2, .bool ex2, .slice sa2 sn2 sc2] 25))
  have HB2 := Lib.hid (Blk.made x2 #[.string mp2, .bool ex2, .slice sa2 sn2 sc2] 25)
  have HH2 := Lib.hid (hh.keep ((Frm.refl noB x2).alloc (.cells #[.string mp2, .bool ex2, .slice sa2 sn2 sc2] 25)))
  have Hsn2 := Lib.hid hsn
  clear hsn hh hg hre
  have Hpo2 := Lib.hid hpo2
  have Hpl2 := Lib.hid hpl2
  have Hmp2 := Lib.hid hmp2
  have Hls2 := Lib.hid hls2
  clear hpo2 hpl2 hmp2 hls2
  have HF2 := Lib.hid (HF1.out.trans HG2.out)
  have HB1 := Lib.hid (HB1.out.frm HG2.out (fun h => h))
  have HH1 := Lib.hid (HH1.out.keep HG2.out)
  go_upto_region 3 with (refine wpl_store_new _ (by rfl) 25 _ _ (by rfl) _ (by rfl) (by first | rfl | simp) _ _ _ (by rfl) (by exact info_match) (by rfl) (by kernel_rfl) ?_)
  generalize x2.alloc (.cells #[.string mp2, .bool ex2, .slice sa2 sn2 sc2] 25) = W2 at *
  have bL := HB1.out
  have HG3 := Lib.hid ((Frm.refl noB W2).alloc (.cells #[.string mp1, .bool ex1, .slice sa1 sn1 sc1] 25))
  have HB3 := Lib.hid (Blk.made W2 #[.string mp1, .bool ex1, .slice sa1 sn1 sc1] 25)
  go_upto_region 4 with (first | (refine wpl_load_blk (by rfl) 25 _ (by rfl) _ (by rfl) _ _ (by exact bL) _ Tryd.underlying25 (by rfl) (by exact info_match) ?_) | (refine wpl_store_new _ (by rfl) 25 _ _ (by rfl) _ (by rfl) (by first | rfl | simp) _ _ _ (by rfl) (by exact info_match) (by rfl) (by kernel_rfl) ?_))
  clear bL
  generalize W2.alloc (.cells #[.string mp1, .bool ex1, .slice sa1 sn1 sc1] 25) = W3 at *
  have m1 := ((HB1.out.frm HG3.out (fun h => h)).cell 1).trans (show _ = some (Value.bool ex1) from rfl)
  have n1 := (HB3.out.cell 1).trans (show _ = some (Value.bool ex1) from rfl)
  have ny := HB3.out.free 1
  have nl := HB3.out.lt
  have hB4 := HB3.out.set 1 (.bool (!ex1))
  rw [show (#[.string mp1, .bool ex1, .slice sa1 sn1 sc1] : Array Value).setIfInBounds 1 (.bool (!ex1)) = #[.string mp1, .bool (!ex1), .slice sa1 sn1 sc1] from rfl] at hB4
  have HB4 := Lib.hid hB4
  have HG4 := Lib.hid (HG3.out.setNew (p := ⟨W2.heap.size, 1, none⟩) (Nat.le_refl _) (.bool (!ex1)))
  clear hB4
  go_upto_region 5 with fail
  clear m1 n1 ny nl
  generalize W3.setCell ⟨W2.heap.size, 1, none⟩ (.bool (!ex1)) = W4 at *
  have hA := HB1.out.frm HG4.out (fun h => h)
  have hB := HB2.out.frm HG4.out (fun h => h)
  have hC := HB4.out
  have HF4 := Lib.hid (HF2.out.trans HG4.out)
  have Hm4 := Lib.hid (hmax.keep HF4.out)
  obtain ⟨ex3, hex3⟩ : ∃ b, b = !ex1 := ⟨_, rfl⟩
  rw [← hex3] at hC
  have Hex3 := Lib.hid hex3
  clear hex3
  have e1 := rk_pn Hpo1.out (by have := Hpl1.out; omega)
  have e2 := rk_pn Hpo2.out (by have := Hpl2.out; omega)
  rw [← Hmp1.out] at e1
  rw [← Hmp2.out] at e2
  have s1 : mp1.size ≤ 1000000 := by rw [Hmp1.out, bs_size]; have := Hpl1.out; omega
  have s2 : mp2.size ≤ 1000000 := by rw [Hmp2.out, bs_size]; have := Hpl2.out; omega
  have c0 := fun w => cmp_any mp1 ex1 sa1 sn1 sc1 mp2 ex2 sa2 sn2 sc2 w
  have r0 := fun w => rcmp_any mp1 ex1 sa1 sn1 sc1 mp2 ex2 sa2 sn2 sc2 w s1 s2
  have c1 := fun w => cmp_any mp1 ex1 sa1 sn1 sc1 mp1 ex3 sa1 sn1 sc1 w
  have r1 := fun w => rcmp_any mp1 ex1 sa1 sn1 sc1 mp1 ex3 sa1 sn1 sc1 w s1 s1
  have c2 := fun w => cmp_any mp2 ex2 sa2 sn2 sc2 mp1 ex3 sa1 sn1 sc1 w
  have r2 := fun w => rcmp_any mp2 ex2 sa2 sn2 sc2 mp1 ex3 sa1 sn1 sc1 w s2 s1
  rw [e1, e2] at r0
  rw [e1] at r1
  rw [e2, e1] at r2
  generalize cmpR (rk0 ex1) (rk1 mp1) sn1 (rk0 ex2) (rk1 mp2) sn2 = V0 at *
  generalize cmpR (rk0 ex1) (rk1 mp1) sn1 (rk0 ex3) (rk1 mp1) sn1 = V1 at *
  generalize cmpR (rk0 ex2) (rk1 mp2) sn2 (rk0 ex3) (rk1 mp1) sn1 = V2 at *
  have He1 := Lib.hid e1
  have He2 := Lib.hid e2
  have Hs1 := Lib.hid s1
  have Hs2 := Lib.hid s2
  have Hc0 := Lib.hid c0
  have Hr0 := Lib.hid r0
  have Hc1 := Lib.hid c1
  have Hr1 := Lib.hid r1
  have Hc2 := Lib.hid c2
  have Hr2 := Lib.hid r2
  clear e1 e2 s1 s2 c0 r0 c1 r1 c2 r2
  refine wp_region_noPanic ?_
  refine wp_region_held_drew (S := fun X => Blk X x1.heap.size #[.string mp1, .bool ex1, .slice sa1 sn1 sc1] 25 ∧ Blk X x2.heap.size #[.string mp2, .bool ex2, .slice sa2 sn2 sc2] 25 ∧ Blk X W2.heap.size #[.string mp1, .bool ex3, .slice sa1 sn1 sc1] 25) (by kernel_rfl) ?_ (fun hHeld => ?_)
  · refine ⟨?_, ?_, ?_⟩ <;> (repeat (first | assumption | ((with_reducible refine blk_new _ _ _ ?_); (first | (with_reducible rfl) | (simp; done))) | (with_reducible refine Blk.drew ?_) | (with_reducible refine Blk.alloc ?_ _) | (with_reducible refine Blk.frm ?_ (by assumption) (fun h => h))))
  refine takeD (i := 0) (some 17) (v := ?_) rfl rfl (by kernel_rfl) (by kernel_rfl) (by kernel_rfl) (fun _ _ _ h => h) (Or.inl ⟨by kernel_rfl, ?_⟩) (by assumption) ?_
  rotate_left
  · (intro w hSw; (try dsimp only at hSw); have hQa0 := (hSw.1.cell 0).trans (show _ = some (Value.string mp1) from rfl); have hQa1 := (hSw.1.cell 1).trans (show _ = some (Value.bool ex1) from rfl); have hQa2 := (hSw.1.cell 2).trans (show _ = some (Value.slice sa1 sn1 sc1) from rfl); have hQb0 := (hSw.2.1.cell 0).trans (show _ = some (Value.string mp2) from rfl); have hQb1 := (hSw.2.1.cell 1).trans (show _ = some (Value.bool ex2) from rfl); have hQb2 := (hSw.2.1.cell 2).trans (show _ = some (Value.slice sa2 sn2 sc2) from rfl); have hQc0 := (hSw.2.2.cell 0).trans (show _ = some (Value.string mp1) from rfl); have hQc1 := (hSw.2.2.cell 1).trans (show _ = some (Value.bool ex3) from rfl); have hQc2 := (hSw.2.2.cell 2).trans (show _ = some (Value.slice sa1 sn1 sc1) from rfl); go_simp; try (with_reducible rfl))
  (try dsimp only [Act.put]); try simp only [Act.put, List.setIfInBounds_toArray, List.set_cons_zero, List.set_cons_succ]
  refine takeD (i := 1) (some 18) (v := ?_) rfl rfl (by kernel_rfl) (by kernel_rfl) (by kernel_rfl) (fun _ _ _ h => h) (Or.inl ⟨by kernel_rfl, ?_⟩) (by assumption) ?_
  rotate_left
  · (intro w hSw; (try dsimp only at hSw); have hQa0 := (hSw.1.cell 0).trans (show _ = some (Value.string mp1) from rfl); have hQa1 := (hSw.1.cell 1).trans (show _ = some (Value.bool ex1) from rfl); have hQa2 := (hSw.1.cell 2).trans (show _ = some (Value.slice sa1 sn1 sc1) from rfl); have hQb0 := (hSw.2.1.cell 0).trans (show _ = some (Value.string mp2) from rfl); have hQb1 := (hSw.2.1.cell 1).trans (show _ = some (Value.bool ex2) from rfl); have hQb2 := (hSw.2.1.cell 2).trans (show _ = some (Value.slice sa2 sn2 sc2) from rfl); have hQc0 := (hSw.2.2.cell 0).trans (show _ = some (Value.string mp1) from rfl); have hQc1 := (hSw.2.2.cell 1).trans (show _ = some (Value.bool ex3) from rfl); have hQc2 := (hSw.2.2.cell 2).trans (show _ = some (Value.slice sa1 sn1 sc1) from rfl); go_simp; try (with_reducible rfl))
  (try dsimp only [Act.put]); try simp only [Act.put, List.setIfInBounds_toArray, List.set_cons_zero, List.set_cons_succ]
  refine takeD (i := 3) (some 20) (v := ?_) rfl rfl (by kernel_rfl) (by kernel_rfl) (by kernel_rfl) (fun _ _ _ h => h) (Or.inl ⟨by kernel_rfl, ?_⟩) (by assumption) ?_
  rotate_left
  · (intro w hSw; (try dsimp only at hSw); have hQa0 := (hSw.1.cell 0).trans (show _ = some (Value.string mp1) from rfl); have hQa1 := (hSw.1.cell 1).trans (show _ = some (Value.bool ex1) from rfl); have hQa2 := (hSw.1.cell 2).trans (show _ = some (Value.slice sa1 sn1 sc1) from rfl); have hQb0 := (hSw.2.1.cell 0).trans (show _ = some (Value.string mp2) from rfl); have hQb1 := (hSw.2.1.cell 1).trans (show _ = some (Value.bool ex2) from rfl); have hQb2 := (hSw.2.1.cell 2).trans (show _ = some (Value.slice sa2 sn2 sc2) from rfl); have hQc0 := (hSw.2.2.cell 0).trans (show _ = some (Value.string mp1) from rfl); have hQc1 := (hSw.2.2.cell 1).trans (show _ = some (Value.bool ex3) from rfl); have hQc2 := (hSw.2.2.cell 2).trans (show _ = some (Value.slice sa1 sn1 sc1) from rfl); go_simp; try (with_reducible rfl))
  (try dsimp only [Act.put]); try simp only [Act.put, List.setIfInBounds_toArray, List.set_cons_zero, List.set_cons_succ]
  refine takeD (i := 4) (some 21) (v := ?_) rfl rfl (by kernel_rfl) (by kernel_rfl) (by kernel_rfl) (fun _ _ _ h => h) (Or.inl ⟨by kernel_rfl, ?_⟩) (by assumption) ?_
  rotate_left
  · (intro w hSw; (try dsimp only at hSw); have hQa0 := (hSw.1.cell 0).trans (show _ = some (Value.string mp1) from rfl); have hQa1 := (hSw.1.cell 1).trans (show _ = some (Value.bool ex1) from rfl); have hQa2 := (hSw.1.cell 2).trans (show _ = some (Value.slice sa1 sn1 sc1) from rfl); have hQb0 := (hSw.2.1.cell 0).trans (show _ = some (Value.string mp2) from rfl); have hQb1 := (hSw.2.1.cell 1).trans (show _ = some (Value.bool ex2) from rfl); have hQb2 := (hSw.2.1.cell 2).trans (show _ = some (Value.slice sa2 sn2 sc2) from rfl); have hQc0 := (hSw.2.2.cell 0).trans (show _ = some (Value.string mp1) from rfl); have hQc1 := (hSw.2.2.cell 1).trans (show _ = some (Value.bool ex3) from rfl); have hQc2 := (hSw.2.2.cell 2).trans (show _ = some (Value.slice sa1 sn1 sc1) from rfl); go_simp; try (with_reducible rfl))
  (try dsimp only [Act.put]); try simp only [Act.put, List.setIfInBounds_toArray, List.set_cons_zero, List.set_cons_succ]
  refine wpAnyH_ready (rs := [2]) (by kernel_rfl) (by simp) ?_
  refine AllReadyH.cons rfl (fun K hK => ?_) ?_
  · go_simp
    refine (Hc0.out _).mono ?_
    rintro e y0 ⟨rfl, hg0⟩
    have HQ0 := Lib.hid (((Frm.refl noB W4).drew).trans hg0)
    go_wp2_with fail
    refine hK.out _ _ ?_ (fun hHeld => ?_)
    · refine ⟨?_, ?_, ?_⟩ <;> (repeat (first | assumption | ((with_reducible refine blk_new _ _ _ ?_); (first | (with_reducible rfl) | (simp; done))) | (with_reducible refine Blk.drew ?_) | (with_reducible refine Blk.alloc ?_ _) | (with_reducible refine Blk.frm ?_ (by assumption) (fun h => h))))
    clear hK K
    (try dsimp only [Act.put]); try simp only [Act.put, List.setIfInBounds_toArray, List.set_cons_zero, List.set_cons_succ]
    refine wpAnyH_ready (rs := [5]) (by kernel_rfl) (by simp) ?_
    refine AllReadyH.cons rfl (fun K hK => ?_) ?_
    · go_simp
      refine (Hr0.out _).mono ?_
      rintro e y1 ⟨rfl, hg1⟩
      have HQ1 := Lib.hid ((HQ0.out).trans hg1)
      go_wp2_with fail
      refine hK.out _ _ ?_ (fun hHeld => ?_)
      · refine ⟨?_, ?_, ?_⟩ <;> (repeat (first | assumption | ((with_reducible refine blk_new _ _ _ ?_); (first | (with_reducible rfl) | (simp; done))) | (with_reducible refine Blk.drew ?_) | (with_reducible refine Blk.alloc ?_ _) | (with_reducible refine Blk.frm ?_ (by assumption) (fun h => h))))
      clear hK K
      (try dsimp only [Act.put]); try simp only [Act.put, List.setIfInBounds_toArray, List.set_cons_zero, List.set_cons_succ]
      refine takeD (i := 6) (some 23) (v := ?_) rfl rfl (by kernel_rfl) (by kernel_rfl) (by kernel_rfl) (fun _ _ _ h => h) (Or.inl ⟨by kernel_rfl, ?_⟩) (by assumption) ?_
      rotate_left
      · (intro w hSw; (try dsimp only at hSw); have hQa0 := (hSw.1.cell 0).trans (show _ = some (Value.string mp1) from rfl); have hQa1 := (hSw.1.cell 1).trans (show _ = some (Value.bool ex1) from rfl); have hQa2 := (hSw.1.cell 2).trans (show _ = some (Value.slice sa1 sn1 sc1) from rfl); have hQb0 := (hSw.2.1.cell 0).trans (show _ = some (Value.string mp2) from rfl); have hQb1 := (hSw.2.1.cell 1).trans (show _ = some (Value.bool ex2) from rfl); have hQb2 := (hSw.2.1.cell 2).trans (show _ = some (Value.slice sa2 sn2 sc2) from rfl); have hQc0 := (hSw.2.2.cell 0).trans (show _ = some (Value.string mp1) from rfl); have hQc1 := (hSw.2.2.cell 1).trans (show _ = some (Value.bool ex3) from rfl); have hQc2 := (hSw.2.2.cell 2).trans (show _ = some (Value.slice sa1 sn1 sc1) from rfl); go_simp; try (with_reducible rfl))
      (try dsimp only [Act.put]); try simp only [Act.put, List.setIfInBounds_toArray, List.set_cons_zero, List.set_cons_succ]
      refine takeD (i := 7) (some 24) (v := ?_) rfl rfl (by kernel_rfl) (by kernel_rfl) (by kernel_rfl) (fun _ _ _ h => h) (Or.inl ⟨by kernel_rfl, ?_⟩) (by assumption) ?_
      rotate_left
      · (intro w hSw; (try dsimp only at hSw); have hQa0 := (hSw.1.cell 0).trans (show _ = some (Value.string mp1) from rfl); have hQa1 := (hSw.1.cell 1).trans (show _ = some (Value.bool ex1) from rfl); have hQa2 := (hSw.1.cell 2).trans (show _ = some (Value.slice sa1 sn1 sc1) from rfl); have hQb0 := (hSw.2.1.cell 0).trans (show _ = some (Value.string mp2) from rfl); have hQb1 := (hSw.2.1.cell 1).trans (show _ = some (Value.bool ex2) from rfl); have hQb2 := (hSw.2.1.cell 2).trans (show _ = some (Value.slice sa2 sn2 sc2) from rfl); have hQc0 := (hSw.2.2.cell 0).trans (show _ = some (Value.string mp1) from rfl); have hQc1 := (hSw.2.2.cell 1).trans (show _ = some (Value.bool ex3) from rfl); have hQc2 := (hSw.2.2.cell 2).trans (show _ = some (Value.slice sa1 sn1 sc1) from rfl); go_simp; try (with_reducible rfl))
      (try dsimp only [Act.put]); try simp only [Act.put, List.setIfInBounds_toArray, List.set_cons_zero, List.set_cons_succ]
      refine takeD (i := 8) (some 25) (v := ?_) rfl rfl (by kernel_rfl) (by kernel_rfl) (by kernel_rfl) (fun _ _ _ h => h) (Or.inl ⟨by kernel_rfl, ?_⟩) (by assumption) ?_
      rotate_left
      · (intro w hSw; (try dsimp only at hSw); have hQa0 := (hSw.1.cell 0).trans (show _ = some (Value.string mp1) from rfl); have hQa1 := (hSw.1.cell 1).trans (show _ = some (Value.bool ex1) from rfl); have hQa2 := (hSw.1.cell 2).trans (show _ = some (Value.slice sa1 sn1 sc1) from rfl); have hQb0 := (hSw.2.1.cell 0).trans (show _ = some (Value.string mp2) from rfl); have hQb1 := (hSw.2.1.cell 1).trans (show _ = some (Value.bool ex2) from rfl); have hQb2 := (hSw.2.1.cell 2).trans (show _ = some (Value.slice sa2 sn2 sc2) from rfl); have hQc0 := (hSw.2.2.cell 0).trans (show _ = some (Value.string mp1) from rfl); have hQc1 := (hSw.2.2.cell 1).trans (show _ = some (Value.bool ex3) from rfl); have hQc2 := (hSw.2.2.cell 2).trans (show _ = some (Value.slice sa1 sn1 sc1) from rfl); go_simp; try (with_reducible rfl))
      (try dsimp only [Act.put]); try simp only [Act.put, List.setIfInBounds_toArray, List.set_cons_zero, List.set_cons_succ]
      refine takeD (i := 9) (some 26) (v := ?_) rfl rfl (by kernel_rfl) (by kernel_rfl) (by kernel_rfl) (fun _ _ _ h => h) (Or.inl ⟨by kernel_rfl, ?_⟩) (by assumption) ?_
      rotate_left
      · (intro w hSw; (try dsimp only at hSw); have hQa0 := (hSw.1.cell 0).trans (show _ = some (Value.string mp1) from rfl); have hQa1 := (hSw.1.cell 1).trans (show _ = some (Value.bool ex1) from rfl); have hQa2 := (hSw.1.cell 2).trans (show _ = some (Value.slice sa1 sn1 sc1) from rfl); have hQb0 := (hSw.2.1.cell 0).trans (show _ = some (Value.string mp2) from rfl); have hQb1 := (hSw.2.1.cell 1).trans (show _ = some (Value.bool ex2) from rfl); have hQb2 := (hSw.2.1.cell 2).trans (show _ = some (Value.slice sa2 sn2 sc2) from rfl); have hQc0 := (hSw.2.2.cell 0).trans (show _ = some (Value.string mp1) from rfl); have hQc1 := (hSw.2.2.cell 1).trans (show _ = some (Value.bool ex3) from rfl); have hQc2 := (hSw.2.2.cell 2).trans (show _ = some (Value.slice sa1 sn1 sc1) from rfl); go_simp; try (with_reducible rfl))
      (try dsimp only [Act.put]); try simp only [Act.put, List.setIfInBounds_toArray, List.set_cons_zero, List.set_cons_succ]
      refine takeD (i := 11) (some 28) (v := ?_) rfl rfl (by kernel_rfl) (by kernel_rfl) (by kernel_rfl) (fun _ _ _ h => h) (Or.inl ⟨by kernel_rfl, ?_⟩) (by assumption) ?_
      rotate_left
      · (intro w hSw; (try dsimp only at hSw); have hQa0 := (hSw.1.cell 0).trans (show _ = some (Value.string mp1) from rfl); have hQa1 := (hSw.1.cell 1).trans (show _ = some (Value.bool ex1) from rfl); have hQa2 := (hSw.1.cell 2).trans (show _ = some (Value.slice sa1 sn1 sc1) from rfl); have hQb0 := (hSw.2.1.cell 0).trans (show _ = some (Value.string mp2) from rfl); have hQb1 := (hSw.2.1.cell 1).trans (show _ = some (Value.bool ex2) from rfl); have hQb2 := (hSw.2.1.cell 2).trans (show _ = some (Value.slice sa2 sn2 sc2) from rfl); have hQc0 := (hSw.2.2.cell 0).trans (show _ = some (Value.string mp1) from rfl); have hQc1 := (hSw.2.2.cell 1).trans (show _ = some (Value.bool ex3) from rfl); have hQc2 := (hSw.2.2.cell 2).trans (show _ = some (Value.slice sa1 sn1 sc1) from rfl); go_simp; try (with_reducible rfl))
      (try dsimp only [Act.put]); try simp only [Act.put, List.setIfInBounds_toArray, List.set_cons_zero, List.set_cons_succ]
      refine takeD (i := 12) (some 29) (v := ?_) rfl rfl (by kernel_rfl) (by kernel_rfl) (by kernel_rfl) (fun _ _ _ h => h) (Or.inl ⟨by kernel_rfl, ?_⟩) (by assumption) ?_
      rotate_left
      · (intro w hSw; (try dsimp only at hSw); have hQa0 := (hSw.1.cell 0).trans (show _ = some (Value.string mp1) from rfl); have hQa1 := (hSw.1.cell 1).trans (show _ = some (Value.bool ex1) from rfl); have hQa2 := (hSw.1.cell 2).trans (show _ = some (Value.slice sa1 sn1 sc1) from rfl); have hQb0 := (hSw.2.1.cell 0).trans (show _ = some (Value.string mp2) from rfl); have hQb1 := (hSw.2.1.cell 1).trans (show _ = some (Value.bool ex2) from rfl); have hQb2 := (hSw.2.1.cell 2).trans (show _ = some (Value.slice sa2 sn2 sc2) from rfl); have hQc0 := (hSw.2.2.cell 0).trans (show _ = some (Value.string mp1) from rfl); have hQc1 := (hSw.2.2.cell 1).trans (show _ = some (Value.bool ex3) from rfl); have hQc2 := (hSw.2.2.cell 2).trans (show _ = some (Value.slice sa1 sn1 sc1) from rfl); go_simp; try (with_reducible rfl))
      (try dsimp only [Act.put]); try simp only [Act.put, List.setIfInBounds_toArray, List.set_cons_zero, List.set_cons_succ]
      refine wpAnyH_ready (rs := [10]) (by kernel_rfl) (by simp) ?_
      refine AllReadyH.cons rfl (fun K hK => ?_) ?_
      · go_simp
        refine (Hc1.out _).mono ?_
        rintro e y2 ⟨rfl, hg2⟩
        have HQ2 := Lib.hid ((HQ1.out).trans hg2)
        go_wp2_with fail
        refine hK.out _ _ ?_ (fun hHeld => ?_)
        · refine ⟨?_, ?_, ?_⟩ <;> (repeat (first | assumption | ((with_reducible refine blk_new _ _ _ ?_); (first | (with_reducible rfl) | (simp; done))) | (with_reducible refine Blk.drew ?_) | (with_reducible refine Blk.alloc ?_ _) | (with_reducible refine Blk.frm ?_ (by assumption) (fun h => h))))
        clear hK K
        (try dsimp only [Act.put]); try simp only [Act.put, List.setIfInBounds_toArray, List.set_cons_zero, List.set_cons_succ]
        refine wpAnyH_ready (rs := [13]) (by kernel_rfl) (by simp) ?_
        refine AllReadyH.cons rfl (fun K hK => ?_) ?_
        · go_simp
          refine (Hr1.out _).mono ?_
          rintro e y3 ⟨rfl, hg3⟩
          have HQ3 := Lib.hid ((HQ2.out).trans hg3)
          go_wp2_with fail
          refine hK.out _ _ ?_ (fun hHeld => ?_)
          · refine ⟨?_, ?_, ?_⟩ <;> (repeat (first | assumption | ((with_reducible refine blk_new _ _ _ ?_); (first | (with_reducible rfl) | (simp; done))) | (with_reducible refine Blk.drew ?_) | (with_reducible refine Blk.alloc ?_ _) | (with_reducible refine Blk.frm ?_ (by assumption) (fun h => h))))
          clear hK K
          (try dsimp only [Act.put]); try simp only [Act.put, List.setIfInBounds_toArray, List.set_cons_zero, List.set_cons_succ]
          refine takeD (i := 14) (some 31) (v := ?_) rfl rfl (by kernel_rfl) (by kernel_rfl) (by kernel_rfl) (fun _ _ _ h => h) (Or.inl ⟨by kernel_rfl, ?_⟩) (by assumption) ?_
          rotate_left
          · (intro w hSw; (try dsimp only at hSw); have hQa0 := (hSw.1.cell 0).trans (show _ = some (Value.string mp1) from rfl); have hQa1 := (hSw.1.cell 1).trans (show _ = some (Value.bool ex1) from rfl); have hQa2 := (hSw.1.cell 2).trans (show _ = some (Value.slice sa1 sn1 sc1) from rfl); have hQb0 := (hSw.2.1.cell 0).trans (show _ = some (Value.string mp2) from rfl); have hQb1 := (hSw.2.1.cell 1).trans (show _ = some (Value.bool ex2) from rfl); have hQb2 := (hSw.2.1.cell 2).trans (show _ = some (Value.slice sa2 sn2 sc2) from rfl); have hQc0 := (hSw.2.2.cell 0).trans (show _ = some (Value.string mp1) from rfl); have hQc1 := (hSw.2.2.cell 1).trans (show _ = some (Value.bool ex3) from rfl); have hQc2 := (hSw.2.2.cell 2).trans (show _ = some (Value.slice sa1 sn1 sc1) from rfl); go_simp; try (with_reducible rfl))
          (try dsimp only [Act.put]); try simp only [Act.put, List.setIfInBounds_toArray, List.set_cons_zero, List.set_cons_succ]
          refine takeD (i := 15) (some 32) (v := ?_) rfl rfl (by kernel_rfl) (by kernel_rfl) (by kernel_rfl) (fun _ _ _ h => h) (Or.inl ⟨by kernel_rfl, ?_⟩) (by assumption) ?_
          rotate_left
          · (intro w hSw; (try dsimp only at hSw); have hQa0 := (hSw.1.cell 0).trans (show _ = some (Value.string mp1) from rfl); have hQa1 := (hSw.1.cell 1).trans (show _ = some (Value.bool ex1) from rfl); have hQa2 := (hSw.1.cell 2).trans (show _ = some (Value.slice sa1 sn1 sc1) from rfl); have hQb0 := (hSw.2.1.cell 0).trans (show _ = some (Value.string mp2) from rfl); have hQb1 := (hSw.2.1.cell 1).trans (show _ = some (Value.bool ex2) from rfl); have hQb2 := (hSw.2.1.cell 2).trans (show _ = some (Value.slice sa2 sn2 sc2) from rfl); have hQc0 := (hSw.2.2.cell 0).trans (show _ = some (Value.string mp1) from rfl); have hQc1 := (hSw.2.2.cell 1).trans (show _ = some (Value.bool ex3) from rfl); have hQc2 := (hSw.2.2.cell 2).trans (show _ = some (Value.slice sa1 sn1 sc1) from rfl); go_simp; try (with_reducible rfl))
          (try dsimp only [Act.put]); try simp only [Act.put, List.setIfInBounds_toArray, List.set_cons_zero, List.set_cons_succ]
          refine takeD (i := 16) (some 33) (v := ?_) rfl rfl (by kernel_rfl) (by kernel_rfl) (by kernel_rfl) (fun _ _ _ h => h) (Or.inl ⟨by kernel_rfl, ?_⟩) (by assumption) ?_
          rotate_left
          · (intro w hSw; (try dsimp only at hSw); have hQa0 := (hSw.1.cell 0).trans (show _ = some (Value.string mp1) from rfl); have hQa1 := (hSw.1.cell 1).trans (show _ = some (Value.bool ex1) from rfl); have hQa2 := (hSw.1.cell 2).trans (show _ = some (Value.slice sa1 sn1 sc1) from rfl); have hQb0 := (hSw.2.1.cell 0).trans (show _ = some (Value.string mp2) from rfl); have hQb1 := (hSw.2.1.cell 1).trans (show _ = some (Value.bool ex2) from rfl); have hQb2 := (hSw.2.1.cell 2).trans (show _ = some (Value.slice sa2 sn2 sc2) from rfl); have hQc0 := (hSw.2.2.cell 0).trans (show _ = some (Value.string mp1) from rfl); have hQc1 := (hSw.2.2.cell 1).trans (show _ = some (Value.bool ex3) from rfl); have hQc2 := (hSw.2.2.cell 2).trans (show _ = some (Value.slice sa1 sn1 sc1) from rfl); go_simp; try (with_reducible rfl))
          (try dsimp only [Act.put]); try simp only [Act.put, List.setIfInBounds_toArray, List.set_cons_zero, List.set_cons_succ]
          refine takeD (i := 17) (some 34) (v := ?_) rfl rfl (by kernel_rfl) (by kernel_rfl) (by kernel_rfl) (fun _ _ _ h => h) (Or.inl ⟨by kernel_rfl, ?_⟩) (by assumption) ?_
          rotate_left
          · (intro w hSw; (try dsimp only at hSw); have hQa0 := (hSw.1.cell 0).trans (show _ = some (Value.string mp1) from rfl); have hQa1 := (hSw.1.cell 1).trans (show _ = some (Value.bool ex1) from rfl); have hQa2 := (hSw.1.cell 2).trans (show _ = some (Value.slice sa1 sn1 sc1) from rfl); have hQb0 := (hSw.2.1.cell 0).trans (show _ = some (Value.string mp2) from rfl); have hQb1 := (hSw.2.1.cell 1).trans (show _ = some (Value.bool ex2) from rfl); have hQb2 := (hSw.2.1.cell 2).trans (show _ = some (Value.slice sa2 sn2 sc2) from rfl); have hQc0 := (hSw.2.2.cell 0).trans (show _ = some (Value.string mp1) from rfl); have hQc1 := (hSw.2.2.cell 1).trans (show _ = some (Value.bool ex3) from rfl); have hQc2 := (hSw.2.2.cell 2).trans (show _ = some (Value.slice sa1 sn1 sc1) from rfl); go_simp; try (with_reducible rfl))
          (try dsimp only [Act.put]); try simp only [Act.put, List.setIfInBounds_toArray, List.set_cons_zero, List.set_cons_succ]
          refine takeD (i := 18) (some 35) (v := ?_) rfl rfl (by kernel_rfl) (by kernel_rfl) (by kernel_rfl) (fun _ _ _ h => h) (Or.inl ⟨by kernel_rfl, ?_⟩) (by assumption) ?_
          rotate_left
          · (intro w hSw; (try dsimp only at hSw); have hQa0 := (hSw.1.cell 0).trans (show _ = some (Value.string mp1) from rfl); have hQa1 := (hSw.1.cell 1).trans (show _ = some (Value.bool ex1) from rfl); have hQa2 := (hSw.1.cell 2).trans (show _ = some (Value.slice sa1 sn1 sc1) from rfl); have hQb0 := (hSw.2.1.cell 0).trans (show _ = some (Value.string mp2) from rfl); have hQb1 := (hSw.2.1.cell 1).trans (show _ = some (Value.bool ex2) from rfl); have hQb2 := (hSw.2.1.cell 2).trans (show _ = some (Value.slice sa2 sn2 sc2) from rfl); have hQc0 := (hSw.2.2.cell 0).trans (show _ = some (Value.string mp1) from rfl); have hQc1 := (hSw.2.2.cell 1).trans (show _ = some (Value.bool ex3) from rfl); have hQc2 := (hSw.2.2.cell 2).trans (show _ = some (Value.slice sa1 sn1 sc1) from rfl); go_simp; try (with_reducible rfl))
          (try dsimp only [Act.put]); try simp only [Act.put, List.setIfInBounds_toArray, List.set_cons_zero, List.set_cons_succ]
          refine takeD (i := 20) (some 37) (v := ?_) rfl rfl (by kernel_rfl) (by kernel_rfl) (by kernel_rfl) (fun _ _ _ h => h) (Or.inl ⟨by kernel_rfl, ?_⟩) (by assumption) ?_
          rotate_left
          · (intro w hSw; (try dsimp only at hSw); have hQa0 := (hSw.1.cell 0).trans (show _ = some (Value.string mp1) from rfl); have hQa1 := (hSw.1.cell 1).trans (show _ = some (Value.bool ex1) from rfl); have hQa2 := (hSw.1.cell 2).trans (show _ = some (Value.slice sa1 sn1 sc1) from rfl); have hQb0 := (hSw.2.1.cell 0).trans (show _ = some (Value.string mp2) from rfl); have hQb1 := (hSw.2.1.cell 1).trans (show _ = some (Value.bool ex2) from rfl); have hQb2 := (hSw.2.1.cell 2).trans (show _ = some (Value.slice sa2 sn2 sc2) from rfl); have hQc0 := (hSw.2.2.cell 0).trans (show _ = some (Value.string mp1) from rfl); have hQc1 := (hSw.2.2.cell 1).trans (show _ = some (Value.bool ex3) from rfl); have hQc2 := (hSw.2.2.cell 2).trans (show _ = some (Value.slice sa1 sn1 sc1) from rfl); go_simp; try (with_reducible rfl))
          (try dsimp only [Act.put]); try simp only [Act.put, List.setIfInBounds_toArray, List.set_cons_zero, List.set_cons_succ]
          refine takeD (i := 21) (some 38) (v := ?_) rfl rfl (by kernel_rfl) (by kernel_rfl) (by kernel_rfl) (fun _ _ _ h => h) (Or.inl ⟨by kernel_rfl, ?_⟩) (by assumption) ?_
          rotate_left
          · (intro w hSw; (try dsimp only at hSw); have hQa0 := (hSw.1.cell 0).trans (show _ = some (Value.string mp1) from rfl); have hQa1 := (hSw.1.cell 1).trans (show _ = some (Value.bool ex1) from rfl); have hQa2 := (hSw.1.cell 2).trans (show _ = some (Value.slice sa1 sn1 sc1) from rfl); have hQb0 := (hSw.2.1.cell 0).trans (show _ = some (Value.string mp2) from rfl); have hQb1 := (hSw.2.1.cell 1).trans (show _ = some (Value.bool ex2) from rfl); have hQb2 := (hSw.2.1.cell 2).trans (show _ = some (Value.slice sa2 sn2 sc2) from rfl); have hQc0 := (hSw.2.2.cell 0).trans (show _ = some (Value.string mp1) from rfl); have hQc1 := (hSw.2.2.cell 1).trans (show _ = some (Value.bool ex3) from rfl); have hQc2 := (hSw.2.2.cell 2).trans (show _ = some (Value.slice sa1 sn1 sc1) from rfl); go_simp; try (with_reducible rfl))
          (try dsimp only [Act.put]); try simp only [Act.put, List.setIfInBounds_toArray, List.set_cons_zero, List.set_cons_succ]
          refine wpAnyH_ready (rs := [19]) (by kernel_rfl) (by simp) ?_
          refine AllReadyH.cons rfl (fun K hK => ?_) ?_
          · go_simp
            refine (Hc2.out _).mono ?_
            rintro e y4 ⟨rfl, hg4⟩
            have HQ4 := Lib.hid ((HQ3.out).trans hg4)
            go_wp2_with fail
            refine hK.out _ _ ?_ (fun hHeld => ?_)
            · refine ⟨?_, ?_, ?_⟩ <;> (repeat (first | assumption | ((with_reducible refine blk_new _ _ _ ?_); (first | (with_reducible rfl) | (simp; done))) | (with_reducible refine Blk.drew ?_) | (with_reducible refine Blk.alloc ?_ _) | (with_reducible refine Blk.frm ?_ (by assumption) (fun h => h))))
            clear hK K
            (try dsimp only [Act.put]); try simp only [Act.put, List.setIfInBounds_toArray, List.set_cons_zero, List.set_cons_succ]
            refine wpAnyH_ready (rs := [22]) (by kernel_rfl) (by simp) ?_
            refine AllReadyH.cons rfl (fun K hK => ?_) ?_
            · go_simp
              refine (Hr2.out _).mono ?_
              rintro e y5 ⟨rfl, hg5⟩
              have HQ5 := Lib.hid ((HQ4.out).trans hg5)
              go_wp2_with fail
              refine hK.out _ _ ?_ (fun hHeld => ?_)
              · refine ⟨?_, ?_, ?_⟩ <;> (repeat (first | assumption | ((with_reducible refine blk_new _ _ _ ?_); (first | (with_reducible rfl) | (simp; done))) | (with_reducible refine Blk.drew ?_) | (with_reducible refine Blk.alloc ?_ _) | (with_reducible refine Blk.frm ?_ (by assumption) (fun h => h))))
              clear hK K
              (try dsimp only [Act.put]); try simp only [Act.put, List.setIfInBounds_toArray, List.set_cons_zero, List.set_cons_succ]
              refine takeD (i := 23) (some 40) (v := ?_) rfl rfl (by kernel_rfl) (by kernel_rfl) (by kernel_rfl) (fun _ _ _ h => h) (Or.inl ⟨by kernel_rfl, ?_⟩) (by assumption) ?_
              rotate_left
              · (intro w hSw; (try dsimp only at hSw); have hQa0 := (hSw.1.cell 0).trans (show _ = some (Value.string mp1) from rfl); have hQa1 := (hSw.1.cell 1).trans (show _ = some (Value.bool ex1) from rfl); have hQa2 := (hSw.1.cell 2).trans (show _ = some (Value.slice sa1 sn1 sc1) from rfl); have hQb0 := (hSw.2.1.cell 0).trans (show _ = some (Value.string mp2) from rfl); have hQb1 := (hSw.2.1.cell 1).trans (show _ = some (Value.bool ex2) from rfl); have hQb2 := (hSw.2.1.cell 2).trans (show _ = some (Value.slice sa2 sn2 sc2) from rfl); have hQc0 := (hSw.2.2.cell 0).trans (show _ = some (Value.string mp1) from rfl); have hQc1 := (hSw.2.2.cell 1).trans (show _ = some (Value.bool ex3) from rfl); have hQc2 := (hSw.2.2.cell 2).trans (show _ = some (Value.slice sa1 sn1 sc1) from rfl); go_simp; try (with_reducible rfl))
              (try dsimp only [Act.put]); try simp only [Act.put, List.setIfInBounds_toArray, List.set_cons_zero, List.set_cons_succ]
              refine takeD (i := 24) (some 41) (v := ?_) rfl rfl (by kernel_rfl) (by kernel_rfl) (by kernel_rfl) (fun _ _ _ h => h) (Or.inl ⟨by kernel_rfl, ?_⟩) (by assumption) ?_
              rotate_left
              · (intro w hSw; (try dsimp only at hSw); have hQa0 := (hSw.1.cell 0).trans (show _ = some (Value.string mp1) from rfl); have hQa1 := (hSw.1.cell 1).trans (show _ = some (Value.bool ex1) from rfl); have hQa2 := (hSw.1.cell 2).trans (show _ = some (Value.slice sa1 sn1 sc1) from rfl); have hQb0 := (hSw.2.1.cell 0).trans (show _ = some (Value.string mp2) from rfl); have hQb1 := (hSw.2.1.cell 1).trans (show _ = some (Value.bool ex2) from rfl); have hQb2 := (hSw.2.1.cell 2).trans (show _ = some (Value.slice sa2 sn2 sc2) from rfl); have hQc0 := (hSw.2.2.cell 0).trans (show _ = some (Value.string mp1) from rfl); have hQc1 := (hSw.2.2.cell 1).trans (show _ = some (Value.bool ex3) from rfl); have hQc2 := (hSw.2.2.cell 2).trans (show _ = some (Value.slice sa1 sn1 sc1) from rfl); go_simp; try (with_reducible rfl))
              (try dsimp only [Act.put]); try simp only [Act.put, List.setIfInBounds_toArray, List.set_cons_zero, List.set_cons_succ]
              refine takeD (i := 25) (some 42) (v := ?_) rfl rfl (by kernel_rfl) (by kernel_rfl) (by kernel_rfl) (fun _ _ _ h => h) (Or.inl ⟨by kernel_rfl, ?_⟩) (by assumption) ?_
              rotate_left
              · (intro w hSw; (try dsimp only at hSw); have hQa0 := (hSw.1.cell 0).trans (show _ = some (Value.string mp1) from rfl); have hQa1 := (hSw.1.cell 1).trans (show _ = some (Value.bool ex1) from rfl); have hQa2 := (hSw.1.cell 2).trans (show _ = some (Value.slice sa1 sn1 sc1) from rfl); have hQb0 := (hSw.2.1.cell 0).trans (show _ = some (Value.string mp2) from rfl); have hQb1 := (hSw.2.1.cell 1).trans (show _ = some (Value.bool ex2) from rfl); have hQb2 := (hSw.2.1.cell 2).trans (show _ = some (Value.slice sa2 sn2 sc2) from rfl); have hQc0 := (hSw.2.2.cell 0).trans (show _ = some (Value.string mp1) from rfl); have hQc1 := (hSw.2.2.cell 1).trans (show _ = some (Value.bool ex3) from rfl); have hQc2 := (hSw.2.2.cell 2).trans (show _ = some (Value.slice sa1 sn1 sc1) from rfl); go_simp; try (with_reducible rfl))
              (try dsimp only [Act.put]); try simp only [Act.put, List.setIfInBounds_toArray, List.set_cons_zero, List.set_cons_succ]
              refine wpAnyH_ready (rs := [26]) (by kernel_rfl) (by simp) ?_
              refine AllReadyH.cons rfl (fun K hK => ?_) ?_
              · go_simp
                refine (mlives_any _ (Hm4.out.keep HQ5.out)).mono ?_
                rintro e y6 ⟨rfl, hg6⟩
                have HQ6 := Lib.hid (HQ5.out.trans hg6)
                go_wp2_with fail
                refine hK.out _ _ ?_ (fun hHeld => ?_)
                · refine ⟨?_, ?_, ?_⟩ <;> (repeat (first | assumption | ((with_reducible refine blk_new _ _ _ ?_); (first | (with_reducible rfl) | (simp; done))) | (with_reducible refine Blk.drew ?_) | (with_reducible refine Blk.alloc ?_ _) | (with_reducible refine Blk.frm ?_ (by assumption) (fun h => h))))
                clear hK K
                (try dsimp only [Act.put]); try simp only [Act.put, List.setIfInBounds_toArray, List.set_cons_zero, List.set_cons_succ]
                refine takeD (i := 27) (some 44) (v := ?_) rfl rfl (by kernel_rfl) (by kernel_rfl) (by kernel_rfl) (fun _ _ _ h => h) (Or.inl ⟨by kernel_rfl, ?_⟩) (by assumption) ?_
                rotate_left
                · (intro w hSw; (try dsimp only at hSw); have hQa0 := (hSw.1.cell 0).trans (show _ = some (Value.string mp1) from rfl); have hQa1 := (hSw.1.cell 1).trans (show _ = some (Value.bool ex1) from rfl); have hQa2 := (hSw.1.cell 2).trans (show _ = some (Value.slice sa1 sn1 sc1) from rfl); have hQb0 := (hSw.2.1.cell 0).trans (show _ = some (Value.string mp2) from rfl); have hQb1 := (hSw.2.1.cell 1).trans (show _ = some (Value.bool ex2) from rfl); have hQb2 := (hSw.2.1.cell 2).trans (show _ = some (Value.slice sa2 sn2 sc2) from rfl); have hQc0 := (hSw.2.2.cell 0).trans (show _ = some (Value.string mp1) from rfl); have hQc1 := (hSw.2.2.cell 1).trans (show _ = some (Value.bool ex3) from rfl); have hQc2 := (hSw.2.2.cell 2).trans (show _ = some (Value.slice sa1 sn1 sc1) from rfl); go_simp; try (with_reducible rfl))
                (try dsimp only [Act.put]); try simp only [Act.put, List.setIfInBounds_toArray, List.set_cons_zero, List.set_cons_succ]
                refine takeD (i := 28) (some 4) (v := ?_) rfl rfl (by kernel_rfl) (by kernel_rfl) (by kernel_rfl) (fun _ _ _ h => h) (Or.inl ⟨by kernel_rfl, ?_⟩) (by assumption) ?_
                rotate_left
                · (intro w hSw; (try dsimp only at hSw); have hQa0 := (hSw.1.cell 0).trans (show _ = some (Value.string mp1) from rfl); have hQa1 := (hSw.1.cell 1).trans (show _ = some (Value.bool ex1) from rfl); have hQa2 := (hSw.1.cell 2).trans (show _ = some (Value.slice sa1 sn1 sc1) from rfl); have hQb0 := (hSw.2.1.cell 0).trans (show _ = some (Value.string mp2) from rfl); have hQb1 := (hSw.2.1.cell 1).trans (show _ = some (Value.bool ex2) from rfl); have hQb2 := (hSw.2.1.cell 2).trans (show _ = some (Value.slice sa2 sn2 sc2) from rfl); have hQc0 := (hSw.2.2.cell 0).trans (show _ = some (Value.string mp1) from rfl); have hQc1 := (hSw.2.2.cell 1).trans (show _ = some (Value.bool ex3) from rfl); have hQc2 := (hSw.2.2.cell 2).trans (show _ = some (Value.slice sa1 sn1 sc1) from rfl); go_simp; try (with_reducible rfl))
                (try dsimp only [Act.put]); try simp only [Act.put, List.setIfInBounds_toArray, List.set_cons_zero, List.set_cons_succ]
                refine wpAnyH_done (by kernel_rfl) ?_ _
                refine NoPanic.normal ?_
                go_wp2_with fail
                go_ret
                exact ⟨rfl, (HF4.out.trans HQ6.out).below (Nat.le_refl _) (fun _ _ h => h)⟩
              exact AllReadyH.nil
            exact AllReadyH.nil
          exact AllReadyH.nil
        exact AllReadyH.nil
      exact AllReadyH.nil
    exact AllReadyH.nil
  exact AllReadyH.nil
end Go.Proofs.YtjehdldjfnaniaaDoor
