/- The walk of the statement MatchOrder. -/
import Derived.Test.YtjehdldjfnaniaaDoorMatchRCmp
import Derived.Test.YtjehdldjfnaniaaDoorMatchFits
import Derived.Test.YtjehdldjfnaniaaDoorMatchLives
import Derived.Test.YtjehdldjfnaniaaDoorShaped
import Derived.Test.YtjehdldjfnaniaaDoorMatchPlain
import Derived.Test.YtjehdldjfnaniaaDoorTakeD
import Derived.StillTailTactics
import Derived.Deep.RegionHeld3
import Derived.Outline
set_option linter.unusedVariables false
set_option linter.unusedSimpArgs false
namespace Go.Proofs.YtjehdldjfnaniaaDoor
open Go.RowKit

set_option maxRecDepth 100000 in
set_option maxHeartbeats 4000000 in
theorem matchOrder_walk (a0 : Option Addr) (len0 cap0 : Nat) (z0 : List Int) (a1 : Option Addr) (len1 cap1 : Nat) (z1 : List Int) (a2 : Option Addr) (len2 cap2 : Nat) (z2 : List Int) (w : World) (w0 : IsRow .i64 w a0 len0 cap0 z0) (w1 : IsRow .i64 w a1 len1 cap1 z1) (w2 : IsRow .i64 w a2 len2 cap2 z2) (hmax : MaxL w) :
    Calls Tryd.prog 4 #[.slice a0 len0 cap0, .slice a1 len1 cap1, .slice a2 len2 cap2] w fun e w' => e = .returned (.bool true) ∧ Below w.heap.size w w' := by
  obtain ⟨xs, h0⟩ := w0.list
  obtain ⟨ys, h1⟩ := w1.list
  obtain ⟨zs, h2⟩ := w2.list
  have H0 := Lib.hid h0
  have H1 := Lib.hid h1
  have H2 := Lib.hid h2
  clear h0 h1 h2
  clear w0 w1 w2
  go_enter Tryd.func4, Tryd.ntmps4
  go_wp2_with fail
  refine (match_any a0 len0 cap0 xs _ H0.out).mono ?_
  rintro e x1 ⟨hv, rfl, hh, hg⟩
  obtain ⟨sa1, sc1, hve, hre, _⟩ := hh.shape
  obtain ⟨sn1, hsn⟩ : ∃ n, n = (mHs xs).length := ⟨_, rfl⟩
  rw [← hsn] at hve
  subst hve
  have hpo1 := mMp_ok xs
  have hpl1 := mMp_len xs
  have hls1 : (mHs xs).length ≤ 3 := by unfold mHs; have := mHsU_len xs (max 1 (min xs.length 3)); omega
  generalize mMp xs = P1 at *
  generalize mEx xs = ex1 at *
  generalize mHs xs = S1 at *
  obtain ⟨mp1, hmp1⟩ : ∃ m, m = bs (pathOf P1) := ⟨_, rfl⟩
  rw [← hmp1]
  have HG1 := Lib.hid (hg.alloc (.cells #[.string mp1, .bool ex1, .slice sa1 sn1 sc1] 25))
  have HB1 := Lib.hid (Blk.made x1 #[.string mp1, .bool ex1, .slice sa1 sn1 sc1] 25)
  have HH1 := Lib.hid (hh.keep ((Frm.refl noB x1).alloc (.cells #[.string mp1, .bool ex1, .slice sa1 sn1 sc1] 25)))
  have Hsn1 := Lib.hid hsn
  clear hsn hh hg hre
  have Hpo1 := Lib.hid hpo1
  have Hpl1 := Lib.hid hpl1
  have Hmp1 := Lib.hid hmp1
  have Hls1 := Lib.hid hls1
  clear hpo1 hpl1 hmp1 hls1
  have HF1 := Lib.hid (HG1.out)
  go_upto_region 2 with (refine wpl_store_new _ (by rfl) 25 _ _ (by rfl) _ (by rfl) (by first | rfl | simp) _ _ _ (by rfl) (by exact info_match) (by rfl) (by kernel_rfl) ?_)
  generalize x1.alloc (.cells #[.string mp1, .bool ex1, .slice sa1 sn1 sc1] 25) = W1 at *
  go_wp2_with fail
  refine (match_any a1 len1 cap1 ys _ (H1.out.keep HF1.out)).mono ?_
  rintro e x2 ⟨hv, rfl, hh, hg⟩
  obtain ⟨sa2, sc2, hve, hre, _⟩ := hh.shape
  obtain ⟨sn2, hsn⟩ : ∃ n, n = (mHs ys).length := ⟨_, rfl⟩
  rw [← hsn] at hve
  subst hve
  have hpo2 := mMp_ok ys
  have hpl2 := mMp_len ys
  have hls2 : (mHs ys).length ≤ 3 := by unfold mHs; have := mHsU_len ys (max 1 (min ys.length 3)); omega
  generalize mMp ys = P2 at *
  generalize mEx ys = ex2 at *
  generalize mHs ys = S2 at *
  obtain ⟨mp2, hmp2⟩ : ∃ m, m = bs (pathOf P2) := ⟨_, rfl⟩
  rw [← hmp2]
  have HG2 := Lib.hid (hg.alloc (.cells #[.string mp2, .bool ex2, .slice sa2 sn2 sc2] 25))
  have HB2 := Lib.hid (Blk.made x2 #[.string mp2, .bool ex2, .slice sa2 sn2 sc2] 25)
  have HH2 := Lib.hid (hh.keep ((Frm.refl noB x2).alloc (.cells #[.string mp2, .bool ex2, .slice sa2 sn2 sc2] 25)))
  have Hsn2 := Lib.hid hsn
  clear hsn hh hg hre
  have Hpo2 := Lib.hid hpo2
  have Hpl2 := Lib.hid hpl2
  have Hmp2 := Lib.hid hmp2
  have Hls2 := Lib.hid hls2
  clear hpo2 hpl2 hmp2 hls2
  have HF2 := Lib.hid (HF1.out.trans HG2.out)
  have HB1 := Lib.hid (HB1.out.frm HG2.out (fun h => h))
  have HH1 := Lib.hid (HH1.out.keep HG2.out)
  go_upto_region 3 with (refine wpl_store_new _ (by rfl) 25 _ _ (by rfl) _ (by rfl) (by first | rfl | simp) _ _ _ (by rfl) (by exact info_match) (by rfl) (by kernel_rfl) ?_)
  generalize x2.alloc (.cells #[.string mp2, .bool ex2, .slice sa2 sn2 sc2] 25) = W2 at *
  go_wp2_with fail
  refine (match_any a2 len2 cap2 zs _ (H2.out.keep HF2.out)).mono ?_
  rintro e x3 ⟨hv, rfl, hh, hg⟩
  obtain ⟨sa3, sc3, hve, hre, _⟩ := hh.shape
  obtain ⟨sn3, hsn⟩ : ∃ n, n = (mHs zs).length := ⟨_, rfl⟩
  rw [← hsn] at hve
  subst hve
  have hpo3 := mMp_ok zs
  have hpl3 := mMp_len zs
  have hls3 : (mHs zs).length ≤ 3 := by unfold mHs; have := mHsU_len zs (max 1 (min zs.length 3)); omega
  generalize mMp zs = P3 at *
  generalize mEx zs = ex3 at *
  generalize mHs zs = S3 at *
  obtain ⟨mp3, hmp3⟩ : ∃ m, m = bs (pathOf P3) := ⟨_, rfl⟩
  rw [← hmp3]
  have HG3 := Lib.hid (hg.alloc (.cells #[.string mp3, .bool ex3, .slice sa3 sn3 sc3] 25))
  have HB3 := Lib.hid (Blk.made x3 #[.string mp3, .bool ex3, .slice sa3 sn3 sc3] 25)
  have HH3 := Lib.hid (hh.keep ((Frm.refl noB x3).alloc (.cells #[.string mp3, .bool ex3, .slice sa3 sn3 sc3] 25)))
  have Hsn3 := Lib.hid hsn
  clear hsn hh hg hre
  have Hpo3 := Lib.hid hpo3
  have Hpl3 := Lib.hid hpl3
  have Hmp3 := Lib.hid hmp3
  have Hls3 := Lib.hid hls3
  clear hpo3 hpl3 hmp3 hls3
  have HF3 := Lib.hid (HF2.out.trans HG3.out)
  have HB1 := Lib.hid (HB1.out.frm HG3.out (fun h => h))
  have HH1 := Lib.hid (HH1.out.keep HG3.out)
  have HB2 := Lib.hid (HB2.out.frm HG3.out (fun h => h))
  have HH2 := Lib.hid (HH2.out.keep HG3.out)
  go_upto_region 4 with (refine wpl_store_new _ (by rfl) 25 _ _ (by rfl) _ (by rfl) (by first | rfl | simp) _ _ _ (by rfl) (by exact info_match) (by rfl) (by kernel_rfl) ?_)
  generalize x3.alloc (.cells #[.string mp3, .bool ex3, .slice sa3 sn3 sc3] 25) = W3 at *
  have HM3 := Lib.hid (hmax.keep HF3.out)
  have c0 := fun w => cmp_any mp1 ex1 sa1 sn1 sc1 mp2 ex2 sa2 sn2 sc2 w
  have c1 := fun w => cmp_any mp2 ex2 sa2 sn2 sc2 mp3 ex3 sa3 sn3 sc3 w
  have c2 := fun w => cmp_any mp1 ex1 sa1 sn1 sc1 mp3 ex3 sa3 sn3 sc3 w
  have c3 := fun w => cmp_any mp2 ex2 sa2 sn2 sc2 mp1 ex1 sa1 sn1 sc1 w
  have c4 := fun w => cmp_any mp1 ex1 sa1 sn1 sc1 mp1 ex1 sa1 sn1 sc1 w
  have hord := cmpR_order (rk0 ex1) (rk1 mp1) sn1 (rk0 ex2) (rk1 mp2) sn2 (rk0 ex3) (rk1 mp3) sn3 _ _ _ rfl rfl rfl
  have hb1 := cmpR_bd (rk0 ex2) (rk1 mp2) sn2 (rk0 ex3) (rk1 mp3) sn3
  have hb2 := cmpR_bd (rk0 ex1) (rk1 mp1) sn1 (rk0 ex3) (rk1 mp3) sn3
  rw [cmpR_neg (rk0 ex1) (rk1 mp1) sn1 (rk0 ex2) (rk1 mp2) sn2] at c3
  rw [cmpR_self] at c4
  generalize cmpR (rk0 ex1) (rk1 mp1) sn1 (rk0 ex2) (rk1 mp2) sn2 = V0 at *
  generalize cmpR (rk0 ex2) (rk1 mp2) sn2 (rk0 ex3) (rk1 mp3) sn3 = V1 at *
  generalize cmpR (rk0 ex1) (rk1 mp1) sn1 (rk0 ex3) (rk1 mp3) sn3 = V2 at *
  have hcs : (V0 = -1 ∧ V1 = -1 ∧ V2 = -1) ∨ (V0 = -1 ∧ V1 = 0 ∧ V2 = -1) ∨ (V0 = -1 ∧ V1 = 1) ∨ (V0 = 0 ∧ V1 = -1 ∧ V2 = -1) ∨ (V0 = 0 ∧ V1 = 0 ∧ V2 = 0) ∨ (V0 = 0 ∧ V1 = 1 ∧ V2 = 1) ∨ V0 = 1 := hord
  have hv1 : V1 = -1 ∨ V1 = 0 ∨ V1 = 1 := by omega
  have hv2 : V2 = -1 ∨ V2 = 0 ∨ V2 = 1 := by omega
  clear hord hb1 hb2
  have Hc0 := Lib.hid c0
  have Hc1 := Lib.hid c1
  have Hc2 := Lib.hid c2
  have Hc3 := Lib.hid c3
  have Hc4 := Lib.hid c4
  have Hcs := Lib.hid hcs
  have Hv1 := Lib.hid hv1
  have Hv2 := Lib.hid hv2
  clear c0 c1 c2 c3 c4 hcs hv1 hv2
  have b1 := HB1.out
  have b2 := HB2.out
  go_wp2_with (first | (refine wpl_load_blk (by rfl) 25 _ (by rfl) _ (by rfl) _ _ (by exact b1) _ Tryd.underlying25 (by rfl) (by exact info_match) ?_) | (refine wpl_load_blk (by rfl) 25 _ (by rfl) _ (by rfl) _ _ (by exact b2) _ Tryd.underlying25 (by rfl) (by exact info_match) ?_))
  refine (Hc0.out _).mono ?_
  rintro e za0 ⟨rfl, hg⟩
  clear b1 b2
  have HDa0_1 := Lib.hid (HB1.out.frm hg (fun h => h))
  have HDa0_2 := Lib.hid (HB2.out.frm hg (fun h => h))
  have HDa0_3 := Lib.hid (HB3.out.frm hg (fun h => h))
  have HFa0 := Lib.hid (HF3.out.trans hg)
  have HMa0 := Lib.hid (HM3.out.keep hg)
  clear hg
  have b2 := HDa0_2.out
  have b3 := HDa0_3.out
  go_wp2_with (first | (refine wpl_load_blk (by rfl) 25 _ (by rfl) _ (by rfl) _ _ (by exact b2) _ Tryd.underlying25 (by rfl) (by exact info_match) ?_) | (refine wpl_load_blk (by rfl) 25 _ (by rfl) _ (by rfl) _ _ (by exact b3) _ Tryd.underlying25 (by rfl) (by exact info_match) ?_))
  refine (Hc1.out _).mono ?_
  rintro e za1 ⟨rfl, hg⟩
  clear b2 b3
  have HDa1_1 := Lib.hid (HDa0_1.out.frm hg (fun h => h))
  have HDa1_2 := Lib.hid (HDa0_2.out.frm hg (fun h => h))
  have HDa1_3 := Lib.hid (HDa0_3.out.frm hg (fun h => h))
  have HFa1 := Lib.hid (HFa0.out.trans hg)
  have HMa1 := Lib.hid (HMa0.out.keep hg)
  clear hg
  have b1 := HDa1_1.out
  have b3 := HDa1_3.out
  go_wp2_with (first | (refine wpl_load_blk (by rfl) 25 _ (by rfl) _ (by rfl) _ _ (by exact b1) _ Tryd.underlying25 (by rfl) (by exact info_match) ?_) | (refine wpl_load_blk (by rfl) 25 _ (by rfl) _ (by rfl) _ _ (by exact b3) _ Tryd.underlying25 (by rfl) (by exact info_match) ?_))
  refine (Hc2.out _).mono ?_
  rintro e za2 ⟨rfl, hg⟩
  clear b1 b3
  have HDa2_1 := Lib.hid (HDa1_1.out.frm hg (fun h => h))
  have HDa2_2 := Lib.hid (HDa1_2.out.frm hg (fun h => h))
  have HDa2_3 := Lib.hid (HDa1_3.out.frm hg (fun h => h))
  have HFa2 := Lib.hid (HFa1.out.trans hg)
  have HMa2 := Lib.hid (HMa1.out.keep hg)
  clear hg
  go_upto_region 7 with fail
  rcases Hcs.out with ⟨rfl, rfl, rfl⟩ | ⟨rfl, rfl, rfl⟩ | ⟨rfl, rfl⟩ | ⟨rfl, rfl, rfl⟩ | ⟨rfl, rfl, rfl⟩ | ⟨rfl, rfl, rfl⟩ | rfl
  · have b1 := HDa2_1.out
    have b2 := HDa2_2.out
    go_wp2_with (first | (refine wpl_load_blk (by rfl) 25 _ (by rfl) _ (by rfl) _ _ (by exact b1) _ Tryd.underlying25 (by rfl) (by exact info_match) ?_) | (refine wpl_load_blk (by rfl) 25 _ (by rfl) _ (by rfl) _ _ (by exact b2) _ Tryd.underlying25 (by rfl) (by exact info_match) ?_))
    refine (Hc3.out _).mono ?_
    rintro e zb3 ⟨rfl, hg⟩
    clear b1 b2
    have HDb3_1 := Lib.hid (HDa2_1.out.frm hg (fun h => h))
    have HDb3_2 := Lib.hid (HDa2_2.out.frm hg (fun h => h))
    have HDb3_3 := Lib.hid (HDa2_3.out.frm hg (fun h => h))
    have HFb3 := Lib.hid (HFa2.out.trans hg)
    have HMb3 := Lib.hid (HMa2.out.keep hg)
    clear hg
    have b1 := HDb3_1.out
    go_wp2_with (first | (refine wpl_load_blk (by rfl) 25 _ (by rfl) _ (by rfl) _ _ (by exact b1) _ Tryd.underlying25 (by rfl) (by exact info_match) ?_))
    refine (Hc4.out _).mono ?_
    rintro e zb4 ⟨rfl, hg⟩
    clear b1
    have HDb4_1 := Lib.hid (HDb3_1.out.frm hg (fun h => h))
    have HDb4_2 := Lib.hid (HDb3_2.out.frm hg (fun h => h))
    have HDb4_3 := Lib.hid (HDb3_3.out.frm hg (fun h => h))
    have HFb4 := Lib.hid (HFb3.out.trans hg)
    have HMb4 := Lib.hid (HMb3.out.keep hg)
    clear hg
    go_wp2_with fail
    refine (mlives_any _ HMb4.out).mono ?_
    rintro e zb5 ⟨rfl, hg⟩
    have HDb5_1 := Lib.hid (HDb4_1.out.frm hg (fun h => h))
    have HDb5_2 := Lib.hid (HDb4_2.out.frm hg (fun h => h))
    have HDb5_3 := Lib.hid (HDb4_3.out.frm hg (fun h => h))
    have HFb5 := Lib.hid (HFb4.out.trans hg)
    have HMb5 := Lib.hid (HMb4.out.keep hg)
    clear hg
    go_wp2_with fail
    go_ret
    exact ⟨rfl, HFb5.out.below (Nat.le_refl _) (fun _ _ h => h)⟩
  · have b1 := HDa2_1.out
    have b2 := HDa2_2.out
    go_wp2_with (first | (refine wpl_load_blk (by rfl) 25 _ (by rfl) _ (by rfl) _ _ (by exact b1) _ Tryd.underlying25 (by rfl) (by exact info_match) ?_) | (refine wpl_load_blk (by rfl) 25 _ (by rfl) _ (by rfl) _ _ (by exact b2) _ Tryd.underlying25 (by rfl) (by exact info_match) ?_))
    refine (Hc3.out _).mono ?_
    rintro e zb3 ⟨rfl, hg⟩
    clear b1 b2
    have HDb3_1 := Lib.hid (HDa2_1.out.frm hg (fun h => h))
    have HDb3_2 := Lib.hid (HDa2_2.out.frm hg (fun h => h))
    have HDb3_3 := Lib.hid (HDa2_3.out.frm hg (fun h => h))
    have HFb3 := Lib.hid (HFa2.out.trans hg)
    have HMb3 := Lib.hid (HMa2.out.keep hg)
    clear hg
    have b1 := HDb3_1.out
    go_wp2_with (first | (refine wpl_load_blk (by rfl) 25 _ (by rfl) _ (by rfl) _ _ (by exact b1) _ Tryd.underlying25 (by rfl) (by exact info_match) ?_))
    refine (Hc4.out _).mono ?_
    rintro e zb4 ⟨rfl, hg⟩
    clear b1
    have HDb4_1 := Lib.hid (HDb3_1.out.frm hg (fun h => h))
    have HDb4_2 := Lib.hid (HDb3_2.out.frm hg (fun h => h))
    have HDb4_3 := Lib.hid (HDb3_3.out.frm hg (fun h => h))
    have HFb4 := Lib.hid (HFb3.out.trans hg)
    have HMb4 := Lib.hid (HMb3.out.keep hg)
    clear hg
    go_wp2_with fail
    refine (mlives_any _ HMb4.out).mono ?_
    rintro e zb5 ⟨rfl, hg⟩
    have HDb5_1 := Lib.hid (HDb4_1.out.frm hg (fun h => h))
    have HDb5_2 := Lib.hid (HDb4_2.out.frm hg (fun h => h))
    have HDb5_3 := Lib.hid (HDb4_3.out.frm hg (fun h => h))
    have HFb5 := Lib.hid (HFb4.out.trans hg)
    have HMb5 := Lib.hid (HMb4.out.keep hg)
    clear hg
    go_wp2_with fail
    go_ret
    exact ⟨rfl, HFb5.out.below (Nat.le_refl _) (fun _ _ h => h)⟩
  · rcases Hv2.out with rfl | rfl | rfl
    · have b1 := HDa2_1.out
      have b2 := HDa2_2.out
      go_wp2_with (first | (refine wpl_load_blk (by rfl) 25 _ (by rfl) _ (by rfl) _ _ (by exact b1) _ Tryd.underlying25 (by rfl) (by exact info_match) ?_) | (refine wpl_load_blk (by rfl) 25 _ (by rfl) _ (by rfl) _ _ (by exact b2) _ Tryd.underlying25 (by rfl) (by exact info_match) ?_))
      refine (Hc3.out _).mono ?_
      rintro e zb3 ⟨rfl, hg⟩
      clear b1 b2
      have HDb3_1 := Lib.hid (HDa2_1.out.frm hg (fun h => h))
      have HDb3_2 := Lib.hid (HDa2_2.out.frm hg (fun h => h))
      have HDb3_3 := Lib.hid (HDa2_3.out.frm hg (fun h => h))
      have HFb3 := Lib.hid (HFa2.out.trans hg)
      have HMb3 := Lib.hid (HMa2.out.keep hg)
      clear hg
      have b1 := HDb3_1.out
      go_wp2_with (first | (refine wpl_load_blk (by rfl) 25 _ (by rfl) _ (by rfl) _ _ (by exact b1) _ Tryd.underlying25 (by rfl) (by exact info_match) ?_))
      refine (Hc4.out _).mono ?_
      rintro e zb4 ⟨rfl, hg⟩
      clear b1
      have HDb4_1 := Lib.hid (HDb3_1.out.frm hg (fun h => h))
      have HDb4_2 := Lib.hid (HDb3_2.out.frm hg (fun h => h))
      have HDb4_3 := Lib.hid (HDb3_3.out.frm hg (fun h => h))
      have HFb4 := Lib.hid (HFb3.out.trans hg)
      have HMb4 := Lib.hid (HMb3.out.keep hg)
      clear hg
      go_wp2_with fail
      refine (mlives_any _ HMb4.out).mono ?_
      rintro e zb5 ⟨rfl, hg⟩
      have HDb5_1 := Lib.hid (HDb4_1.out.frm hg (fun h => h))
      have HDb5_2 := Lib.hid (HDb4_2.out.frm hg (fun h => h))
      have HDb5_3 := Lib.hid (HDb4_3.out.frm hg (fun h => h))
      have HFb5 := Lib.hid (HFb4.out.trans hg)
      have HMb5 := Lib.hid (HMb4.out.keep hg)
      clear hg
      go_wp2_with fail
      go_ret
      exact ⟨rfl, HFb5.out.below (Nat.le_refl _) (fun _ _ h => h)⟩
    · have b1 := HDa2_1.out
      have b2 := HDa2_2.out
      go_wp2_with (first | (refine wpl_load_blk (by rfl) 25 _ (by rfl) _ (by rfl) _ _ (by exact b1) _ Tryd.underlying25 (by rfl) (by exact info_match) ?_) | (refine wpl_load_blk (by rfl) 25 _ (by rfl) _ (by rfl) _ _ (by exact b2) _ Tryd.underlying25 (by rfl) (by exact info_match) ?_))
      refine (Hc3.out _).mono ?_
      rintro e zb3 ⟨rfl, hg⟩
      clear b1 b2
      have HDb3_1 := Lib.hid (HDa2_1.out.frm hg (fun h => h))
      have HDb3_2 := Lib.hid (HDa2_2.out.frm hg (fun h => h))
      have HDb3_3 := Lib.hid (HDa2_3.out.frm hg (fun h => h))
      have HFb3 := Lib.hid (HFa2.out.trans hg)
      have HMb3 := Lib.hid (HMa2.out.keep hg)
      clear hg
      have b1 := HDb3_1.out
      go_wp2_with (first | (refine wpl_load_blk (by rfl) 25 _ (by rfl) _ (by rfl) _ _ (by exact b1) _ Tryd.underlying25 (by rfl) (by exact info_match) ?_))
      refine (Hc4.out _).mono ?_
      rintro e zb4 ⟨rfl, hg⟩
      clear b1
      have HDb4_1 := Lib.hid (HDb3_1.out.frm hg (fun h => h))
      have HDb4_2 := Lib.hid (HDb3_2.out.frm hg (fun h => h))
      have HDb4_3 := Lib.hid (HDb3_3.out.frm hg (fun h => h))
      have HFb4 := Lib.hid (HFb3.out.trans hg)
      have HMb4 := Lib.hid (HMb3.out.keep hg)
      clear hg
      go_wp2_with fail
      refine (mlives_any _ HMb4.out).mono ?_
      rintro e zb5 ⟨rfl, hg⟩
      have HDb5_1 := Lib.hid (HDb4_1.out.frm hg (fun h => h))
      have HDb5_2 := Lib.hid (HDb4_2.out.frm hg (fun h => h))
      have HDb5_3 := Lib.hid (HDb4_3.out.frm hg (fun h => h))
      have HFb5 := Lib.hid (HFb4.out.trans hg)
      have HMb5 := Lib.hid (HMb4.out.keep hg)
      clear hg
      go_wp2_with fail
      go_ret
      exact ⟨rfl, HFb5.out.below (Nat.le_refl _) (fun _ _ h => h)⟩
    · have b1 := HDa2_1.out
      have b2 := HDa2_2.out
      go_wp2_with (first | (refine wpl_load_blk (by rfl) 25 _ (by rfl) _ (by rfl) _ _ (by exact b1) _ Tryd.underlying25 (by rfl) (by exact info_match) ?_) | (refine wpl_load_blk (by rfl) 25 _ (by rfl) _ (by rfl) _ _ (by exact b2) _ Tryd.underlying25 (by rfl) (by exact info_match) ?_))
      refine (Hc3.out _).mono ?_
      rintro e zb3 ⟨rfl, hg⟩
      clear b1 b2
      have HDb3_1 := Lib.hid (HDa2_1.out.frm hg (fun h => h))
      have HDb3_2 := Lib.hid (HDa2_2.out.frm hg (fun h => h))
      have HDb3_3 := Lib.hid (HDa2_3.out.frm hg (fun h => h))
      have HFb3 := Lib.hid (HFa2.out.trans hg)
      have HMb3 := Lib.hid (HMa2.out.keep hg)
      clear hg
      have b1 := HDb3_1.out
      go_wp2_with (first | (refine wpl_load_blk (by rfl) 25 _ (by rfl) _ (by rfl) _ _ (by exact b1) _ Tryd.underlying25 (by rfl) (by exact info_match) ?_))
      refine (Hc4.out _).mono ?_
      rintro e zb4 ⟨rfl, hg⟩
      clear b1
      have HDb4_1 := Lib.hid (HDb3_1.out.frm hg (fun h => h))
      have HDb4_2 := Lib.hid (HDb3_2.out.frm hg (fun h => h))
      have HDb4_3 := Lib.hid (HDb3_3.out.frm hg (fun h => h))
      have HFb4 := Lib.hid (HFb3.out.trans hg)
      have HMb4 := Lib.hid (HMb3.out.keep hg)
      clear hg
      go_wp2_with fail
      refine (mlives_any _ HMb4.out).mono ?_
      rintro e zb5 ⟨rfl, hg⟩
      have HDb5_1 := Lib.hid (HDb4_1.out.frm hg (fun h => h))
      have HDb5_2 := Lib.hid (HDb4_2.out.frm hg (fun h => h))
      have HDb5_3 := Lib.hid (HDb4_3.out.frm hg (fun h => h))
      have HFb5 := Lib.hid (HFb4.out.trans hg)
      have HMb5 := Lib.hid (HMb4.out.keep hg)
      clear hg
      go_wp2_with fail
      go_ret
      exact ⟨rfl, HFb5.out.below (Nat.le_refl _) (fun _ _ h => h)⟩
  · have b1 := HDa2_1.out
    have b2 := HDa2_2.out
    go_wp2_with (first | (refine wpl_load_blk (by rfl) 25 _ (by rfl) _ (by rfl) _ _ (by exact b1) _ Tryd.underlying25 (by rfl) (by exact info_match) ?_) | (refine wpl_load_blk (by rfl) 25 _ (by rfl) _ (by rfl) _ _ (by exact b2) _ Tryd.underlying25 (by rfl) (by exact info_match) ?_))
    refine (Hc3.out _).mono ?_
    rintro e zb3 ⟨rfl, hg⟩
    clear b1 b2
    have HDb3_1 := Lib.hid (HDa2_1.out.frm hg (fun h => h))
    have HDb3_2 := Lib.hid (HDa2_2.out.frm hg (fun h => h))
    have HDb3_3 := Lib.hid (HDa2_3.out.frm hg (fun h => h))
    have HFb3 := Lib.hid (HFa2.out.trans hg)
    have HMb3 := Lib.hid (HMa2.out.keep hg)
    clear hg
    have b1 := HDb3_1.out
    go_wp2_with (first | (refine wpl_load_blk (by rfl) 25 _ (by rfl) _ (by rfl) _ _ (by exact b1) _ Tryd.underlying25 (by rfl) (by exact info_match) ?_))
    refine (Hc4.out _).mono ?_
    rintro e zb4 ⟨rfl, hg⟩
    clear b1
    have HDb4_1 := Lib.hid (HDb3_1.out.frm hg (fun h => h))
    have HDb4_2 := Lib.hid (HDb3_2.out.frm hg (fun h => h))
    have HDb4_3 := Lib.hid (HDb3_3.out.frm hg (fun h => h))
    have HFb4 := Lib.hid (HFb3.out.trans hg)
    have HMb4 := Lib.hid (HMb3.out.keep hg)
    clear hg
    go_wp2_with fail
    refine (mlives_any _ HMb4.out).mono ?_
    rintro e zb5 ⟨rfl, hg⟩
    have HDb5_1 := Lib.hid (HDb4_1.out.frm hg (fun h => h))
    have HDb5_2 := Lib.hid (HDb4_2.out.frm hg (fun h => h))
    have HDb5_3 := Lib.hid (HDb4_3.out.frm hg (fun h => h))
    have HFb5 := Lib.hid (HFb4.out.trans hg)
    have HMb5 := Lib.hid (HMb4.out.keep hg)
    clear hg
    go_wp2_with fail
    go_ret
    exact ⟨rfl, HFb5.out.below (Nat.le_refl _) (fun _ _ h => h)⟩
  · have b1 := HDa2_1.out
    have b2 := HDa2_2.out
    go_wp2_with (first | (refine wpl_load_blk (by rfl) 25 _ (by rfl) _ (by rfl) _ _ (by exact b1) _ Tryd.underlying25 (by rfl) (by exact info_match) ?_) | (refine wpl_load_blk (by rfl) 25 _ (by rfl) _ (by rfl) _ _ (by exact b2) _ Tryd.underlying25 (by rfl) (by exact info_match) ?_))
    refine (Hc3.out _).mono ?_
    rintro e zb3 ⟨rfl, hg⟩
    clear b1 b2
    have HDb3_1 := Lib.hid (HDa2_1.out.frm hg (fun h => h))
    have HDb3_2 := Lib.hid (HDa2_2.out.frm hg (fun h => h))
    have HDb3_3 := Lib.hid (HDa2_3.out.frm hg (fun h => h))
    have HFb3 := Lib.hid (HFa2.out.trans hg)
    have HMb3 := Lib.hid (HMa2.out.keep hg)
    clear hg
    have b1 := HDb3_1.out
    go_wp2_with (first | (refine wpl_load_blk (by rfl) 25 _ (by rfl) _ (by rfl) _ _ (by exact b1) _ Tryd.underlying25 (by rfl) (by exact info_match) ?_))
    refine (Hc4.out _).mono ?_
    rintro e zb4 ⟨rfl, hg⟩
    clear b1
    have HDb4_1 := Lib.hid (HDb3_1.out.frm hg (fun h => h))
    have HDb4_2 := Lib.hid (HDb3_2.out.frm hg (fun h => h))
    have HDb4_3 := Lib.hid (HDb3_3.out.frm hg (fun h => h))
    have HFb4 := Lib.hid (HFb3.out.trans hg)
    have HMb4 := Lib.hid (HMb3.out.keep hg)
    clear hg
    go_wp2_with fail
    refine (mlives_any _ HMb4.out).mono ?_
    rintro e zb5 ⟨rfl, hg⟩
    have HDb5_1 := Lib.hid (HDb4_1.out.frm hg (fun h => h))
    have HDb5_2 := Lib.hid (HDb4_2.out.frm hg (fun h => h))
    have HDb5_3 := Lib.hid (HDb4_3.out.frm hg (fun h => h))
    have HFb5 := Lib.hid (HFb4.out.trans hg)
    have HMb5 := Lib.hid (HMb4.out.keep hg)
    clear hg
    go_wp2_with fail
    go_ret
    exact ⟨rfl, HFb5.out.below (Nat.le_refl _) (fun _ _ h => h)⟩
  · have b1 := HDa2_1.out
    have b2 := HDa2_2.out
    go_wp2_with (first | (refine wpl_load_blk (by rfl) 25 _ (by rfl) _ (by rfl) _ _ (by exact b1) _ Tryd.underlying25 (by rfl) (by exact info_match) ?_) | (refine wpl_load_blk (by rfl) 25 _ (by rfl) _ (by rfl) _ _ (by exact b2) _ Tryd.underlying25 (by rfl) (by exact info_match) ?_))
    refine (Hc3.out _).mono ?_
    rintro e zb3 ⟨rfl, hg⟩
    clear b1 b2
    have HDb3_1 := Lib.hid (HDa2_1.out.frm hg (fun h => h))
    have HDb3_2 := Lib.hid (HDa2_2.out.frm hg (fun h => h))
    have HDb3_3 := Lib.hid (HDa2_3.out.frm hg (fun h => h))
    have HFb3 := Lib.hid (HFa2.out.trans hg)
    have HMb3 := Lib.hid (HMa2.out.keep hg)
    clear hg
    have b1 := HDb3_1.out
    go_wp2_with (first | (refine wpl_load_blk (by rfl) 25 _ (by rfl) _ (by rfl) _ _ (by exact b1) _ Tryd.underlying25 (by rfl) (by exact info_match) ?_))
    refine (Hc4.out _).mono ?_
    rintro e zb4 ⟨rfl, hg⟩
    clear b1
    have HDb4_1 := Lib.hid (HDb3_1.out.frm hg (fun h => h))
    have HDb4_2 := Lib.hid (HDb3_2.out.frm hg (fun h => h))
    have HDb4_3 := Lib.hid (HDb3_3.out.frm hg (fun h => h))
    have HFb4 := Lib.hid (HFb3.out.trans hg)
    have HMb4 := Lib.hid (HMb3.out.keep hg)
    clear hg
    go_wp2_with fail
    refine (mlives_any _ HMb4.out).mono ?_
    rintro e zb5 ⟨rfl, hg⟩
    have HDb5_1 := Lib.hid (HDb4_1.out.frm hg (fun h => h))
    have HDb5_2 := Lib.hid (HDb4_2.out.frm hg (fun h => h))
    have HDb5_3 := Lib.hid (HDb4_3.out.frm hg (fun h => h))
    have HFb5 := Lib.hid (HFb4.out.trans hg)
    have HMb5 := Lib.hid (HMb4.out.keep hg)
    clear hg
    go_wp2_with fail
    go_ret
    exact ⟨rfl, HFb5.out.below (Nat.le_refl _) (fun _ _ h => h)⟩
  · rcases Hv1.out with rfl | rfl | rfl
    · rcases Hv2.out with rfl | rfl | rfl
      · have b1 := HDa2_1.out
        have b2 := HDa2_2.out
        go_wp2_with (first | (refine wpl_load_blk (by rfl) 25 _ (by rfl) _ (by rfl) _ _ (by exact b1) _ Tryd.underlying25 (by rfl) (by exact info_match) ?_) | (refine wpl_load_blk (by rfl) 25 _ (by rfl) _ (by rfl) _ _ (by exact b2) _ Tryd.underlying25 (by rfl) (by exact info_match) ?_))
        refine (Hc3.out _).mono ?_
        rintro e zb3 ⟨rfl, hg⟩
        clear b1 b2
        have HDb3_1 := Lib.hid (HDa2_1.out.frm hg (fun h => h))
        have HDb3_2 := Lib.hid (HDa2_2.out.frm hg (fun h => h))
        have HDb3_3 := Lib.hid (HDa2_3.out.frm hg (fun h => h))
        have HFb3 := Lib.hid (HFa2.out.trans hg)
        have HMb3 := Lib.hid (HMa2.out.keep hg)
        clear hg
        have b1 := HDb3_1.out
        go_wp2_with (first | (refine wpl_load_blk (by rfl) 25 _ (by rfl) _ (by rfl) _ _ (by exact b1) _ Tryd.underlying25 (by rfl) (by exact info_match) ?_))
        refine (Hc4.out _).mono ?_
        rintro e zb4 ⟨rfl, hg⟩
        clear b1
        have HDb4_1 := Lib.hid (HDb3_1.out.frm hg (fun h => h))
        have HDb4_2 := Lib.hid (HDb3_2.out.frm hg (fun h => h))
        have HDb4_3 := Lib.hid (HDb3_3.out.frm hg (fun h => h))
        have HFb4 := Lib.hid (HFb3.out.trans hg)
        have HMb4 := Lib.hid (HMb3.out.keep hg)
        clear hg
        go_wp2_with fail
        refine (mlives_any _ HMb4.out).mono ?_
        rintro e zb5 ⟨rfl, hg⟩
        have HDb5_1 := Lib.hid (HDb4_1.out.frm hg (fun h => h))
        have HDb5_2 := Lib.hid (HDb4_2.out.frm hg (fun h => h))
        have HDb5_3 := Lib.hid (HDb4_3.out.frm hg (fun h => h))
        have HFb5 := Lib.hid (HFb4.out.trans hg)
        have HMb5 := Lib.hid (HMb4.out.keep hg)
        clear hg
        go_wp2_with fail
        go_ret
        exact ⟨rfl, HFb5.out.below (Nat.le_refl _) (fun _ _ h => h)⟩
      · have b1 := HDa2_1.out
        have b2 := HDa2_2.out
        go_wp2_with (first | (refine wpl_load_blk (by rfl) 25 _ (by rfl) _ (by rfl) _ _ (by exact b1) _ Tryd.underlying25 (by rfl) (by exact info_match) ?_) | (refine wpl_load_blk (by rfl) 25 _ (by rfl) _ (by rfl) _ _ (by exact b2) _ Tryd.underlying25 (by rfl) (by exact info_match) ?_))
        refine (Hc3.out _).mono ?_
        rintro e zb3 ⟨rfl, hg⟩
        clear b1 b2
        have HDb3_1 := Lib.hid (HDa2_1.out.frm hg (fun h => h))
        have HDb3_2 := Lib.hid (HDa2_2.out.frm hg (fun h => h))
        have HDb3_3 := Lib.hid (HDa2_3.out.frm hg (fun h => h))
        have HFb3 := Lib.hid (HFa2.out.trans hg)
        have HMb3 := Lib.hid (HMa2.out.keep hg)
        clear hg
        have b1 := HDb3_1.out
        go_wp2_with (first | (refine wpl_load_blk (by rfl) 25 _ (by rfl) _ (by rfl) _ _ (by exact b1) _ Tryd.underlying25 (by rfl) (by exact info_match) ?_))
        refine (Hc4.out _).mono ?_
        rintro e zb4 ⟨rfl, hg⟩
        clear b1
        have HDb4_1 := Lib.hid (HDb3_1.out.frm hg (fun h => h))
        have HDb4_2 := Lib.hid (HDb3_2.out.frm hg (fun h => h))
        have HDb4_3 := Lib.hid (HDb3_3.out.frm hg (fun h => h))
        have HFb4 := Lib.hid (HFb3.out.trans hg)
        have HMb4 := Lib.hid (HMb3.out.keep hg)
        clear hg
        go_wp2_with fail
        refine (mlives_any _ HMb4.out).mono ?_
        rintro e zb5 ⟨rfl, hg⟩
        have HDb5_1 := Lib.hid (HDb4_1.out.frm hg (fun h => h))
        have HDb5_2 := Lib.hid (HDb4_2.out.frm hg (fun h => h))
        have HDb5_3 := Lib.hid (HDb4_3.out.frm hg (fun h => h))
        have HFb5 := Lib.hid (HFb4.out.trans hg)
        have HMb5 := Lib.hid (HMb4.out.keep hg)
        clear hg
        go_wp2_with fail
        go_ret
        exact ⟨rfl, HFb5.out.below (Nat.le_refl _) (fun _ _ h => h)⟩
      · have b1 := HDa2_1.out
        have b2 := HDa2_2.out
        go_wp2_with (first | (refine wpl_load_blk (by rfl) 25 _ (by rfl) _ (by rfl) _ _ (by exact b1) _ Tryd.underlying25 (by rfl) (by exact info_match) ?_) | (refine wpl_load_blk (by rfl) 25 _ (by rfl) _ (by rfl) _ _ (by exact b2) _ Tryd.underlying25 (by rfl) (by exact info_match) ?_))
        refine (Hc3.out _).mono ?_
        rintro e zb3 ⟨rfl, hg⟩
        clear b1 b2
        have HDb3_1 := Lib.hid (HDa2_1.out.frm hg (fun h => h))
        have HDb3_2 := Lib.hid (HDa2_2.out.frm hg (fun h => h))
        have HDb3_3 := Lib.hid (HDa2_3.out.frm hg (fun h => h))
        have HFb3 := Lib.hid (HFa2.out.trans hg)
        have HMb3 := Lib.hid (HMa2.out.keep hg)
        clear hg
        have b1 := HDb3_1.out
        go_wp2_with (first | (refine wpl_load_blk (by rfl) 25 _ (by rfl) _ (by rfl) _ _ (by exact b1) _ Tryd.underlying25 (by rfl) (by exact info_match) ?_))
        refine (Hc4.out _).mono ?_
        rintro e zb4 ⟨rfl, hg⟩
        clear b1
        have HDb4_1 := Lib.hid (HDb3_1.out.frm hg (fun h => h))
        have HDb4_2 := Lib.hid (HDb3_2.out.frm hg (fun h => h))
        have HDb4_3 := Lib.hid (HDb3_3.out.frm hg (fun h => h))
        have HFb4 := Lib.hid (HFb3.out.trans hg)
        have HMb4 := Lib.hid (HMb3.out.keep hg)
        clear hg
        go_wp2_with fail
        refine (mlives_any _ HMb4.out).mono ?_
        rintro e zb5 ⟨rfl, hg⟩
        have HDb5_1 := Lib.hid (HDb4_1.out.frm hg (fun h => h))
        have HDb5_2 := Lib.hid (HDb4_2.out.frm hg (fun h => h))
        have HDb5_3 := Lib.hid (HDb4_3.out.frm hg (fun h => h))
        have HFb5 := Lib.hid (HFb4.out.trans hg)
        have HMb5 := Lib.hid (HMb4.out.keep hg)
        clear hg
        go_wp2_with fail
        go_ret
        exact ⟨rfl, HFb5.out.below (Nat.le_refl _) (fun _ _ h => h)⟩
    · rcases Hv2.out with rfl | rfl | rfl
      · have b1 := HDa2_1.out
        have b2 := HDa2_2.out
        go_wp2_with (first | (refine wpl_load_blk (by rfl) 25 _ (by rfl) _ (by rfl) _ _ (by exact b1) _ Tryd.underlying25 (by rfl) (by exact info_match) ?_) | (refine wpl_load_blk (by rfl) 25 _ (by rfl) _ (by rfl) _ _ (by exact b2) _ Tryd.underlying25 (by rfl) (by exact info_match) ?_))
        refine (Hc3.out _).mono ?_
        rintro e zb3 ⟨rfl, hg⟩
        clear b1 b2
        have HDb3_1 := Lib.hid (HDa2_1.out.frm hg (fun h => h))
        have HDb3_2 := Lib.hid (HDa2_2.out.frm hg (fun h => h))
        have HDb3_3 := Lib.hid (HDa2_3.out.frm hg (fun h => h))
        have HFb3 := Lib.hid (HFa2.out.trans hg)
        have HMb3 := Lib.hid (HMa2.out.keep hg)
        clear hg
        have b1 := HDb3_1.out
        go_wp2_with (first | (refine wpl_load_blk (by rfl) 25 _ (by rfl) _ (by rfl) _ _ (by exact b1) _ Tryd.underlying25 (by rfl) (by exact info_match) ?_))
        refine (Hc4.out _).mono ?_
        rintro e zb4 ⟨rfl, hg⟩
        clear b1
        have HDb4_1 := Lib.hid (HDb3_1.out.frm hg (fun h => h))
        have HDb4_2 := Lib.hid (HDb3_2.out.frm hg (fun h => h))
        have HDb4_3 := Lib.hid (HDb3_3.out.frm hg (fun h => h))
        have HFb4 := Lib.hid (HFb3.out.trans hg)
        have HMb4 := Lib.hid (HMb3.out.keep hg)
        clear hg
        go_wp2_with fail
        refine (mlives_any _ HMb4.out).mono ?_
        rintro e zb5 ⟨rfl, hg⟩
        have HDb5_1 := Lib.hid (HDb4_1.out.frm hg (fun h => h))
        have HDb5_2 := Lib.hid (HDb4_2.out.frm hg (fun h => h))
        have HDb5_3 := Lib.hid (HDb4_3.out.frm hg (fun h => h))
        have HFb5 := Lib.hid (HFb4.out.trans hg)
        have HMb5 := Lib.hid (HMb4.out.keep hg)
        clear hg
        go_wp2_with fail
        go_ret
        exact ⟨rfl, HFb5.out.below (Nat.le_refl _) (fun _ _ h => h)⟩
      · have b1 := HDa2_1.out
        have b2 := HDa2_2.out
        go_wp2_with (first | (refine wpl_load_blk (by rfl) 25 _ (by rfl) _ (by rfl) _ _ (by exact b1) _ Tryd.underlying25 (by rfl) (by exact info_match) ?_) | (refine wpl_load_blk (by rfl) 25 _ (by rfl) _ (by rfl) _ _ (by exact b2) _ Tryd.underlying25 (by rfl) (by exact info_match) ?_))
        refine (Hc3.out _).mono ?_
        rintro e zb3 ⟨rfl, hg⟩
        clear b1 b2
        have HDb3_1 := Lib.hid (HDa2_1.out.frm hg (fun h => h))
        have HDb3_2 := Lib.hid (HDa2_2.out.frm hg (fun h => h))
        have HDb3_3 := Lib.hid (HDa2_3.out.frm hg (fun h => h))
        have HFb3 := Lib.hid (HFa2.out.trans hg)
        have HMb3 := Lib.hid (HMa2.out.keep hg)
        clear hg
        have b1 := HDb3_1.out
        go_wp2_with (first | (refine wpl_load_blk (by rfl) 25 _ (by rfl) _ (by rfl) _ _ (by exact b1) _ Tryd.underlying25 (by rfl) (by exact info_match) ?_))
        refine (Hc4.out _).mono ?_
        rintro e zb4 ⟨rfl, hg⟩
        clear b1
        have HDb4_1 := Lib.hid (HDb3_1.out.frm hg (fun h => h))
        have HDb4_2 := Lib.hid (HDb3_2.out.frm hg (fun h => h))
        have HDb4_3 := Lib.hid (HDb3_3.out.frm hg (fun h => h))
        have HFb4 := Lib.hid (HFb3.out.trans hg)
        have HMb4 := Lib.hid (HMb3.out.keep hg)
        clear hg
        go_wp2_with fail
        refine (mlives_any _ HMb4.out).mono ?_
        rintro e zb5 ⟨rfl, hg⟩
        have HDb5_1 := Lib.hid (HDb4_1.out.frm hg (fun h => h))
        have HDb5_2 := Lib.hid (HDb4_2.out.frm hg (fun h => h))
        have HDb5_3 := Lib.hid (HDb4_3.out.frm hg (fun h => h))
        have HFb5 := Lib.hid (HFb4.out.trans hg)
        have HMb5 := Lib.hid (HMb4.out.keep hg)
        clear hg
        go_wp2_with fail
        go_ret
        exact ⟨rfl, HFb5.out.below (Nat.le_refl _) (fun _ _ h => h)⟩
      · have b1 := HDa2_1.out
        have b2 := HDa2_2.out
        go_wp2_with (first | (refine wpl_load_blk (by rfl) 25 _ (by rfl) _ (by rfl) _ _ (by exact b1) _ Tryd.underlying25 (by rfl) (by exact info_match) ?_) | (refine wpl_load_blk (by rfl) 25 _ (by rfl) _ (by rfl) _ _ (by exact b2) _ Tryd.underlying25 (by rfl) (by exact info_match) ?_))
        refine (Hc3.out _).mono ?_
        rintro e zb3 ⟨rfl, hg⟩
        clear b1 b2
        have HDb3_1 := Lib.hid (HDa2_1.out.frm hg (fun h => h))
        have HDb3_2 := Lib.hid (HDa2_2.out.frm hg (fun h => h))
        have HDb3_3 := Lib.hid (HDa2_3.out.frm hg (fun h => h))
        have HFb3 := Lib.hid (HFa2.out.trans hg)
        have HMb3 := Lib.hid (HMa2.out.keep hg)
        clear hg
        have b1 := HDb3_1.out
        go_wp2_with (first | (refine wpl_load_blk (by rfl) 25 _ (by rfl) _ (by rfl) _ _ (by exact b1) _ Tryd.underlying25 (by rfl) (by exact info_match) ?_))
        refine (Hc4.out _).mono ?_
        rintro e zb4 ⟨rfl, hg⟩
        clear b1
        have HDb4_1 := Lib.hid (HDb3_1.out.frm hg (fun h => h))
        have HDb4_2 := Lib.hid (HDb3_2.out.frm hg (fun h => h))
        have HDb4_3 := Lib.hid (HDb3_3.out.frm hg (fun h => h))
        have HFb4 := Lib.hid (HFb3.out.trans hg)
        have HMb4 := Lib.hid (HMb3.out.keep hg)
        clear hg
        go_wp2_with fail
        refine (mlives_any _ HMb4.out).mono ?_
        rintro e zb5 ⟨rfl, hg⟩
        have HDb5_1 := Lib.hid (HDb4_1.out.frm hg (fun h => h))
        have HDb5_2 := Lib.hid (HDb4_2.out.frm hg (fun h => h))
        have HDb5_3 := Lib.hid (HDb4_3.out.frm hg (fun h => h))
        have HFb5 := Lib.hid (HFb4.out.trans hg)
        have HMb5 := Lib.hid (HMb4.out.keep hg)
        clear hg
        go_wp2_with fail
        go_ret
        exact ⟨rfl, HFb5.out.below (Nat.le_refl _) (fun _ _ h => h)⟩
    · rcases Hv2.out with rfl | rfl | rfl
      · have b1 := HDa2_1.out
        have b2 := HDa2_2.out
        go_wp2_with (first | (refine wpl_load_blk (by rfl) 25 _ (by rfl) _ (by rfl) _ _ (by exact b1) _ Tryd.underlying25 (by rfl) (by exact info_match) ?_) | (refine wpl_load_blk (by rfl) 25 _ (by rfl) _ (by rfl) _ _ (by exact b2) _ Tryd.underlying25 (by rfl) (by exact info_match) ?_))
        refine (Hc3.out _).mono ?_
        rintro e zb3 ⟨rfl, hg⟩
        clear b1 b2
        have HDb3_1 := Lib.hid (HDa2_1.out.frm hg (fun h => h))
        have HDb3_2 := Lib.hid (HDa2_2.out.frm hg (fun h => h))
        have HDb3_3 := Lib.hid (HDa2_3.out.frm hg (fun h => h))
        have HFb3 := Lib.hid (HFa2.out.trans hg)
        have HMb3 := Lib.hid (HMa2.out.keep hg)
        clear hg
        have b1 := HDb3_1.out
        go_wp2_with (first | (refine wpl_load_blk (by rfl) 25 _ (by rfl) _ (by rfl) _ _ (by exact b1) _ Tryd.underlying25 (by rfl) (by exact info_match) ?_))
        refine (Hc4.out _).mono ?_
        rintro e zb4 ⟨rfl, hg⟩
        clear b1
        have HDb4_1 := Lib.hid (HDb3_1.out.frm hg (fun h => h))
        have HDb4_2 := Lib.hid (HDb3_2.out.frm hg (fun h => h))
        have HDb4_3 := Lib.hid (HDb3_3.out.frm hg (fun h => h))
        have HFb4 := Lib.hid (HFb3.out.trans hg)
        have HMb4 := Lib.hid (HMb3.out.keep hg)
        clear hg
        go_wp2_with fail
        refine (mlives_any _ HMb4.out).mono ?_
        rintro e zb5 ⟨rfl, hg⟩
        have HDb5_1 := Lib.hid (HDb4_1.out.frm hg (fun h => h))
        have HDb5_2 := Lib.hid (HDb4_2.out.frm hg (fun h => h))
        have HDb5_3 := Lib.hid (HDb4_3.out.frm hg (fun h => h))
        have HFb5 := Lib.hid (HFb4.out.trans hg)
        have HMb5 := Lib.hid (HMb4.out.keep hg)
        clear hg
        go_wp2_with fail
        go_ret
        exact ⟨rfl, HFb5.out.below (Nat.le_refl _) (fun _ _ h => h)⟩
      · have b1 := HDa2_1.out
        have b2 := HDa2_2.out
        go_wp2_with (first | (refine wpl_load_blk (by rfl) 25 _ (by rfl) _ (by rfl) _ _ (by exact b1) _ Tryd.underlying25 (by rfl) (by exact info_match) ?_) | (refine wpl_load_blk (by rfl) 25 _ (by rfl) _ (by rfl) _ _ (by exact b2) _ Tryd.underlying25 (by rfl) (by exact info_match) ?_))
        refine (Hc3.out _).mono ?_
        rintro e zb3 ⟨rfl, hg⟩
        clear b1 b2
        have HDb3_1 := Lib.hid (HDa2_1.out.frm hg (fun h => h))
        have HDb3_2 := Lib.hid (HDa2_2.out.frm hg (fun h => h))
        have HDb3_3 := Lib.hid (HDa2_3.out.frm hg (fun h => h))
        have HFb3 := Lib.hid (HFa2.out.trans hg)
        have HMb3 := Lib.hid (HMa2.out.keep hg)
        clear hg
        have b1 := HDb3_1.out
        go_wp2_with (first | (refine wpl_load_blk (by rfl) 25 _ (by rfl) _ (by rfl) _ _ (by exact b1) _ Tryd.underlying25 (by rfl) (by exact info_match) ?_))
        refine (Hc4.out _).mono ?_
        rintro e zb4 ⟨rfl, hg⟩
        clear b1
        have HDb4_1 := Lib.hid (HDb3_1.out.frm hg (fun h => h))
        have HDb4_2 := Lib.hid (HDb3_2.out.frm hg (fun h => h))
        have HDb4_3 := Lib.hid (HDb3_3.out.frm hg (fun h => h))
        have HFb4 := Lib.hid (HFb3.out.trans hg)
        have HMb4 := Lib.hid (HMb3.out.keep hg)
        clear hg
        go_wp2_with fail
        refine (mlives_any _ HMb4.out).mono ?_
        rintro e zb5 ⟨rfl, hg⟩
        have HDb5_1 := Lib.hid (HDb4_1.out.frm hg (fun h => h))
        have HDb5_2 := Lib.hid (HDb4_2.out.frm hg (fun h => h))
        have HDb5_3 := Lib.hid (HDb4_3.out.frm hg (fun h => h))
        have HFb5 := Lib.hid (HFb4.out.trans hg)
        have HMb5 := Lib.hid (HMb4.out.keep hg)
        clear hg
        go_wp2_with fail
        go_ret
        exact ⟨rfl, HFb5.out.below (Nat.le_refl _) (fun _ _ h => h)⟩
      · have b1 := HDa2_1.out
        have b2 := HDa2_2.out
        go_wp2_with (first | (refine wpl_load_blk (by rfl) 25 _ (by rfl) _ (by rfl) _ _ (by exact b1) _ Tryd.underlying25 (by rfl) (by exact info_match) ?_) | (refine wpl_load_blk (by rfl) 25 _ (by rfl) _ (by rfl) _ _ (by exact b2) _ Tryd.underlying25 (by rfl) (by exact info_match) ?_))
        refine (Hc3.out _).mono ?_
        rintro e zb3 ⟨rfl, hg⟩
        clear b1 b2
        have HDb3_1 := Lib.hid (HDa2_1.out.frm hg (fun h => h))
        have HDb3_2 := Lib.hid (HDa2_2.out.frm hg (fun h => h))
        have HDb3_3 := Lib.hid (HDa2_3.out.frm hg (fun h => h))
        have HFb3 := Lib.hid (HFa2.out.trans hg)
        have HMb3 := Lib.hid (HMa2.out.keep hg)
        clear hg
        have b1 := HDb3_1.out
        go_wp2_with (first | (refine wpl_load_blk (by rfl) 25 _ (by rfl) _ (by rfl) _ _ (by exact b1) _ Tryd.underlying25 (by rfl) (by exact info_match) ?_))
        refine (Hc4.out _).mono ?_
        rintro e zb4 ⟨rfl, hg⟩
        clear b1
        have HDb4_1 := Lib.hid (HDb3_1.out.frm hg (fun h => h))
        have HDb4_2 := Lib.hid (HDb3_2.out.frm hg (fun h => h))
        have HDb4_3 := Lib.hid (HDb3_3.out.frm hg (fun h => h))
        have HFb4 := Lib.hid (HFb3.out.trans hg)
        have HMb4 := Lib.hid (HMb3.out.keep hg)
        clear hg
        go_wp2_with fail
        refine (mlives_any _ HMb4.out).mono ?_
        rintro e zb5 ⟨rfl, hg⟩
        have HDb5_1 := Lib.hid (HDb4_1.out.frm hg (fun h => h))
        have HDb5_2 := Lib.hid (HDb4_2.out.frm hg (fun h => h))
        have HDb5_3 := Lib.hid (HDb4_3.out.frm hg (fun h => h))
        have HFb5 := Lib.hid (HFb4.out.trans hg)
        have HMb5 := Lib.hid (HMb4.out.keep hg)
        clear hg
        go_wp2_with fail
        go_ret
        exact ⟨rfl, HFb5.out.below (Nat.le_refl _) (fun _ _ h => h)⟩
end Go.Proofs.YtjehdldjfnaniaaDoor
