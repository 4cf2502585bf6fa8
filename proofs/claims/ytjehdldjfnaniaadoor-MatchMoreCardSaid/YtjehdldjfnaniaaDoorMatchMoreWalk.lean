/- The walk of the statement MatchMore. -/
import Derived.Test.YtjehdldjfnaniaaDoorMatchRCmp
import Derived.Test.YtjehdldjfnaniaaDoorMatchFits
import Derived.Test.YtjehdldjfnaniaaDoorMatchLives
import Derived.Test.YtjehdldjfnaniaaDoorShaped
import Derived.Test.YtjehdldjfnaniaaDoorMatchPlain
import Derived.Test.YtjehdldjfnaniaaDoorTakeD
import Derived.StillTailTactics
import Derived.Deep.RegionHeld3
import Derived.Outline
set_option linter.unusedVariables false
set_option linter.unusedSimpArgs false
namespace Go.Proofs.YtjehdldjfnaniaaDoor
open Go.RowKit

set_option maxRecDepth 100000 in
set_option maxHeartbeats 4000000 in
theorem matchMore_walk (a0 : Option Addr) (len0 cap0 : Nat) (z0 : List Int) (a1 : Int) (a2 : Option Addr) (len2 cap2 : Nat) (z2 : List Int) (a3 : Int) (w : World) (w0 : IsRow .i64 w a0 len0 cap0 z0) (w1 : (Lit.int .i64 a1).wf = true) (w2 : IsRow .i64 w a2 len2 cap2 z2) (w3 : (Lit.int .i64 a3).wf = true) (hmax : MaxL w) :
    Calls Tryd.prog 6 #[.slice a0 len0 cap0, .int .i64 a1, .slice a2 len2 cap2, .int .i64 a3] w fun e w' => e = .returned (.bool true) ∧ Below w.heap.size w w' := by
  obtain ⟨xs, h0⟩ := w0.list
  obtain ⟨ys, h2⟩ := w2.list
  have hb1 := wf_i64 w1
  have hb3 := wf_i64 w3
  have H0 := Lib.hid h0
  have H2 := Lib.hid h2
  have Hb1 := Lib.hid hb1
  have Hb3 := Lib.hid hb3
  clear h0 h2 hb1 hb3
  clear w0 w1 w2 w3
  go_enter Tryd.func6, Tryd.ntmps6
  go_wp2_with fail
  refine (match_any a0 len0 cap0 xs _ H0.out).mono ?_
  rintro e x1 ⟨hv, rfl, hh, hg⟩
  obtain ⟨sa1, sc1, hve, hre, _⟩ := hh.shape
  obtain ⟨sn1, hsn⟩ : ∃ n, n = (mHs xs).length := ⟨_, rfl⟩
  rw [← hsn] at hve
  subst hve
  have hpo1 := mMp_ok xs
  have hpl1 := mMp_len xs
  have hls1 : (mHs xs).length ≤ 3 := by unfold mHs; have := mHsU_len xs (max 1 (min xs.length 3)); omega
  generalize mMp xs = P1 at *
  generalize mEx xs = ex1 at *
  generalize mHs xs = S1 at *
  obtain ⟨mp1, hmp1⟩ : ∃ m, m = bs (pathOf P1) := ⟨_, rfl⟩
  rw [← hmp1]
  have HG1 := Lib.hid (hg.alloc (.cells #[.string mp1, .bool ex1, .slice sa1 sn1 sc1] 25))
  have HB1 := Lib.hid (Blk.made x1 #[.string mp1, .bool ex1, .slice sa1 sn1 sc1] 25)
  have HH1 := Lib.hid (hh.keep ((Frm.refl noB x1).alloc (.cells #[.string mp1, .bool ex1, .slice sa1 sn1 sc1] 25)))
  have Hsn1 := Lib.hid hsn
  clear hsn hh hg hre
  have Hpo1 := Lib.hid hpo1
  have Hpl1 := Lib.hid hpl1
  have Hmp1 := Lib.hid hmp1
  have Hls1 := Lib.hid hls1
  clear hpo1 hpl1 hmp1 hls1
  have HF1 := Lib.hid (HG1.out)
  go_upto_region 2 with (refine wpl_store_new _ (by rfl) 25 _ _ (by rfl) _ (by rfl) (by first | rfl | simp) _ _ _ (by rfl) (by exact info_match) (by rfl) (by kernel_rfl) ?_)
  generalize x1.alloc (.cells #[.string mp1, .bool ex1, .slice sa1 sn1 sc1] 25) = W1 at *
  go_wp2_with fail
  refine (pathof_any a1 _ Hb1.out.1 Hb1.out.2).mono ?_
  rintro e y2 ⟨rfl, hg2⟩
  have hpp := mZ_ok a1
  have hpq := mZ_len a1
  obtain ⟨pt, hpt⟩ : ∃ p, p = bs (pathOf (mZ a1)) := ⟨_, rfl⟩
  rw [← hpt]
  have hps : pt.size ≤ 60 := by rw [hpt, bs_size]; omega
  have HF2 := Lib.hid (HF1.out.trans hg2)
  have HK2 := Lib.hid hg2
  have Hpp := Lib.hid hpp
  have Hpq := Lib.hid hpq
  have Hpt := Lib.hid hpt
  clear hpp hpq hpt
  clear hg2
  go_wp2_with fail
  refine (heads_hv a2 len2 cap2 ys _ (H2.out.keep HF2.out)).mono ?_
  rintro e y3 ⟨va, rfl, hva, hg3⟩
  have hgl := (GoodL.gen (ys.take 12)).len
  generalize genH (ys.take 12) = LL at *
  obtain ⟨la, lc, hve, hrl, hl1, hl2, hlsp⟩ := hva.shape
  obtain ⟨ln, hln⟩ : ∃ n, n = LL.length := ⟨_, rfl⟩
  rw [← hln] at hve hrl hl1
  subst hve
  have hl8 : ln ≤ 8 := by rw [hln]; exact hgl
  have HK3 := Lib.hid (HK2.out.trans hg3)
  have HL3 := Lib.hid hva
  have HR3 := Lib.hid hrl
  have Hlsp := Lib.hid hlsp
  have Hln := Lib.hid hln
  have Hgl := Lib.hid hgl
  clear hln hgl
  clear hva hrl hg3 hlsp
  go_wp2_with fail
  refine (one_hv a3 _ Hb3.out).mono ?_
  rintro e y4 ⟨rfl, hg4⟩
  generalize (oneZ a3).name = nm
  generalize (oneZ a3).val = vl
  have HK5 := Lib.hid ((HK3.out.trans hg4).alloc (.cells #[.string nm, .string vl] 36))
  have HJ5 := Lib.hid (hg4.alloc (.cells #[.string nm, .string vl] 36))
  have HB12 := Lib.hid (Blk.made y4 #[.string nm, .string vl] 36)
  clear hg4
  go_upto_region 5 with fail
  generalize y4.alloc (.cells #[.string nm, .string vl] 36) = W5 at *
  have HF5 := Lib.hid (HF1.out.trans HK5.out)
  have HL5 := Lib.hid (HL3.out.keep HJ5.out)
  have HR5 := Lib.hid (HR3.out.keep HJ5.out)
  have HB9 := Lib.hid (HB1.out.frm HK5.out (fun h => h))
  have HS5 := Lib.hid (HH1.out.keep HK5.out)
  obtain ⟨fb, hfb⟩ : ∃ v, v = fitsB mp1 ex1 S1 pt LL := ⟨_, rfl⟩
  obtain ⟨ob, hob⟩ : ∃ v, v = onL mp1 ex1 pt := ⟨_, rfl⟩
  have hon := fun w h => on_any mp1 ex1 sa1 sn1 sc1 pt w (by omega) h
  have hft := fun w h1 h2 h => fits_any mp1 ex1 (.slice sa1 sn1 sc1) S1 pt (.slice la ln lc) LL w h1 h2 (by omega) h
  have hfr := fun w h2 h => fits_any mp1 ex1 (.slice none 0 0) [] pt (.slice la ln lc) LL w ⟨0, Own.nil _ _ _ _⟩ h2 (by omega) h
  have hfm := fun v w h1 h2 h => fits_any mp1 ex1 (.slice sa1 sn1 sc1) S1 pt v (LL ++ [⟨nm, vl⟩]) w h1 h2 (by omega) h
  have hfs := fun v w h1 h2 h => fits_any mp1 ex1 v (S1 ++ [⟨nm, vl⟩]) pt (.slice la ln lc) LL w h1 h2 (by omega) h
  have hfo : fb = true → ob = true := fun h => by rw [hob]; rw [hfb] at h; exact fitsB_on h
  have hfm2 : fb = true → fitsB mp1 ex1 S1 pt (LL ++ [⟨nm, vl⟩]) = true := fun h => by rw [hfb] at h; exact fitsB_more _ h
  have hfs2 : fitsB mp1 ex1 (S1 ++ [⟨nm, vl⟩]) pt LL = true → fb = true := fun h => by rw [hfb]; exact fitsB_strict h
  rw [← hob] at hon
  rw [← hfb] at hft
  rw [fitsB_bare, ← hob] at hfr
  generalize fitsB mp1 ex1 S1 pt (LL ++ [⟨nm, vl⟩]) = fm at *
  generalize fitsB mp1 ex1 (S1 ++ [⟨nm, vl⟩]) pt LL = fs at *
  have Hfb := Lib.hid hfb
  have Hob := Lib.hid hob
  have Hon := Lib.hid hon
  have Hft := Lib.hid hft
  have Hfr := Lib.hid hfr
  have Hfm := Lib.hid hfm
  have Hfs := Lib.hid hfs
  have Hfo := Lib.hid hfo
  have Hfm2 := Lib.hid hfm2
  have Hfs2 := Lib.hid hfs2
  have Hps := Lib.hid hps
  clear hfb hob hon hft hfr hfm hfs hfo hfm2 hfs2 hps
  have bL := HB9.out
  go_wp2_with (refine wpl_load_blk (by rfl) 25 _ (by rfl) _ (by rfl) _ _ (by exact bL) _ Tryd.underlying25 (by rfl) (by exact info_match) ?_)
  refine (Hft.out _ HS5.out HL5.out (hmax.keep HF5.out)).mono ?_
  rintro e y5 ⟨rfl, hg5⟩
  clear bL
  have bL := HB9.out.frm hg5 (fun h => h)
  have HG6 := Lib.hid (hg5.alloc (.cells #[.string mp1, .bool ex1, .slice sa1 sn1 sc1] 25))
  have HB14 := Lib.hid (Blk.made y5 #[.string mp1, .bool ex1, .slice sa1 sn1 sc1] 25)
  go_upto_region 7 with (first | (refine wpl_load_blk (by rfl) 25 _ (by rfl) _ (by rfl) _ _ (by exact bL) _ Tryd.underlying25 (by rfl) (by exact info_match) ?_) | (refine wpl_store_new _ (by rfl) 25 _ _ (by rfl) _ (by rfl) (by first | rfl | simp) _ _ _ (by rfl) (by exact info_match) (by rfl) (by kernel_rfl) ?_))
  generalize y5.alloc (.cells #[.string mp1, .bool ex1, .slice sa1 sn1 sc1] 25) = W6 at *
  clear bL
  have q2 := (HB14.out.cell 2).trans (show _ = some (Value.slice sa1 sn1 sc1) from rfl)
  have qy := HB14.out.free 2
  have ql := HB14.out.lt
  have hz5 := hg5.size
  have hB14 := HB14.out.set 2 (.slice none 0 0)
  rw [show (#[.string mp1, .bool ex1, .slice sa1 sn1 sc1] : Array Value).setIfInBounds 2 (.slice none 0 0) = #[.string mp1, .bool ex1, .slice none 0 0] from rfl] at hB14
  have HB14 := Lib.hid hB14
  have HG7 := Lib.hid (HG6.out.setNew (p := ⟨y5.heap.size, 2, none⟩) (by simpa using hz5) (.slice none 0 0))
  clear hB14
  go_upto_region 8 with fail
  generalize W6.setCell ⟨y5.heap.size, 2, none⟩ (.slice none 0 0) = W7 at *
  clear q2 qy ql hg5
  have HF7 := Lib.hid (HF5.out.trans HG7.out)
  have HB9 := Lib.hid (HB9.out.frm HG7.out (fun h => h))
  have HB12 := Lib.hid (HB12.out.frm HG7.out (fun h => h))
  have HL7 := Lib.hid (HL5.out.keep HG7.out)
  have HR7 := Lib.hid (HR5.out.keep HG7.out)
  have HS7 := Lib.hid (HS5.out.keep HG7.out)
  have HM7 := Lib.hid (hmax.keep HF7.out)
  go_cut [51] (fun s wx => s = .bool false ∧ Frm noB W7 wx)
  case first =>
    cases fb
    · skip
      refine wp_region_noPanic ?_
      refine wp_region_held_drew (S := fun X => Blk X x1.heap.size #[.string mp1, .bool ex1, .slice sa1 sn1 sc1] 25 ∧ Blk X y5.heap.size #[.string mp1, .bool ex1, .slice none 0 0] 25) (by kernel_rfl) ?_ (fun hHeld => ?_)
      · exact ⟨HB9.out.frm (Frm.refl noB _).drew (fun h => h), HB14.out.frm (Frm.refl noB _).drew (fun h => h)⟩
      obtain ⟨u0, hu0⟩ : ∃ Wq, Wq = W7.drew := ⟨_, rfl⟩
      rw [← hu0] at hHeld ⊢
      have hgd : Frm noB W7 u0 := by rw [hu0]; exact (Frm.refl noB W7).drew
      have HT0 := Lib.hid (hgd)
      have hz0 := hgd.size
      clear hu0 hgd
      refine takeD (i := 0) (some 35) (v := ?_) rfl rfl (by kernel_rfl) (by kernel_rfl) (by kernel_rfl) (fun _ _ _ h => h) (Or.inl ⟨by kernel_rfl, ?_⟩) (by assumption) ?_
      rotate_left
      · (intro w hSw; (try dsimp only at hSw); have hQa0 := (hSw.1.cell 0).trans (show _ = some (Value.string mp1) from rfl); have hQa1 := (hSw.1.cell 1).trans (show _ = some (Value.bool ex1) from rfl); have hQa2 := (hSw.1.cell 2).trans (show _ = some (Value.slice sa1 sn1 sc1) from rfl); have hQb0 := (hSw.2.cell 0).trans (show _ = some (Value.string mp1) from rfl); have hQb1 := (hSw.2.cell 1).trans (show _ = some (Value.bool ex1) from rfl); have hQb2 := (hSw.2.cell 2).trans (show _ = some (Value.slice none 0 0) from rfl); go_simp; try (with_reducible rfl))
      (try dsimp only [Act.put]); try simp only [Act.put, List.setIfInBounds_toArray, List.set_cons_zero, List.set_cons_succ]
      refine takeD (i := 1) (some 36) (v := ?_) rfl rfl (by kernel_rfl) (by kernel_rfl) (by kernel_rfl) (fun _ _ _ h => h) (Or.inl ⟨by kernel_rfl, ?_⟩) (by assumption) ?_
      rotate_left
      · (intro w hSw; (try dsimp only at hSw); have hQa0 := (hSw.1.cell 0).trans (show _ = some (Value.string mp1) from rfl); have hQa1 := (hSw.1.cell 1).trans (show _ = some (Value.bool ex1) from rfl); have hQa2 := (hSw.1.cell 2).trans (show _ = some (Value.slice sa1 sn1 sc1) from rfl); have hQb0 := (hSw.2.cell 0).trans (show _ = some (Value.string mp1) from rfl); have hQb1 := (hSw.2.cell 1).trans (show _ = some (Value.bool ex1) from rfl); have hQb2 := (hSw.2.cell 2).trans (show _ = some (Value.slice none 0 0) from rfl); go_simp; try (with_reducible rfl))
      (try dsimp only [Act.put]); try simp only [Act.put, List.setIfInBounds_toArray, List.set_cons_zero, List.set_cons_succ]
      refine takeD (i := 2) (some 37) (v := undef) rfl rfl (by kernel_rfl) (by kernel_rfl) (by kernel_rfl) (fun _ _ _ h => h) (Or.inr ⟨by kernel_rfl, by kernel_rfl⟩) (by assumption) ?_
      (try dsimp only [Act.put]); try simp only [Act.put, List.setIfInBounds_toArray, List.set_cons_zero, List.set_cons_succ]
      refine takeD (i := 3) (some 38) (v := undef) rfl rfl (by kernel_rfl) (by kernel_rfl) (by kernel_rfl) (fun _ _ _ h => h) (Or.inr ⟨by kernel_rfl, by kernel_rfl⟩) (by assumption) ?_
      (try dsimp only [Act.put]); try simp only [Act.put, List.setIfInBounds_toArray, List.set_cons_zero, List.set_cons_succ]
      refine takeD (i := 4) (some 39) (v := undef) rfl rfl (by kernel_rfl) (by kernel_rfl) (by kernel_rfl) (fun _ _ _ h => h) (Or.inr ⟨by kernel_rfl, by kernel_rfl⟩) (by assumption) ?_
      (try dsimp only [Act.put]); try simp only [Act.put, List.setIfInBounds_toArray, List.set_cons_zero, List.set_cons_succ]
      refine takeD (i := 5) (some 40) (v := undef) rfl rfl (by kernel_rfl) (by kernel_rfl) (by kernel_rfl) (fun _ _ _ h => h) (Or.inr ⟨by kernel_rfl, by kernel_rfl⟩) (by assumption) ?_
      (try dsimp only [Act.put]); try simp only [Act.put, List.setIfInBounds_toArray, List.set_cons_zero, List.set_cons_succ]
      refine takeD (i := 6) (some 41) (v := ?_) rfl rfl (by kernel_rfl) (by kernel_rfl) (by kernel_rfl) (fun _ _ _ h => h) (Or.inl ⟨by kernel_rfl, ?_⟩) (by assumption) ?_
      rotate_left
      · (intro w hSw; (try dsimp only at hSw); have hQa0 := (hSw.1.cell 0).trans (show _ = some (Value.string mp1) from rfl); have hQa1 := (hSw.1.cell 1).trans (show _ = some (Value.bool ex1) from rfl); have hQa2 := (hSw.1.cell 2).trans (show _ = some (Value.slice sa1 sn1 sc1) from rfl); have hQb0 := (hSw.2.cell 0).trans (show _ = some (Value.string mp1) from rfl); have hQb1 := (hSw.2.cell 1).trans (show _ = some (Value.bool ex1) from rfl); have hQb2 := (hSw.2.cell 2).trans (show _ = some (Value.slice none 0 0) from rfl); go_simp; try (with_reducible rfl))
      (try dsimp only [Act.put]); try simp only [Act.put, List.setIfInBounds_toArray, List.set_cons_zero, List.set_cons_succ]
      refine takeD (i := 7) (some 42) (v := ?_) rfl rfl (by kernel_rfl) (by kernel_rfl) (by kernel_rfl) (fun _ _ _ h => h) (Or.inl ⟨by kernel_rfl, ?_⟩) (by assumption) ?_
      rotate_left
      · (intro w hSw; (try dsimp only at hSw); have hQa0 := (hSw.1.cell 0).trans (show _ = some (Value.string mp1) from rfl); have hQa1 := (hSw.1.cell 1).trans (show _ = some (Value.bool ex1) from rfl); have hQa2 := (hSw.1.cell 2).trans (show _ = some (Value.slice sa1 sn1 sc1) from rfl); have hQb0 := (hSw.2.cell 0).trans (show _ = some (Value.string mp1) from rfl); have hQb1 := (hSw.2.cell 1).trans (show _ = some (Value.bool ex1) from rfl); have hQb2 := (hSw.2.cell 2).trans (show _ = some (Value.slice none 0 0) from rfl); go_simp; try (with_reducible rfl))
      (try dsimp only [Act.put]); try simp only [Act.put, List.setIfInBounds_toArray, List.set_cons_zero, List.set_cons_succ]
      refine takeD (i := 8) (some 43) (v := ?_) rfl rfl (by kernel_rfl) (by kernel_rfl) (by kernel_rfl) (fun _ _ _ h => h) (Or.inl ⟨by kernel_rfl, ?_⟩) (by assumption) ?_
      rotate_left
      · (intro w hSw; (try dsimp only at hSw); have hQa0 := (hSw.1.cell 0).trans (show _ = some (Value.string mp1) from rfl); have hQa1 := (hSw.1.cell 1).trans (show _ = some (Value.bool ex1) from rfl); have hQa2 := (hSw.1.cell 2).trans (show _ = some (Value.slice sa1 sn1 sc1) from rfl); have hQb0 := (hSw.2.cell 0).trans (show _ = some (Value.string mp1) from rfl); have hQb1 := (hSw.2.cell 1).trans (show _ = some (Value.bool ex1) from rfl); have hQb2 := (hSw.2.cell 2).trans (show _ = some (Value.slice none 0 0) from rfl); go_simp; try (with_reducible rfl))
      (try dsimp only [Act.put]); try simp only [Act.put, List.setIfInBounds_toArray, List.set_cons_zero, List.set_cons_succ]
      refine takeD (i := 9) (some 44) (v := ?_) rfl rfl (by kernel_rfl) (by kernel_rfl) (by kernel_rfl) (fun _ _ _ h => h) (Or.inl ⟨by kernel_rfl, ?_⟩) (by assumption) ?_
      rotate_left
      · (intro w hSw; (try dsimp only at hSw); have hQa0 := (hSw.1.cell 0).trans (show _ = some (Value.string mp1) from rfl); have hQa1 := (hSw.1.cell 1).trans (show _ = some (Value.bool ex1) from rfl); have hQa2 := (hSw.1.cell 2).trans (show _ = some (Value.slice sa1 sn1 sc1) from rfl); have hQb0 := (hSw.2.cell 0).trans (show _ = some (Value.string mp1) from rfl); have hQb1 := (hSw.2.cell 1).trans (show _ = some (Value.bool ex1) from rfl); have hQb2 := (hSw.2.cell 2).trans (show _ = some (Value.slice none 0 0) from rfl); go_simp; try (with_reducible rfl))
      (try dsimp only [Act.put]); try simp only [Act.put, List.setIfInBounds_toArray, List.set_cons_zero, List.set_cons_succ]
      refine takeD (i := 10) (some 45) (v := ?_) rfl rfl (by kernel_rfl) (by kernel_rfl) (by kernel_rfl) (fun _ _ _ h => h) (Or.inl ⟨by kernel_rfl, ?_⟩) (by assumption) ?_
      rotate_left
      · (intro w hSw; (try dsimp only at hSw); have hQa0 := (hSw.1.cell 0).trans (show _ = some (Value.string mp1) from rfl); have hQa1 := (hSw.1.cell 1).trans (show _ = some (Value.bool ex1) from rfl); have hQa2 := (hSw.1.cell 2).trans (show _ = some (Value.slice sa1 sn1 sc1) from rfl); have hQb0 := (hSw.2.cell 0).trans (show _ = some (Value.string mp1) from rfl); have hQb1 := (hSw.2.cell 1).trans (show _ = some (Value.bool ex1) from rfl); have hQb2 := (hSw.2.cell 2).trans (show _ = some (Value.slice none 0 0) from rfl); go_simp; try (with_reducible rfl))
      (try dsimp only [Act.put]); try simp only [Act.put, List.setIfInBounds_toArray, List.set_cons_zero, List.set_cons_succ]
      refine takeD (i := 12) (some 47) (v := ?_) rfl rfl (by kernel_rfl) (by kernel_rfl) (by kernel_rfl) (fun _ _ _ h => h) (Or.inl ⟨by kernel_rfl, ?_⟩) (by assumption) ?_
      rotate_left
      · (intro w hSw; (try dsimp only at hSw); have hQa0 := (hSw.1.cell 0).trans (show _ = some (Value.string mp1) from rfl); have hQa1 := (hSw.1.cell 1).trans (show _ = some (Value.bool ex1) from rfl); have hQa2 := (hSw.1.cell 2).trans (show _ = some (Value.slice sa1 sn1 sc1) from rfl); have hQb0 := (hSw.2.cell 0).trans (show _ = some (Value.string mp1) from rfl); have hQb1 := (hSw.2.cell 1).trans (show _ = some (Value.bool ex1) from rfl); have hQb2 := (hSw.2.cell 2).trans (show _ = some (Value.slice none 0 0) from rfl); go_simp; try (with_reducible rfl))
      (try dsimp only [Act.put]); try simp only [Act.put, List.setIfInBounds_toArray, List.set_cons_zero, List.set_cons_succ]
      refine takeD (i := 13) (some 48) (v := ?_) rfl rfl (by kernel_rfl) (by kernel_rfl) (by kernel_rfl) (fun _ _ _ h => h) (Or.inl ⟨by kernel_rfl, ?_⟩) (by assumption) ?_
      rotate_left
      · (intro w hSw; (try dsimp only at hSw); have hQa0 := (hSw.1.cell 0).trans (show _ = some (Value.string mp1) from rfl); have hQa1 := (hSw.1.cell 1).trans (show _ = some (Value.bool ex1) from rfl); have hQa2 := (hSw.1.cell 2).trans (show _ = some (Value.slice sa1 sn1 sc1) from rfl); have hQb0 := (hSw.2.cell 0).trans (show _ = some (Value.string mp1) from rfl); have hQb1 := (hSw.2.cell 1).trans (show _ = some (Value.bool ex1) from rfl); have hQb2 := (hSw.2.cell 2).trans (show _ = some (Value.slice none 0 0) from rfl); go_simp; try (with_reducible rfl))
      (try dsimp only [Act.put]); try simp only [Act.put, List.setIfInBounds_toArray, List.set_cons_zero, List.set_cons_succ]
      refine wpAnyH_ready (rs := [11]) (by kernel_rfl) (by simp) ?_
      refine AllReadyH.cons rfl (fun K hK => ?_) ?_
      · go_simp
        refine (Hfr.out _ (HL7.out.keep HT0.out) (HM7.out.keep HT0.out)).mono ?_
        rintro e u1 ⟨rfl, hg⟩
        have HT1 := Lib.hid (HT0.out.trans hg)
        have hz1 := hg.size
        clear hg
        go_wp2_with fail
        refine hK.out _ _ ?_ (fun hHeld => ?_)
        · exact ⟨HB9.out.frm HT1.out (fun h => h), HB14.out.frm HT1.out (fun h => h)⟩
        clear hK K
        (try dsimp only [Act.put]); try simp only [Act.put, List.setIfInBounds_toArray, List.set_cons_zero, List.set_cons_succ]
        refine wpAnyH_ready (rs := [14]) (by kernel_rfl) (by simp) ?_
        refine AllReadyH.cons rfl (fun K hK => ?_) ?_
        · go_simp
          refine (Hon.out _ (HM7.out.keep HT1.out)).mono ?_
          rintro e u2 ⟨rfl, hg⟩
          have HT2 := Lib.hid (HT1.out.trans hg)
          have hz2 := hg.size
          clear hg
          go_wp2_with fail
          refine hK.out _ _ ?_ (fun hHeld => ?_)
          · exact ⟨HB9.out.frm HT2.out (fun h => h), HB14.out.frm HT2.out (fun h => h)⟩
          clear hK K
          (try dsimp only [Act.put]); try simp only [Act.put, List.setIfInBounds_toArray, List.set_cons_zero, List.set_cons_succ]
          refine takeD (i := 15) (some 50) (v := ?_) rfl rfl (by kernel_rfl) (by kernel_rfl) (by kernel_rfl) (fun _ _ _ h => h) (Or.inl ⟨by kernel_rfl, ?_⟩) (by assumption) ?_
          rotate_left
          · (intro w hSw; (try dsimp only at hSw); have hQa0 := (hSw.1.cell 0).trans (show _ = some (Value.string mp1) from rfl); have hQa1 := (hSw.1.cell 1).trans (show _ = some (Value.bool ex1) from rfl); have hQa2 := (hSw.1.cell 2).trans (show _ = some (Value.slice sa1 sn1 sc1) from rfl); have hQb0 := (hSw.2.cell 0).trans (show _ = some (Value.string mp1) from rfl); have hQb1 := (hSw.2.cell 1).trans (show _ = some (Value.bool ex1) from rfl); have hQb2 := (hSw.2.cell 2).trans (show _ = some (Value.slice none 0 0) from rfl); go_simp; try (with_reducible rfl))
          (try dsimp only [Act.put]); try simp only [Act.put, List.setIfInBounds_toArray, List.set_cons_zero, List.set_cons_succ]
          refine takeD (i := 16) (some 51) (v := ?_) rfl rfl (by kernel_rfl) (by kernel_rfl) (by kernel_rfl) (fun _ _ _ h => h) (Or.inl ⟨by kernel_rfl, ?_⟩) (by assumption) ?_
          rotate_left
          · (intro w hSw; (try dsimp only at hSw); have hQa0 := (hSw.1.cell 0).trans (show _ = some (Value.string mp1) from rfl); have hQa1 := (hSw.1.cell 1).trans (show _ = some (Value.bool ex1) from rfl); have hQa2 := (hSw.1.cell 2).trans (show _ = some (Value.slice sa1 sn1 sc1) from rfl); have hQb0 := (hSw.2.cell 0).trans (show _ = some (Value.string mp1) from rfl); have hQb1 := (hSw.2.cell 1).trans (show _ = some (Value.bool ex1) from rfl); have hQb2 := (hSw.2.cell 2).trans (show _ = some (Value.slice none 0 0) from rfl); go_simp; try (with_reducible rfl))
          (try dsimp only [Act.put]); try simp only [Act.put, List.setIfInBounds_toArray, List.set_cons_zero, List.set_cons_succ]
          refine wpAnyH_done (by kernel_rfl) ?_ _
          refine NoPanic.normal ?_
          go_wp2_with fail
          go_meet
          exact ⟨rfl, HT2.out⟩
        exact AllReadyH.nil
      exact AllReadyH.nil
    · obtain rfl : ob = true := Hfo.out rfl
      refine wp_region_noPanic ?_
      refine wp_region_held_drew (S := fun X => Blk X x1.heap.size #[.string mp1, .bool ex1, .slice sa1 sn1 sc1] 25 ∧ Blk X y5.heap.size #[.string mp1, .bool ex1, .slice none 0 0] 25) (by kernel_rfl) ?_ (fun hHeld => ?_)
      · exact ⟨HB9.out.frm (Frm.refl noB _).drew (fun h => h), HB14.out.frm (Frm.refl noB _).drew (fun h => h)⟩
      obtain ⟨u0, hu0⟩ : ∃ Wq, Wq = W7.drew := ⟨_, rfl⟩
      rw [← hu0] at hHeld ⊢
      have hgd : Frm noB W7 u0 := by rw [hu0]; exact (Frm.refl noB W7).drew
      have HT0 := Lib.hid (hgd)
      have hz0 := hgd.size
      clear hu0 hgd
      refine takeD (i := 0) (some 35) (v := ?_) rfl rfl (by kernel_rfl) (by kernel_rfl) (by kernel_rfl) (fun _ _ _ h => h) (Or.inl ⟨by kernel_rfl, ?_⟩) (by assumption) ?_
      rotate_left
      · (intro w hSw; (try dsimp only at hSw); have hQa0 := (hSw.1.cell 0).trans (show _ = some (Value.string mp1) from rfl); have hQa1 := (hSw.1.cell 1).trans (show _ = some (Value.bool ex1) from rfl); have hQa2 := (hSw.1.cell 2).trans (show _ = some (Value.slice sa1 sn1 sc1) from rfl); have hQb0 := (hSw.2.cell 0).trans (show _ = some (Value.string mp1) from rfl); have hQb1 := (hSw.2.cell 1).trans (show _ = some (Value.bool ex1) from rfl); have hQb2 := (hSw.2.cell 2).trans (show _ = some (Value.slice none 0 0) from rfl); go_simp; try (with_reducible rfl))
      (try dsimp only [Act.put]); try simp only [Act.put, List.setIfInBounds_toArray, List.set_cons_zero, List.set_cons_succ]
      refine takeD (i := 1) (some 36) (v := ?_) rfl rfl (by kernel_rfl) (by kernel_rfl) (by kernel_rfl) (fun _ _ _ h => h) (Or.inl ⟨by kernel_rfl, ?_⟩) (by assumption) ?_
      rotate_left
      · (intro w hSw; (try dsimp only at hSw); have hQa0 := (hSw.1.cell 0).trans (show _ = some (Value.string mp1) from rfl); have hQa1 := (hSw.1.cell 1).trans (show _ = some (Value.bool ex1) from rfl); have hQa2 := (hSw.1.cell 2).trans (show _ = some (Value.slice sa1 sn1 sc1) from rfl); have hQb0 := (hSw.2.cell 0).trans (show _ = some (Value.string mp1) from rfl); have hQb1 := (hSw.2.cell 1).trans (show _ = some (Value.bool ex1) from rfl); have hQb2 := (hSw.2.cell 2).trans (show _ = some (Value.slice none 0 0) from rfl); go_simp; try (with_reducible rfl))
      (try dsimp only [Act.put]); try simp only [Act.put, List.setIfInBounds_toArray, List.set_cons_zero, List.set_cons_succ]
      refine takeD (i := 2) (some 37) (v := ?_) rfl rfl (by kernel_rfl) (by kernel_rfl) (by kernel_rfl) (fun _ _ _ h => h) (Or.inl ⟨by kernel_rfl, ?_⟩) (by assumption) ?_
      rotate_left
      · (intro w hSw; (try dsimp only at hSw); have hQa0 := (hSw.1.cell 0).trans (show _ = some (Value.string mp1) from rfl); have hQa1 := (hSw.1.cell 1).trans (show _ = some (Value.bool ex1) from rfl); have hQa2 := (hSw.1.cell 2).trans (show _ = some (Value.slice sa1 sn1 sc1) from rfl); have hQb0 := (hSw.2.cell 0).trans (show _ = some (Value.string mp1) from rfl); have hQb1 := (hSw.2.cell 1).trans (show _ = some (Value.bool ex1) from rfl); have hQb2 := (hSw.2.cell 2).trans (show _ = some (Value.slice none 0 0) from rfl); go_simp; try (with_reducible rfl))
      (try dsimp only [Act.put]); try simp only [Act.put, List.setIfInBounds_toArray, List.set_cons_zero, List.set_cons_succ]
      refine takeD (i := 3) (some 38) (v := ?_) rfl rfl (by kernel_rfl) (by kernel_rfl) (by kernel_rfl) (fun _ _ _ h => h) (Or.inl ⟨by kernel_rfl, ?_⟩) (by assumption) ?_
      rotate_left
      · (intro w hSw; (try dsimp only at hSw); have hQa0 := (hSw.1.cell 0).trans (show _ = some (Value.string mp1) from rfl); have hQa1 := (hSw.1.cell 1).trans (show _ = some (Value.bool ex1) from rfl); have hQa2 := (hSw.1.cell 2).trans (show _ = some (Value.slice sa1 sn1 sc1) from rfl); have hQb0 := (hSw.2.cell 0).trans (show _ = some (Value.string mp1) from rfl); have hQb1 := (hSw.2.cell 1).trans (show _ = some (Value.bool ex1) from rfl); have hQb2 := (hSw.2.cell 2).trans (show _ = some (Value.slice none 0 0) from rfl); go_simp; try (with_reducible rfl))
      (try dsimp only [Act.put]); try simp only [Act.put, List.setIfInBounds_toArray, List.set_cons_zero, List.set_cons_succ]
      refine wpAnyH_ready (rs := [4]) (by kernel_rfl) (by simp) ?_
      refine AllReadyH.cons rfl (fun K hK => ?_) ?_
      · go_simp
        refine (Hon.out _ (HM7.out.keep HT0.out)).mono ?_
        rintro e u1 ⟨rfl, hg⟩
        have HT1 := Lib.hid (HT0.out.trans hg)
        have hz1 := hg.size
        clear hg
        go_wp2_with fail
        refine hK.out _ _ ?_ (fun hHeld => ?_)
        · exact ⟨HB9.out.frm HT1.out (fun h => h), HB14.out.frm HT1.out (fun h => h)⟩
        clear hK K
        (try dsimp only [Act.put]); try simp only [Act.put, List.setIfInBounds_toArray, List.set_cons_zero, List.set_cons_succ]
        refine takeD (i := 5) (some 40) (v := ?_) rfl rfl (by kernel_rfl) (by kernel_rfl) (by kernel_rfl) (fun _ _ _ h => h) (Or.inl ⟨by kernel_rfl, ?_⟩) (by assumption) ?_
        rotate_left
        · (intro w hSw; (try dsimp only at hSw); have hQa0 := (hSw.1.cell 0).trans (show _ = some (Value.string mp1) from rfl); have hQa1 := (hSw.1.cell 1).trans (show _ = some (Value.bool ex1) from rfl); have hQa2 := (hSw.1.cell 2).trans (show _ = some (Value.slice sa1 sn1 sc1) from rfl); have hQb0 := (hSw.2.cell 0).trans (show _ = some (Value.string mp1) from rfl); have hQb1 := (hSw.2.cell 1).trans (show _ = some (Value.bool ex1) from rfl); have hQb2 := (hSw.2.cell 2).trans (show _ = some (Value.slice none 0 0) from rfl); go_simp; try (with_reducible rfl))
        (try dsimp only [Act.put]); try simp only [Act.put, List.setIfInBounds_toArray, List.set_cons_zero, List.set_cons_succ]
        refine takeD (i := 6) (some 41) (v := ?_) rfl rfl (by kernel_rfl) (by kernel_rfl) (by kernel_rfl) (fun _ _ _ h => h) (Or.inl ⟨by kernel_rfl, ?_⟩) (by assumption) ?_
        rotate_left
        · (intro w hSw; (try dsimp only at hSw); have hQa0 := (hSw.1.cell 0).trans (show _ = some (Value.string mp1) from rfl); have hQa1 := (hSw.1.cell 1).trans (show _ = some (Value.bool ex1) from rfl); have hQa2 := (hSw.1.cell 2).trans (show _ = some (Value.slice sa1 sn1 sc1) from rfl); have hQb0 := (hSw.2.cell 0).trans (show _ = some (Value.string mp1) from rfl); have hQb1 := (hSw.2.cell 1).trans (show _ = some (Value.bool ex1) from rfl); have hQb2 := (hSw.2.cell 2).trans (show _ = some (Value.slice none 0 0) from rfl); go_simp; try (with_reducible rfl))
        (try dsimp only [Act.put]); try simp only [Act.put, List.setIfInBounds_toArray, List.set_cons_zero, List.set_cons_succ]
        refine takeD (i := 7) (some 42) (v := ?_) rfl rfl (by kernel_rfl) (by kernel_rfl) (by kernel_rfl) (fun _ _ _ h => h) (Or.inl ⟨by kernel_rfl, ?_⟩) (by assumption) ?_
        rotate_left
        · (intro w hSw; (try dsimp only at hSw); have hQa0 := (hSw.1.cell 0).trans (show _ = some (Value.string mp1) from rfl); have hQa1 := (hSw.1.cell 1).trans (show _ = some (Value.bool ex1) from rfl); have hQa2 := (hSw.1.cell 2).trans (show _ = some (Value.slice sa1 sn1 sc1) from rfl); have hQb0 := (hSw.2.cell 0).trans (show _ = some (Value.string mp1) from rfl); have hQb1 := (hSw.2.cell 1).trans (show _ = some (Value.bool ex1) from rfl); have hQb2 := (hSw.2.cell 2).trans (show _ = some (Value.slice none 0 0) from rfl); go_simp; try (with_reducible rfl))
        (try dsimp only [Act.put]); try simp only [Act.put, List.setIfInBounds_toArray, List.set_cons_zero, List.set_cons_succ]
        refine takeD (i := 8) (some 43) (v := ?_) rfl rfl (by kernel_rfl) (by kernel_rfl) (by kernel_rfl) (fun _ _ _ h => h) (Or.inl ⟨by kernel_rfl, ?_⟩) (by assumption) ?_
        rotate_left
        · (intro w hSw; (try dsimp only at hSw); have hQa0 := (hSw.1.cell 0).trans (show _ = some (Value.string mp1) from rfl); have hQa1 := (hSw.1.cell 1).trans (show _ = some (Value.bool ex1) from rfl); have hQa2 := (hSw.1.cell 2).trans (show _ = some (Value.slice sa1 sn1 sc1) from rfl); have hQb0 := (hSw.2.cell 0).trans (show _ = some (Value.string mp1) from rfl); have hQb1 := (hSw.2.cell 1).trans (show _ = some (Value.bool ex1) from rfl); have hQb2 := (hSw.2.cell 2).trans (show _ = some (Value.slice none 0 0) from rfl); go_simp; try (with_reducible rfl))
        (try dsimp only [Act.put]); try simp only [Act.put, List.setIfInBounds_toArray, List.set_cons_zero, List.set_cons_succ]
        refine takeD (i := 9) (some 44) (v := ?_) rfl rfl (by kernel_rfl) (by kernel_rfl) (by kernel_rfl) (fun _ _ _ h => h) (Or.inl ⟨by kernel_rfl, ?_⟩) (by assumption) ?_
        rotate_left
        · (intro w hSw; (try dsimp only at hSw); have hQa0 := (hSw.1.cell 0).trans (show _ = some (Value.string mp1) from rfl); have hQa1 := (hSw.1.cell 1).trans (show _ = some (Value.bool ex1) from rfl); have hQa2 := (hSw.1.cell 2).trans (show _ = some (Value.slice sa1 sn1 sc1) from rfl); have hQb0 := (hSw.2.cell 0).trans (show _ = some (Value.string mp1) from rfl); have hQb1 := (hSw.2.cell 1).trans (show _ = some (Value.bool ex1) from rfl); have hQb2 := (hSw.2.cell 2).trans (show _ = some (Value.slice none 0 0) from rfl); go_simp; try (with_reducible rfl))
        (try dsimp only [Act.put]); try simp only [Act.put, List.setIfInBounds_toArray, List.set_cons_zero, List.set_cons_succ]
        refine takeD (i := 10) (some 45) (v := ?_) rfl rfl (by kernel_rfl) (by kernel_rfl) (by kernel_rfl) (fun _ _ _ h => h) (Or.inl ⟨by kernel_rfl, ?_⟩) (by assumption) ?_
        rotate_left
        · (intro w hSw; (try dsimp only at hSw); have hQa0 := (hSw.1.cell 0).trans (show _ = some (Value.string mp1) from rfl); have hQa1 := (hSw.1.cell 1).trans (show _ = some (Value.bool ex1) from rfl); have hQa2 := (hSw.1.cell 2).trans (show _ = some (Value.slice sa1 sn1 sc1) from rfl); have hQb0 := (hSw.2.cell 0).trans (show _ = some (Value.string mp1) from rfl); have hQb1 := (hSw.2.cell 1).trans (show _ = some (Value.bool ex1) from rfl); have hQb2 := (hSw.2.cell 2).trans (show _ = some (Value.slice none 0 0) from rfl); go_simp; try (with_reducible rfl))
        (try dsimp only [Act.put]); try simp only [Act.put, List.setIfInBounds_toArray, List.set_cons_zero, List.set_cons_succ]
        refine takeD (i := 12) (some 47) (v := ?_) rfl rfl (by kernel_rfl) (by kernel_rfl) (by kernel_rfl) (fun _ _ _ h => h) (Or.inl ⟨by kernel_rfl, ?_⟩) (by assumption) ?_
        rotate_left
        · (intro w hSw; (try dsimp only at hSw); have hQa0 := (hSw.1.cell 0).trans (show _ = some (Value.string mp1) from rfl); have hQa1 := (hSw.1.cell 1).trans (show _ = some (Value.bool ex1) from rfl); have hQa2 := (hSw.1.cell 2).trans (show _ = some (Value.slice sa1 sn1 sc1) from rfl); have hQb0 := (hSw.2.cell 0).trans (show _ = some (Value.string mp1) from rfl); have hQb1 := (hSw.2.cell 1).trans (show _ = some (Value.bool ex1) from rfl); have hQb2 := (hSw.2.cell 2).trans (show _ = some (Value.slice none 0 0) from rfl); go_simp; try (with_reducible rfl))
        (try dsimp only [Act.put]); try simp only [Act.put, List.setIfInBounds_toArray, List.set_cons_zero, List.set_cons_succ]
        refine takeD (i := 13) (some 48) (v := ?_) rfl rfl (by kernel_rfl) (by kernel_rfl) (by kernel_rfl) (fun _ _ _ h => h) (Or.inl ⟨by kernel_rfl, ?_⟩) (by assumption) ?_
        rotate_left
        · (intro w hSw; (try dsimp only at hSw); have hQa0 := (hSw.1.cell 0).trans (show _ = some (Value.string mp1) from rfl); have hQa1 := (hSw.1.cell 1).trans (show _ = some (Value.bool ex1) from rfl); have hQa2 := (hSw.1.cell 2).trans (show _ = some (Value.slice sa1 sn1 sc1) from rfl); have hQb0 := (hSw.2.cell 0).trans (show _ = some (Value.string mp1) from rfl); have hQb1 := (hSw.2.cell 1).trans (show _ = some (Value.bool ex1) from rfl); have hQb2 := (hSw.2.cell 2).trans (show _ = some (Value.slice none 0 0) from rfl); go_simp; try (with_reducible rfl))
        (try dsimp only [Act.put]); try simp only [Act.put, List.setIfInBounds_toArray, List.set_cons_zero, List.set_cons_succ]
        refine wpAnyH_ready (rs := [11]) (by kernel_rfl) (by simp) ?_
        refine AllReadyH.cons rfl (fun K hK => ?_) ?_
        · go_simp
          refine (Hfr.out _ (HL7.out.keep HT1.out) (HM7.out.keep HT1.out)).mono ?_
          rintro e u2 ⟨rfl, hg⟩
          have HT2 := Lib.hid (HT1.out.trans hg)
          have hz2 := hg.size
          clear hg
          go_wp2_with fail
          refine hK.out _ _ ?_ (fun hHeld => ?_)
          · exact ⟨HB9.out.frm HT2.out (fun h => h), HB14.out.frm HT2.out (fun h => h)⟩
          clear hK K
          (try dsimp only [Act.put]); try simp only [Act.put, List.setIfInBounds_toArray, List.set_cons_zero, List.set_cons_succ]
          refine wpAnyH_ready (rs := [14]) (by kernel_rfl) (by simp) ?_
          refine AllReadyH.cons rfl (fun K hK => ?_) ?_
          · go_simp
            refine (Hon.out _ (HM7.out.keep HT2.out)).mono ?_
            rintro e u3 ⟨rfl, hg⟩
            have HT3 := Lib.hid (HT2.out.trans hg)
            have hz3 := hg.size
            clear hg
            go_wp2_with fail
            refine hK.out _ _ ?_ (fun hHeld => ?_)
            · exact ⟨HB9.out.frm HT3.out (fun h => h), HB14.out.frm HT3.out (fun h => h)⟩
            clear hK K
            (try dsimp only [Act.put]); try simp only [Act.put, List.setIfInBounds_toArray, List.set_cons_zero, List.set_cons_succ]
            refine takeD (i := 15) (some 50) (v := ?_) rfl rfl (by kernel_rfl) (by kernel_rfl) (by kernel_rfl) (fun _ _ _ h => h) (Or.inl ⟨by kernel_rfl, ?_⟩) (by assumption) ?_
            rotate_left
            · (intro w hSw; (try dsimp only at hSw); have hQa0 := (hSw.1.cell 0).trans (show _ = some (Value.string mp1) from rfl); have hQa1 := (hSw.1.cell 1).trans (show _ = some (Value.bool ex1) from rfl); have hQa2 := (hSw.1.cell 2).trans (show _ = some (Value.slice sa1 sn1 sc1) from rfl); have hQb0 := (hSw.2.cell 0).trans (show _ = some (Value.string mp1) from rfl); have hQb1 := (hSw.2.cell 1).trans (show _ = some (Value.bool ex1) from rfl); have hQb2 := (hSw.2.cell 2).trans (show _ = some (Value.slice none 0 0) from rfl); go_simp; try (with_reducible rfl))
            (try dsimp only [Act.put]); try simp only [Act.put, List.setIfInBounds_toArray, List.set_cons_zero, List.set_cons_succ]
            refine takeD (i := 16) (some 51) (v := ?_) rfl rfl (by kernel_rfl) (by kernel_rfl) (by kernel_rfl) (fun _ _ _ h => h) (Or.inl ⟨by kernel_rfl, ?_⟩) (by assumption) ?_
            rotate_left
            · (intro w hSw; (try dsimp only at hSw); have hQa0 := (hSw.1.cell 0).trans (show _ = some (Value.string mp1) from rfl); have hQa1 := (hSw.1.cell 1).trans (show _ = some (Value.bool ex1) from rfl); have hQa2 := (hSw.1.cell 2).trans (show _ = some (Value.slice sa1 sn1 sc1) from rfl); have hQb0 := (hSw.2.cell 0).trans (show _ = some (Value.string mp1) from rfl); have hQb1 := (hSw.2.cell 1).trans (show _ = some (Value.bool ex1) from rfl); have hQb2 := (hSw.2.cell 2).trans (show _ = some (Value.slice none 0 0) from rfl); go_simp; try (with_reducible rfl))
            (try dsimp only [Act.put]); try simp only [Act.put, List.setIfInBounds_toArray, List.set_cons_zero, List.set_cons_succ]
            refine wpAnyH_done (by kernel_rfl) ?_ _
            refine NoPanic.normal ?_
            go_wp2_with fail
            go_meet
            exact ⟨rfl, HT3.out⟩
          exact AllReadyH.nil
        exact AllReadyH.nil
      exact AllReadyH.nil
  case rest =>
    obtain ⟨rfl, hg8⟩ := hcut
    have HG8 := Lib.hid hg8
    have HB12 := Lib.hid (HB12.out.frm hg8 (fun h => h))
    have HB9 := Lib.hid (HB9.out.frm hg8 (fun h => h))
    have HL8 := Lib.hid (HL7.out.keep hg8)
    have HR8 := Lib.hid (HR7.out.keep hg8)
    have HS8 := Lib.hid (HS7.out.keep hg8)
    have HF8 := Lib.hid (HF7.out.trans hg8)
    clear hg8
    have n0 := (HB12.out.cell 0).trans (show _ = some (Value.string nm) from rfl)
    go_wp2_with fail
    refine (rget_hv _ LL nm _ HL8.out).mono ?_
    rintro e y9 ⟨rfl, hyy⟩
    subst hyy
    clear n0
    obtain ⟨has, hhas⟩ : ∃ v, v = hasN LL nm := ⟨_, rfl⟩
    rw [← hhas]
    have Hhas := Lib.hid hhas
    clear hhas
    go_upto_region 11 with fail
    obtain ⟨W8, hW8⟩ : ∃ W, W = wc := ⟨_, rfl⟩
    subst hW8
    go_cut [17] (fun s wx => HV wx s (LL ++ [⟨nm, vl⟩]) ∧ Frm noB W8 wx)
    case first =>
      have hlen : LL.length ≤ 8 := Hgl.out
      refine wp_region_noPanic ?_
      refine wp_region_held_drew (S := fun X => Blk X y4.heap.size #[.string nm, .string vl] 36) (by kernel_rfl) ?_ (fun hHeld => ?_)
      · exact HB12.out.frm (Frm.refl noB _).drew (fun h => h)
      obtain ⟨u0, hu0⟩ : ∃ Wq, Wq = W8.drew := ⟨_, rfl⟩
      rw [← hu0] at hHeld ⊢
      have hgd : Frm noB W8 u0 := by rw [hu0]; exact (Frm.refl noB W8).drew
      have HT0 := Lib.hid (hgd)
      have hz0 := hgd.size
      clear hu0 hgd
      refine takeD (i := 1) (some 60) (v := ?_) rfl rfl (by kernel_rfl) (by kernel_rfl) (by kernel_rfl) (fun _ _ _ h => h) (Or.inl ⟨by kernel_rfl, ?_⟩) (by assumption) ?_
      rotate_left
      · (intro w hSw; (try dsimp only at hSw); have hQa0 := (hSw.cell 0).trans (show _ = some (Value.string nm) from rfl); have hQa1 := (hSw.cell 1).trans (show _ = some (Value.string vl) from rfl); go_simp; try (with_reducible rfl))
      (try dsimp only [Act.put]); try simp only [Act.put, List.setIfInBounds_toArray, List.set_cons_zero, List.set_cons_succ]
      refine takeD (i := 3) (some 62) (v := ?_) rfl rfl (by kernel_rfl) (by kernel_rfl) (by kernel_rfl) (fun _ _ _ h => h) (Or.inl ⟨by kernel_rfl, ?_⟩) (by assumption) ?_
      rotate_left
      · (intro w hSw; (try dsimp only at hSw); have hQa0 := (hSw.cell 0).trans (show _ = some (Value.string nm) from rfl); have hQa1 := (hSw.cell 1).trans (show _ = some (Value.string vl) from rfl); go_simp; try (with_reducible rfl))
      (try dsimp only [Act.put]); try simp only [Act.put, List.setIfInBounds_toArray, List.set_cons_zero, List.set_cons_succ]
      refine wpAnyH_ready (rs := [0, 4]) (by kernel_rfl) (by simp) ?_
      refine AllReadyH.cons rfl (fun K hK => ?_) ?_
      · go_simp
        generalize hw : World.alloc u0 _ = u1
        have hg : Frm noB u0 u1 := by rw [← hw]; exact (Frm.refl noB u0).alloc _
        have HT1 := Lib.hid (HT0.out.trans hg)
        have hz1 := hg.size
        have rE_1 := Lib.hid (show Own hdE u1 W8.heap.size 36 (.slice (some ⟨u0.heap.size, 0, none⟩) 0 0) [] by rw [← hw]; exact own_lit hdE u0 36 [] _ rfl 0 rfl _ (by omega) (by omega))
        have hl1 : u0.heap.size < u1.heap.size := by rw [← hw]; simp
        clear hg hw
        refine hK.out _ _ ?_ (fun hHeld => ?_)
        · exact HB12.out.frm HT1.out (fun h => h)
        clear hK K
        (try dsimp only [Act.put]); try simp only [Act.put, List.setIfInBounds_toArray, List.set_cons_zero, List.set_cons_succ]
        refine wpAnyH_ready (rs := [2, 4]) (by kernel_rfl) (by simp) ?_
        refine AllReadyH.cons rfl (fun K hK => ?_) ?_
        · rw [if_pos (by rfl)]
          obtain ⟨iq, hiq, hz9, h19, h29⟩ := info_parts info_hd
          refine wp_appR hdE _ _ _ 23 (by rfl) W8.heap.size 36 iq _ 32 Tryd.underlying23 hiq hz9 h19 h29 rfl (by decide) (by omega) _ _ (by rfl) rE_1.out la ln lc LL (by rfl) (HR8.out.keep HT1.out) Hlsp.out (by simp; omega) (by omega) (fun v1 u2 ho hg hba => ?_)
          have HT2 := Lib.hid (HT1.out.new hg (fun k hk e => by have e2 : k = u0.heap.size := Option.some.inj e; omega))
          have hz2 := hg.size
          have rE_2 := Lib.hid ho
          clear ho hg hba
          change K (Act.put _ (some 61) _) _
          refine hK.out _ _ ?_ (fun hHeld => ?_)
          · exact HB12.out.frm HT2.out (fun h => h)
          clear hK K
          (try dsimp only [Act.put]); try simp only [Act.put, List.setIfInBounds_toArray, List.set_cons_zero, List.set_cons_succ]
          refine wpAnyH_ready (rs := [4]) (by kernel_rfl) (by simp) ?_
          refine AllReadyH.cons rfl (fun K hK => ?_) ?_
          · go_simp
            generalize hw : World.alloc u2 _ = u3
            have hg : Frm noB u2 u3 := by rw [← hw]; exact (Frm.refl noB u2).alloc _
            have HT3 := Lib.hid (HT2.out.trans hg)
            have rE_3 := Lib.hid (rE_2.out.frm hg (fun b hb e => e))
            have hz3 := hg.size
            have rL_3 := Lib.hid (show Blk u3 u2.heap.size #[.string nm, .string vl] 36 by rw [← hw]; exact Blk.made u2 _ _)
            have hl3 : u2.heap.size < u3.heap.size := by rw [← hw]; simp
            clear hg hw
            refine hK.out _ _ ?_ (fun hHeld => ?_)
            · exact HB12.out.frm HT3.out (fun h => h)
            clear hK K
            (try dsimp only [Act.put]); try simp only [Act.put, List.setIfInBounds_toArray, List.set_cons_zero, List.set_cons_succ]
            refine wpAnyH_ready (rs := [5]) (by kernel_rfl) (by simp) ?_
            refine AllReadyH.cons rfl (fun K hK => ?_) ?_
            · rw [if_pos (by rfl)]
              obtain ⟨iq, hiq, hz9, h19, h29⟩ := info_parts info_hd
              have hlo := fun k e => (rE_3.out.lt k e).1
              refine wp_app1g hdE _ _ _ 23 (by rfl) W8.heap.size 36 iq _ 32 Tryd.underlying23 hiq hz9 h19 h29 rfl (by decide) (by omega) _ _ (by rfl) rE_3.out ⟨nm, vl⟩ _ (by rfl) _ rL_3.out (by rfl) (by simp; omega) (by omega) (fun v2 u4 ho hg hba hn0 => ?_)
              have HT4 := Lib.hid (HT3.out.new hg (fun k hk e => by have e3 := hlo k e.symm; omega))
              have hz4 := hg.size
              have rE_4 := Lib.hid ho
              clear ho hg hba hn0 hlo
              change K (Act.put _ (some 64) _) _
              refine hK.out _ _ ?_ (fun hHeld => ?_)
              · exact HB12.out.frm HT4.out (fun h => h)
              clear hK K
              (try dsimp only [Act.put]); try simp only [Act.put, List.setIfInBounds_toArray, List.set_cons_zero, List.set_cons_succ]
              refine takeD (i := 6) (some 17) (v := ?_) rfl rfl (by kernel_rfl) (by kernel_rfl) (by kernel_rfl) (fun _ _ _ h => h) (Or.inl ⟨by kernel_rfl, ?_⟩) (by assumption) ?_
              rotate_left
              · (intro w hSw; (try dsimp only at hSw); have hQa0 := (hSw.cell 0).trans (show _ = some (Value.string nm) from rfl); have hQa1 := (hSw.cell 1).trans (show _ = some (Value.string vl) from rfl); go_simp; try (with_reducible rfl))
              (try dsimp only [Act.put]); try simp only [Act.put, List.setIfInBounds_toArray, List.set_cons_zero, List.set_cons_succ]
              refine wpAnyH_done (by kernel_rfl) ?_ _
              refine NoPanic.normal ?_
              go_wp2_with fail
              go_meet
              exact ⟨⟨_, rE_4.out⟩, HT4.out⟩
            exact AllReadyH.nil
          exact AllReadyH.nil
        refine AllReadyH.cons rfl (fun K hK => ?_) ?_
        · go_simp
          generalize hw : World.alloc u1 _ = u2
          have hg : Frm noB u1 u2 := by rw [← hw]; exact (Frm.refl noB u1).alloc _
          have HT2 := Lib.hid (HT1.out.trans hg)
          have rE_2 := Lib.hid (rE_1.out.frm hg (fun b hb e => e))
          have hz2 := hg.size
          have rL_2 := Lib.hid (show Blk u2 u1.heap.size #[.string nm, .string vl] 36 by rw [← hw]; exact Blk.made u1 _ _)
          have hl2 : u1.heap.size < u2.heap.size := by rw [← hw]; simp
          clear hg hw
          refine hK.out _ _ ?_ (fun hHeld => ?_)
          · exact HB12.out.frm HT2.out (fun h => h)
          clear hK K
          (try dsimp only [Act.put]); try simp only [Act.put, List.setIfInBounds_toArray, List.set_cons_zero, List.set_cons_succ]
          refine wpAnyH_ready (rs := [2]) (by kernel_rfl) (by simp) ?_
          refine AllReadyH.cons rfl (fun K hK => ?_) ?_
          · rw [if_pos (by rfl)]
            obtain ⟨iq, hiq, hz9, h19, h29⟩ := info_parts info_hd
            refine wp_appR hdE _ _ _ 23 (by rfl) W8.heap.size 36 iq _ 32 Tryd.underlying23 hiq hz9 h19 h29 rfl (by decide) (by omega) _ _ (by rfl) rE_2.out la ln lc LL (by rfl) (HR8.out.keep HT2.out) Hlsp.out (by simp; omega) (by omega) (fun v1 u3 ho hg hba => ?_)
            have HT3 := Lib.hid (HT2.out.new hg (fun k hk e => by have e2 : k = u0.heap.size := Option.some.inj e; omega))
            have rL_3 := Lib.hid (rL_2.out.frm hg (fun e => by have e2 : u1.heap.size = u0.heap.size := Option.some.inj e; omega))
            have hz3 := hg.size
            have rE_3 := Lib.hid ho
            clear ho hg hba
            change K (Act.put _ (some 61) _) _
            refine hK.out _ _ ?_ (fun hHeld => ?_)
            · exact HB12.out.frm HT3.out (fun h => h)
            clear hK K
            (try dsimp only [Act.put]); try simp only [Act.put, List.setIfInBounds_toArray, List.set_cons_zero, List.set_cons_succ]
            refine wpAnyH_ready (rs := [5]) (by kernel_rfl) (by simp) ?_
            refine AllReadyH.cons rfl (fun K hK => ?_) ?_
            · rw [if_pos (by rfl)]
              obtain ⟨iq, hiq, hz9, h19, h29⟩ := info_parts info_hd
              have hlo := fun k e => (rE_3.out.lt k e).1
              refine wp_app1g hdE _ _ _ 23 (by rfl) W8.heap.size 36 iq _ 32 Tryd.underlying23 hiq hz9 h19 h29 rfl (by decide) (by omega) _ _ (by rfl) rE_3.out ⟨nm, vl⟩ _ (by rfl) _ rL_3.out (by rfl) (by simp; omega) (by omega) (fun v2 u4 ho hg hba hn0 => ?_)
              have HT4 := Lib.hid (HT3.out.new hg (fun k hk e => by have e3 := hlo k e.symm; omega))
              have hz4 := hg.size
              have rE_4 := Lib.hid ho
              clear ho hg hba hn0 hlo
              change K (Act.put _ (some 64) _) _
              refine hK.out _ _ ?_ (fun hHeld => ?_)
              · exact HB12.out.frm HT4.out (fun h => h)
              clear hK K
              (try dsimp only [Act.put]); try simp only [Act.put, List.setIfInBounds_toArray, List.set_cons_zero, List.set_cons_succ]
              refine takeD (i := 6) (some 17) (v := ?_) rfl rfl (by kernel_rfl) (by kernel_rfl) (by kernel_rfl) (fun _ _ _ h => h) (Or.inl ⟨by kernel_rfl, ?_⟩) (by assumption) ?_
              rotate_left
              · (intro w hSw; (try dsimp only at hSw); have hQa0 := (hSw.cell 0).trans (show _ = some (Value.string nm) from rfl); have hQa1 := (hSw.cell 1).trans (show _ = some (Value.string vl) from rfl); go_simp; try (with_reducible rfl))
              (try dsimp only [Act.put]); try simp only [Act.put, List.setIfInBounds_toArray, List.set_cons_zero, List.set_cons_succ]
              refine wpAnyH_done (by kernel_rfl) ?_ _
              refine NoPanic.normal ?_
              go_wp2_with fail
              go_meet
              exact ⟨⟨_, rE_4.out⟩, HT4.out⟩
            exact AllReadyH.nil
          exact AllReadyH.nil
        exact AllReadyH.nil
      refine AllReadyH.cons rfl (fun K hK => ?_) ?_
      · go_simp
        generalize hw : World.alloc u0 _ = u1
        have hg : Frm noB u0 u1 := by rw [← hw]; exact (Frm.refl noB u0).alloc _
        have HT1 := Lib.hid (HT0.out.trans hg)
        have hz1 := hg.size
        have rL_1 := Lib.hid (show Blk u1 u0.heap.size #[.string nm, .string vl] 36 by rw [← hw]; exact Blk.made u0 _ _)
        have hl1 : u0.heap.size < u1.heap.size := by rw [← hw]; simp
        clear hg hw
        refine hK.out _ _ ?_ (fun hHeld => ?_)
        · exact HB12.out.frm HT1.out (fun h => h)
        clear hK K
        (try dsimp only [Act.put]); try simp only [Act.put, List.setIfInBounds_toArray, List.set_cons_zero, List.set_cons_succ]
        refine wpAnyH_ready (rs := [0]) (by kernel_rfl) (by simp) ?_
        refine AllReadyH.cons rfl (fun K hK => ?_) ?_
        · go_simp
          generalize hw : World.alloc u1 _ = u2
          have hg : Frm noB u1 u2 := by rw [← hw]; exact (Frm.refl noB u1).alloc _
          have HT2 := Lib.hid (HT1.out.trans hg)
          have rL_2 := Lib.hid (rL_1.out.frm hg (fun h => h))
          have hz2 := hg.size
          have rE_2 := Lib.hid (show Own hdE u2 W8.heap.size 36 (.slice (some ⟨u1.heap.size, 0, none⟩) 0 0) [] by rw [← hw]; exact own_lit hdE u1 36 [] _ rfl 0 rfl _ (by omega) (by omega))
          have hl2 : u1.heap.size < u2.heap.size := by rw [← hw]; simp
          clear hg hw
          refine hK.out _ _ ?_ (fun hHeld => ?_)
          · exact HB12.out.frm HT2.out (fun h => h)
          clear hK K
          (try dsimp only [Act.put]); try simp only [Act.put, List.setIfInBounds_toArray, List.set_cons_zero, List.set_cons_succ]
          refine wpAnyH_ready (rs := [2]) (by kernel_rfl) (by simp) ?_
          refine AllReadyH.cons rfl (fun K hK => ?_) ?_
          · rw [if_pos (by rfl)]
            obtain ⟨iq, hiq, hz9, h19, h29⟩ := info_parts info_hd
            refine wp_appR hdE _ _ _ 23 (by rfl) W8.heap.size 36 iq _ 32 Tryd.underlying23 hiq hz9 h19 h29 rfl (by decide) (by omega) _ _ (by rfl) rE_2.out la ln lc LL (by rfl) (HR8.out.keep HT2.out) Hlsp.out (by simp; omega) (by omega) (fun v1 u3 ho hg hba => ?_)
            have HT3 := Lib.hid (HT2.out.new hg (fun k hk e => by have e2 : k = u1.heap.size := Option.some.inj e; omega))
            have rL_3 := Lib.hid (rL_2.out.frm hg (fun e => by have e2 : u0.heap.size = u1.heap.size := Option.some.inj e; omega))
            have hz3 := hg.size
            have rE_3 := Lib.hid ho
            clear ho hg hba
            change K (Act.put _ (some 61) _) _
            refine hK.out _ _ ?_ (fun hHeld => ?_)
            · exact HB12.out.frm HT3.out (fun h => h)
            clear hK K
            (try dsimp only [Act.put]); try simp only [Act.put, List.setIfInBounds_toArray, List.set_cons_zero, List.set_cons_succ]
            refine wpAnyH_ready (rs := [5]) (by kernel_rfl) (by simp) ?_
            refine AllReadyH.cons rfl (fun K hK => ?_) ?_
            · rw [if_pos (by rfl)]
              obtain ⟨iq, hiq, hz9, h19, h29⟩ := info_parts info_hd
              have hlo := fun k e => (rE_3.out.lt k e).1
              refine wp_app1g hdE _ _ _ 23 (by rfl) W8.heap.size 36 iq _ 32 Tryd.underlying23 hiq hz9 h19 h29 rfl (by decide) (by omega) _ _ (by rfl) rE_3.out ⟨nm, vl⟩ _ (by rfl) _ rL_3.out (by rfl) (by simp; omega) (by omega) (fun v2 u4 ho hg hba hn0 => ?_)
              have HT4 := Lib.hid (HT3.out.new hg (fun k hk e => by have e3 := hlo k e.symm; omega))
              have hz4 := hg.size
              have rE_4 := Lib.hid ho
              clear ho hg hba hn0 hlo
              change K (Act.put _ (some 64) _) _
              refine hK.out _ _ ?_ (fun hHeld => ?_)
              · exact HB12.out.frm HT4.out (fun h => h)
              clear hK K
              (try dsimp only [Act.put]); try simp only [Act.put, List.setIfInBounds_toArray, List.set_cons_zero, List.set_cons_succ]
              refine takeD (i := 6) (some 17) (v := ?_) rfl rfl (by kernel_rfl) (by kernel_rfl) (by kernel_rfl) (fun _ _ _ h => h) (Or.inl ⟨by kernel_rfl, ?_⟩) (by assumption) ?_
              rotate_left
              · (intro w hSw; (try dsimp only at hSw); have hQa0 := (hSw.cell 0).trans (show _ = some (Value.string nm) from rfl); have hQa1 := (hSw.cell 1).trans (show _ = some (Value.string vl) from rfl); go_simp; try (with_reducible rfl))
              (try dsimp only [Act.put]); try simp only [Act.put, List.setIfInBounds_toArray, List.set_cons_zero, List.set_cons_succ]
              refine wpAnyH_done (by kernel_rfl) ?_ _
              refine NoPanic.normal ?_
              go_wp2_with fail
              go_meet
              exact ⟨⟨_, rE_4.out⟩, HT4.out⟩
            exact AllReadyH.nil
          exact AllReadyH.nil
        exact AllReadyH.nil
      exact AllReadyH.nil
    case rest =>
      obtain ⟨hm17, hg11⟩ := hcut
      obtain ⟨ma, mc, hme, _⟩ := hm17.shape
      obtain ⟨mn, hmn⟩ : ∃ n, n = (LL ++ [(⟨nm, vl⟩ : Hd)]).length := ⟨_, rfl⟩
      rw [← hmn] at hme
      subst hme
      have HW17 := Lib.hid hm17
      have HB12 := Lib.hid (HB12.out.frm hg11 (fun h => h))
      have HB9 := Lib.hid (HB9.out.frm hg11 (fun h => h))
      have HL9 := Lib.hid (HL8.out.keep hg11)
      have HS9 := Lib.hid (HS8.out.keep hg11)
      have HF9 := Lib.hid (HF8.out.trans hg11)
      have HM9 := Lib.hid (hmax.keep HF9.out)
      have Hmn := Lib.hid hmn
      clear hmn
      clear hg11 hm17
      go_upto_region 12 with fail
      obtain ⟨W9, hW9⟩ : ∃ W, W = wc := ⟨_, rfl⟩
      subst hW9
      go_cut [81] (fun s wx => s = .bool false ∧ Frm noB W9 wx)
      case first =>
        cases has
        · cases fb
          · go_wp2_with fail
            go_meet
            exact ⟨rfl, Frm.refl _ _⟩
          · by_cases h8 : ln < 8
            · have t8 := Lib.hid (show decide ((ln : Int) < 8) = true by simp; omega)
              have bL := HB9.out
              have hfm := Hfm2.out rfl
              subst hfm
              have t8' := t8.out
              go_wp2_with (refine wpl_load_blk (by rfl) 25 _ (by rfl) _ (by rfl) _ _ (by exact bL) _ Tryd.underlying25 (by rfl) (by exact info_match) ?_)
              refine (Hfm.out _ _ HS9.out HW17.out HM9.out).mono ?_
              rintro e y9 ⟨rfl, hg⟩
              have Hg9 := Lib.hid hg
              clear hg bL
              go_wp2_with fail
              go_meet
              exact ⟨rfl, Hg9.out⟩
            · have t8 : decide ((ln : Int) < 8) = false := by simp; omega
              have t9 : decide (ln < 8) = false := by simp; omega
              have H8 := Lib.hid h8
              clear h8
              go_wp2_with fail
              go_meet
              exact ⟨rfl, Frm.refl _ _⟩
        · go_wp2_with fail
          go_meet
          exact ⟨rfl, Frm.refl _ _⟩
      case rest =>
        obtain ⟨rfl, hg12⟩ := hcut
        have HB12 := Lib.hid (HB12.out.frm hg12 (fun h => h))
        have HB9 := Lib.hid (HB9.out.frm hg12 (fun h => h))
        have HL9 := Lib.hid (HL9.out.keep hg12)
        have HS9 := Lib.hid (HS9.out.keep hg12)
        have HF9 := Lib.hid (HF9.out.trans hg12)
        clear hg12
        have n0 := (HB12.out.cell 0).trans (show _ = some (Value.string nm) from rfl)
        have q2 := (HB9.out.cell 2).trans (show _ = some (Value.slice sa1 sn1 sc1) from rfl)
        go_wp2_with fail
        refine (rget_hv _ S1 nm _ HS9.out).mono ?_
        rintro e y9 ⟨rfl, hyy⟩
        subst hyy
        clear n0 q2
        obtain ⟨asked, hask⟩ : ∃ v, v = hasN S1 nm := ⟨_, rfl⟩
        rw [← hask]
        have Hask := Lib.hid hask
        clear hask
        obtain ⟨W14, hW14⟩ : ∃ W, W = wc := ⟨_, rfl⟩
        subst hW14
        have bL := HB9.out
        have HB20 := Lib.hid (Blk.made W14 #[.string mp1, .bool ex1, .slice sa1 sn1 sc1] 25)
        have HG15 := Lib.hid ((Frm.refl noB W14).alloc (.cells #[.string mp1, .bool ex1, .slice sa1 sn1 sc1] 25))
        go_upto_region 16 with (first | (refine wpl_load_blk (by rfl) 25 _ (by rfl) _ (by rfl) _ _ (by exact bL) _ Tryd.underlying25 (by rfl) (by exact info_match) ?_) | (refine wpl_store_new _ (by rfl) 25 _ _ (by rfl) _ (by rfl) (by first | rfl | simp) _ _ _ (by rfl) (by exact info_match) (by rfl) (by kernel_rfl) ?_))
        clear bL
        generalize W14.alloc (.cells #[.string mp1, .bool ex1, .slice sa1 sn1 sc1] 25) = W15 at *
        (try dsimp only [Act.put]); try simp only [Act.put, List.setIfInBounds_toArray, List.set_cons_zero, List.set_cons_succ]
        obtain ⟨ra, rc, hre, hrd1, hrc1, hrc2, hrsp⟩ := HS9.out.shape
        have hrn := Hsn1.out
        have hlen : S1.length ≤ 3 := Hls1.out
        have hsn3 : sn1 ≤ 3 := by rw [hrn]; exact hlen
        have hrd2 : ra = sa1 := by
          have := hre
          simp at this
          exact this.1.symm
        rw [hrd2] at hrd1
        have hrsp2 : ∀ x, sa1 = some x → x.spot = none := fun x hx => hrsp x (hrd2.trans hx)
        rw [← hrn] at hrd1
        clear hrd2
        have HRd := Lib.hid hrd1
        have Hrsp := Lib.hid hrsp2
        clear hre hrd1 hrc1 hrc2 hrsp hrsp2 hrn
        go_cut [97] (fun s wx => ∃ va vn vc, Blk wx W14.heap.size #[.string mp1, .bool ex1, .slice va vn vc] 25 ∧ HV wx (.slice va vn vc) (S1 ++ [⟨nm, vl⟩]) ∧ Frm noB W14 wx)
        case first =>
          have hz14 := HB20.out.lt
          refine wp_region_noPanic ?_
          refine wp_region_held_drew (S := fun X => Blk X y4.heap.size #[.string nm, .string vl] 36 ∧ Blk X x1.heap.size #[.string mp1, .bool ex1, .slice sa1 sn1 sc1] 25) (by kernel_rfl) ?_ (fun hHeld => ?_)
          · exact ⟨HB12.out.frm (HG15.out.trans (Frm.refl noB _).drew) (fun h => h), HB9.out.frm (HG15.out.trans (Frm.refl noB _).drew) (fun h => h)⟩
          obtain ⟨u0, hu0⟩ : ∃ Wq, Wq = W15.drew := ⟨_, rfl⟩
          rw [← hu0] at hHeld ⊢
          have hgd : Frm noB W15 u0 := by rw [hu0]; exact (Frm.refl noB W15).drew
          have HT0 := Lib.hid (HG15.out.trans hgd)
          have hz0 := hgd.size
          have hzb := HG15.out.size
          have rB20_0 := Lib.hid (HB20.out.frm hgd (fun h => h))
          clear hu0 hgd
          refine takeD (i := 1) (some 92) (v := ?_) rfl rfl (by kernel_rfl) (by kernel_rfl) (by kernel_rfl) (fun _ _ _ h => h) (Or.inl ⟨by kernel_rfl, ?_⟩) (by assumption) ?_
          rotate_left
          · (intro w hSw; (try dsimp only at hSw); have hQa0 := (hSw.1.cell 0).trans (show _ = some (Value.string nm) from rfl); have hQa1 := (hSw.1.cell 1).trans (show _ = some (Value.string vl) from rfl); have hQb2 := (hSw.2.cell 2).trans (show _ = some (Value.slice sa1 sn1 sc1) from rfl); go_simp; try (with_reducible rfl))
          (try dsimp only [Act.put]); try simp only [Act.put, List.setIfInBounds_toArray, List.set_cons_zero, List.set_cons_succ]
          refine takeD (i := 2) (some 93) (v := ?_) rfl rfl (by kernel_rfl) (by kernel_rfl) (by kernel_rfl) (fun _ _ _ h => h) (Or.inl ⟨by kernel_rfl, ?_⟩) (by assumption) ?_
          rotate_left
          · (intro w hSw; (try dsimp only at hSw); have hQa0 := (hSw.1.cell 0).trans (show _ = some (Value.string nm) from rfl); have hQa1 := (hSw.1.cell 1).trans (show _ = some (Value.string vl) from rfl); have hQb2 := (hSw.2.cell 2).trans (show _ = some (Value.slice sa1 sn1 sc1) from rfl); go_simp; try (with_reducible rfl))
          (try dsimp only [Act.put]); try simp only [Act.put, List.setIfInBounds_toArray, List.set_cons_zero, List.set_cons_succ]
          refine takeD (i := 4) (some 95) (v := ?_) rfl rfl (by kernel_rfl) (by kernel_rfl) (by kernel_rfl) (fun _ _ _ h => h) (Or.inl ⟨by kernel_rfl, ?_⟩) (by assumption) ?_
          rotate_left
          · (intro w hSw; (try dsimp only at hSw); have hQa0 := (hSw.1.cell 0).trans (show _ = some (Value.string nm) from rfl); have hQa1 := (hSw.1.cell 1).trans (show _ = some (Value.string vl) from rfl); have hQb2 := (hSw.2.cell 2).trans (show _ = some (Value.slice sa1 sn1 sc1) from rfl); go_simp; try (with_reducible rfl))
          (try dsimp only [Act.put]); try simp only [Act.put, List.setIfInBounds_toArray, List.set_cons_zero, List.set_cons_succ]
          refine wpAnyH_ready (rs := [0, 5]) (by kernel_rfl) (by simp) ?_
          refine AllReadyH.cons rfl (fun K hK => ?_) ?_
          · go_simp
            generalize hw : World.alloc u0 _ = u1
            have hg : Frm noB u0 u1 := by rw [← hw]; exact (Frm.refl noB u0).alloc _
            have HT1 := Lib.hid (HT0.out.trans hg)
            have rB20_1 := Lib.hid (rB20_0.out.frm hg (fun h => h))
            have hz1 := hg.size
            have rE_1 := Lib.hid (show Own hdE u1 W15.heap.size 36 (.slice (some ⟨u0.heap.size, 0, none⟩) 0 0) [] by rw [← hw]; exact own_lit hdE u0 36 [] _ rfl 0 rfl _ (by omega) (by omega))
            have hl1 : u0.heap.size < u1.heap.size := by rw [← hw]; simp
            clear hg hw
            refine hK.out _ _ ?_ (fun hHeld => ?_)
            · exact ⟨HB12.out.frm HT1.out (fun h => h), HB9.out.frm HT1.out (fun h => h)⟩
            clear hK K
            (try dsimp only [Act.put]); try simp only [Act.put, List.setIfInBounds_toArray, List.set_cons_zero, List.set_cons_succ]
            refine wpAnyH_ready (rs := [3, 5]) (by kernel_rfl) (by simp) ?_
            refine AllReadyH.cons rfl (fun K hK => ?_) ?_
            · rw [if_pos (by rfl)]
              obtain ⟨iq, hiq, hz9, h19, h29⟩ := info_parts info_hd
              refine wp_appR hdE _ _ _ 23 (by rfl) W15.heap.size 36 iq _ 32 Tryd.underlying23 hiq hz9 h19 h29 rfl (by decide) (by omega) _ _ (by rfl) rE_1.out sa1 sn1 sc1 S1 (by rfl) (HRd.out.keep HT1.out) Hrsp.out (by simp; omega) (by omega) (fun v1 u2 ho hg hba => ?_)
              have HT2 := Lib.hid (HT1.out.new hg (fun k hk e => by have e2 : k = u0.heap.size := Option.some.inj e; omega))
              have rB20_2 := Lib.hid (rB20_1.out.frm hg (fun e => by have e2 : W14.heap.size = u0.heap.size := Option.some.inj e; omega))
              have hz2 := hg.size
              have rE_2 := Lib.hid ho
              clear ho hg hba
              change K (Act.put _ (some 94) _) _
              refine hK.out _ _ ?_ (fun hHeld => ?_)
              · exact ⟨HB12.out.frm HT2.out (fun h => h), HB9.out.frm HT2.out (fun h => h)⟩
              clear hK K
              (try dsimp only [Act.put]); try simp only [Act.put, List.setIfInBounds_toArray, List.set_cons_zero, List.set_cons_succ]
              refine wpAnyH_ready (rs := [5]) (by kernel_rfl) (by simp) ?_
              refine AllReadyH.cons rfl (fun K hK => ?_) ?_
              · go_simp
                generalize hw : World.alloc u2 _ = u3
                have hg : Frm noB u2 u3 := by rw [← hw]; exact (Frm.refl noB u2).alloc _
                have HT3 := Lib.hid (HT2.out.trans hg)
                have rB20_3 := Lib.hid (rB20_2.out.frm hg (fun h => h))
                have rE_3 := Lib.hid (rE_2.out.frm hg (fun b hb e => e))
                have hz3 := hg.size
                have rL_3 := Lib.hid (show Blk u3 u2.heap.size #[.string nm, .string vl] 36 by rw [← hw]; exact Blk.made u2 _ _)
                have hl3 : u2.heap.size < u3.heap.size := by rw [← hw]; simp
                clear hg hw
                refine hK.out _ _ ?_ (fun hHeld => ?_)
                · exact ⟨HB12.out.frm HT3.out (fun h => h), HB9.out.frm HT3.out (fun h => h)⟩
                clear hK K
                (try dsimp only [Act.put]); try simp only [Act.put, List.setIfInBounds_toArray, List.set_cons_zero, List.set_cons_succ]
                refine wpAnyH_ready (rs := [6]) (by kernel_rfl) (by simp) ?_
                refine AllReadyH.cons rfl (fun K hK => ?_) ?_
                · rw [if_pos (by rfl)]
                  obtain ⟨iq, hiq, hz9, h19, h29⟩ := info_parts info_hd
                  have hlo := fun k e => (rE_3.out.lt k e).1
                  refine wp_app1g hdE _ _ _ 23 (by rfl) W15.heap.size 36 iq _ 32 Tryd.underlying23 hiq hz9 h19 h29 rfl (by decide) (by omega) _ _ (by rfl) rE_3.out ⟨nm, vl⟩ _ (by rfl) _ rL_3.out (by rfl) (by simp; omega) (by omega) (fun v2 u4 ho hg hba hn0 => ?_)
                  have HT4 := Lib.hid (HT3.out.new hg (fun k hk e => by have e3 := hlo k e.symm; omega))
                  have rB20_4 := Lib.hid (rB20_3.out.frm hg (fun e => by have e3 := hlo _ e.symm; omega))
                  have hz4 := hg.size
                  have rE_4 := Lib.hid ho
                  clear ho hg hba hn0 hlo
                  change K (Act.put _ (some 97) _) _
                  refine hK.out _ _ ?_ (fun hHeld => ?_)
                  · exact ⟨HB12.out.frm HT4.out (fun h => h), HB9.out.frm HT4.out (fun h => h)⟩
                  clear hK K
                  (try dsimp only [Act.put]); try simp only [Act.put, List.setIfInBounds_toArray, List.set_cons_zero, List.set_cons_succ]
                  refine takeD (i := 7) (some 98) (v := ?_) rfl rfl (by kernel_rfl) (by kernel_rfl) (by kernel_rfl) (fun _ _ _ h => h) (Or.inl ⟨by kernel_rfl, ?_⟩) (by assumption) ?_
                  rotate_left
                  · (intro w hSw; (try dsimp only at hSw); have hQa0 := (hSw.1.cell 0).trans (show _ = some (Value.string nm) from rfl); have hQa1 := (hSw.1.cell 1).trans (show _ = some (Value.string vl) from rfl); have hQb2 := (hSw.2.cell 2).trans (show _ = some (Value.slice sa1 sn1 sc1) from rfl); go_simp; try (with_reducible rfl))
                  (try dsimp only [Act.put]); try simp only [Act.put, List.setIfInBounds_toArray, List.set_cons_zero, List.set_cons_succ]
                  refine wpAnyH_ready (rs := [8]) (by kernel_rfl) (by simp) ?_
                  refine AllReadyH.cons rfl (fun K hK => ?_) ?_
                  · obtain ⟨va, vc, hvs, _⟩ := rE_4.out.shape
                    obtain ⟨vn, hvn⟩ : ∃ n, n = (([] ++ S1) ++ [(⟨nm, vl⟩ : Hd)]).length := ⟨_, rfl⟩
                    rw [← hvn] at hvs
                    subst hvs
                    clear hvn
                    have hq := rB20_4.out
                    have q2 := hq.cell 2
                    dsimp at q2
                    have qy := hq.free 2
                    have ql := hq.lt
                    go_simp
                    generalize hw : World.setCell u4 _ _ = u5
                    have hs : Blk u5 W14.heap.size #[.string mp1, .bool ex1, .slice va vn vc] 25 := by rw [← hw]; exact hq.set 2 _
                    have HT5 := Lib.hid (show Frm noB W14 u5 by rw [← hw]; exact HT4.out.setNew (by first | exact Nat.le_refl _ | (simp; omega)) _)
                    have hg : Frm (oneB (W14.heap.size)) u4 u5 := by rw [← hw]; exact (Frm.refl _ _).setOne _ _
                    have rE_5 := Lib.hid (rE_4.out.frm hg (fun b hb e => by have e3 := (rE_4.out.lt b hb).1; have e2 := (show _ = _ from e); omega))
                    have rB20_5 := Lib.hid hs
                    have hz5 := hg.size
                    clear hs hg hw hq q2 qy ql
                    refine hK.out _ _ ?_ (fun hHeld => ?_)
                    · exact ⟨HB12.out.frm HT5.out (fun h => h), HB9.out.frm HT5.out (fun h => h)⟩
                    clear hK K
                    (try dsimp only [Act.put]); try simp only [Act.put, List.setIfInBounds_toArray, List.set_cons_zero, List.set_cons_succ]
                    refine wpAnyH_done (by kernel_rfl) ?_ _
                    refine NoPanic.normal ?_
                    go_wp2_with fail
                    go_meet
                    exact ⟨va, vn, vc, rB20_5.out, ⟨_, rE_5.out⟩, HT5.out⟩
                  exact AllReadyH.nil
                exact AllReadyH.nil
              exact AllReadyH.nil
            refine AllReadyH.cons rfl (fun K hK => ?_) ?_
            · go_simp
              generalize hw : World.alloc u1 _ = u2
              have hg : Frm noB u1 u2 := by rw [← hw]; exact (Frm.refl noB u1).alloc _
              have HT2 := Lib.hid (HT1.out.trans hg)
              have rB20_2 := Lib.hid (rB20_1.out.frm hg (fun h => h))
              have rE_2 := Lib.hid (rE_1.out.frm hg (fun b hb e => e))
              have hz2 := hg.size
              have rL_2 := Lib.hid (show Blk u2 u1.heap.size #[.string nm, .string vl] 36 by rw [← hw]; exact Blk.made u1 _ _)
              have hl2 : u1.heap.size < u2.heap.size := by rw [← hw]; simp
              clear hg hw
              refine hK.out _ _ ?_ (fun hHeld => ?_)
              · exact ⟨HB12.out.frm HT2.out (fun h => h), HB9.out.frm HT2.out (fun h => h)⟩
              clear hK K
              (try dsimp only [Act.put]); try simp only [Act.put, List.setIfInBounds_toArray, List.set_cons_zero, List.set_cons_succ]
              refine wpAnyH_ready (rs := [3]) (by kernel_rfl) (by simp) ?_
              refine AllReadyH.cons rfl (fun K hK => ?_) ?_
              · rw [if_pos (by rfl)]
                obtain ⟨iq, hiq, hz9, h19, h29⟩ := info_parts info_hd
                refine wp_appR hdE _ _ _ 23 (by rfl) W15.heap.size 36 iq _ 32 Tryd.underlying23 hiq hz9 h19 h29 rfl (by decide) (by omega) _ _ (by rfl) rE_2.out sa1 sn1 sc1 S1 (by rfl) (HRd.out.keep HT2.out) Hrsp.out (by simp; omega) (by omega) (fun v1 u3 ho hg hba => ?_)
                have HT3 := Lib.hid (HT2.out.new hg (fun k hk e => by have e2 : k = u0.heap.size := Option.some.inj e; omega))
                have rB20_3 := Lib.hid (rB20_2.out.frm hg (fun e => by have e2 : W14.heap.size = u0.heap.size := Option.some.inj e; omega))
                have rL_3 := Lib.hid (rL_2.out.frm hg (fun e => by have e2 : u1.heap.size = u0.heap.size := Option.some.inj e; omega))
                have hz3 := hg.size
                have rE_3 := Lib.hid ho
                clear ho hg hba
                change K (Act.put _ (some 94) _) _
                refine hK.out _ _ ?_ (fun hHeld => ?_)
                · exact ⟨HB12.out.frm HT3.out (fun h => h), HB9.out.frm HT3.out (fun h => h)⟩
                clear hK K
                (try dsimp only [Act.put]); try simp only [Act.put, List.setIfInBounds_toArray, List.set_cons_zero, List.set_cons_succ]
                refine wpAnyH_ready (rs := [6]) (by kernel_rfl) (by simp) ?_
                refine AllReadyH.cons rfl (fun K hK => ?_) ?_
                · rw [if_pos (by rfl)]
                  obtain ⟨iq, hiq, hz9, h19, h29⟩ := info_parts info_hd
                  have hlo := fun k e => (rE_3.out.lt k e).1
                  refine wp_app1g hdE _ _ _ 23 (by rfl) W15.heap.size 36 iq _ 32 Tryd.underlying23 hiq hz9 h19 h29 rfl (by decide) (by omega) _ _ (by rfl) rE_3.out ⟨nm, vl⟩ _ (by rfl) _ rL_3.out (by rfl) (by simp; omega) (by omega) (fun v2 u4 ho hg hba hn0 => ?_)
                  have HT4 := Lib.hid (HT3.out.new hg (fun k hk e => by have e3 := hlo k e.symm; omega))
                  have rB20_4 := Lib.hid (rB20_3.out.frm hg (fun e => by have e3 := hlo _ e.symm; omega))
                  have hz4 := hg.size
                  have rE_4 := Lib.hid ho
                  clear ho hg hba hn0 hlo
                  change K (Act.put _ (some 97) _) _
                  refine hK.out _ _ ?_ (fun hHeld => ?_)
                  · exact ⟨HB12.out.frm HT4.out (fun h => h), HB9.out.frm HT4.out (fun h => h)⟩
                  clear hK K
                  (try dsimp only [Act.put]); try simp only [Act.put, List.setIfInBounds_toArray, List.set_cons_zero, List.set_cons_succ]
                  refine takeD (i := 7) (some 98) (v := ?_) rfl rfl (by kernel_rfl) (by kernel_rfl) (by kernel_rfl) (fun _ _ _ h => h) (Or.inl ⟨by kernel_rfl, ?_⟩) (by assumption) ?_
                  rotate_left
                  · (intro w hSw; (try dsimp only at hSw); have hQa0 := (hSw.1.cell 0).trans (show _ = some (Value.string nm) from rfl); have hQa1 := (hSw.1.cell 1).trans (show _ = some (Value.string vl) from rfl); have hQb2 := (hSw.2.cell 2).trans (show _ = some (Value.slice sa1 sn1 sc1) from rfl); go_simp; try (with_reducible rfl))
                  (try dsimp only [Act.put]); try simp only [Act.put, List.setIfInBounds_toArray, List.set_cons_zero, List.set_cons_succ]
                  refine wpAnyH_ready (rs := [8]) (by kernel_rfl) (by simp) ?_
                  refine AllReadyH.cons rfl (fun K hK => ?_) ?_
                  · obtain ⟨va, vc, hvs, _⟩ := rE_4.out.shape
                    obtain ⟨vn, hvn⟩ : ∃ n, n = (([] ++ S1) ++ [(⟨nm, vl⟩ : Hd)]).length := ⟨_, rfl⟩
                    rw [← hvn] at hvs
                    subst hvs
                    clear hvn
                    have hq := rB20_4.out
                    have q2 := hq.cell 2
                    dsimp at q2
                    have qy := hq.free 2
                    have ql := hq.lt
                    go_simp
                    generalize hw : World.setCell u4 _ _ = u5
                    have hs : Blk u5 W14.heap.size #[.string mp1, .bool ex1, .slice va vn vc] 25 := by rw [← hw]; exact hq.set 2 _
                    have HT5 := Lib.hid (show Frm noB W14 u5 by rw [← hw]; exact HT4.out.setNew (by first | exact Nat.le_refl _ | (simp; omega)) _)
                    have hg : Frm (oneB (W14.heap.size)) u4 u5 := by rw [← hw]; exact (Frm.refl _ _).setOne _ _
                    have rE_5 := Lib.hid (rE_4.out.frm hg (fun b hb e => by have e3 := (rE_4.out.lt b hb).1; have e2 := (show _ = _ from e); omega))
                    have rB20_5 := Lib.hid hs
                    have hz5 := hg.size
                    clear hs hg hw hq q2 qy ql
                    refine hK.out _ _ ?_ (fun hHeld => ?_)
                    · exact ⟨HB12.out.frm HT5.out (fun h => h), HB9.out.frm HT5.out (fun h => h)⟩
                    clear hK K
                    (try dsimp only [Act.put]); try simp only [Act.put, List.setIfInBounds_toArray, List.set_cons_zero, List.set_cons_succ]
                    refine wpAnyH_done (by kernel_rfl) ?_ _
                    refine NoPanic.normal ?_
                    go_wp2_with fail
                    go_meet
                    exact ⟨va, vn, vc, rB20_5.out, ⟨_, rE_5.out⟩, HT5.out⟩
                  exact AllReadyH.nil
                exact AllReadyH.nil
              exact AllReadyH.nil
            exact AllReadyH.nil
          refine AllReadyH.cons rfl (fun K hK => ?_) ?_
          · go_simp
            generalize hw : World.alloc u0 _ = u1
            have hg : Frm noB u0 u1 := by rw [← hw]; exact (Frm.refl noB u0).alloc _
            have HT1 := Lib.hid (HT0.out.trans hg)
            have rB20_1 := Lib.hid (rB20_0.out.frm hg (fun h => h))
            have hz1 := hg.size
            have rL_1 := Lib.hid (show Blk u1 u0.heap.size #[.string nm, .string vl] 36 by rw [← hw]; exact Blk.made u0 _ _)
            have hl1 : u0.heap.size < u1.heap.size := by rw [← hw]; simp
            clear hg hw
            refine hK.out _ _ ?_ (fun hHeld => ?_)
            · exact ⟨HB12.out.frm HT1.out (fun h => h), HB9.out.frm HT1.out (fun h => h)⟩
            clear hK K
            (try dsimp only [Act.put]); try simp only [Act.put, List.setIfInBounds_toArray, List.set_cons_zero, List.set_cons_succ]
            refine wpAnyH_ready (rs := [0]) (by kernel_rfl) (by simp) ?_
            refine AllReadyH.cons rfl (fun K hK => ?_) ?_
            · go_simp
              generalize hw : World.alloc u1 _ = u2
              have hg : Frm noB u1 u2 := by rw [← hw]; exact (Frm.refl noB u1).alloc _
              have HT2 := Lib.hid (HT1.out.trans hg)
              have rB20_2 := Lib.hid (rB20_1.out.frm hg (fun h => h))
              have rL_2 := Lib.hid (rL_1.out.frm hg (fun h => h))
              have hz2 := hg.size
              have rE_2 := Lib.hid (show Own hdE u2 W15.heap.size 36 (.slice (some ⟨u1.heap.size, 0, none⟩) 0 0) [] by rw [← hw]; exact own_lit hdE u1 36 [] _ rfl 0 rfl _ (by omega) (by omega))
              have hl2 : u1.heap.size < u2.heap.size := by rw [← hw]; simp
              clear hg hw
              refine hK.out _ _ ?_ (fun hHeld => ?_)
              · exact ⟨HB12.out.frm HT2.out (fun h => h), HB9.out.frm HT2.out (fun h => h)⟩
              clear hK K
              (try dsimp only [Act.put]); try simp only [Act.put, List.setIfInBounds_toArray, List.set_cons_zero, List.set_cons_succ]
              refine wpAnyH_ready (rs := [3]) (by kernel_rfl) (by simp) ?_
              refine AllReadyH.cons rfl (fun K hK => ?_) ?_
              · rw [if_pos (by rfl)]
                obtain ⟨iq, hiq, hz9, h19, h29⟩ := info_parts info_hd
                refine wp_appR hdE _ _ _ 23 (by rfl) W15.heap.size 36 iq _ 32 Tryd.underlying23 hiq hz9 h19 h29 rfl (by decide) (by omega) _ _ (by rfl) rE_2.out sa1 sn1 sc1 S1 (by rfl) (HRd.out.keep HT2.out) Hrsp.out (by simp; omega) (by omega) (fun v1 u3 ho hg hba => ?_)
                have HT3 := Lib.hid (HT2.out.new hg (fun k hk e => by have e2 : k = u1.heap.size := Option.some.inj e; omega))
                have rB20_3 := Lib.hid (rB20_2.out.frm hg (fun e => by have e2 : W14.heap.size = u1.heap.size := Option.some.inj e; omega))
                have rL_3 := Lib.hid (rL_2.out.frm hg (fun e => by have e2 : u0.heap.size = u1.heap.size := Option.some.inj e; omega))
                have hz3 := hg.size
                have rE_3 := Lib.hid ho
                clear ho hg hba
                change K (Act.put _ (some 94) _) _
                refine hK.out _ _ ?_ (fun hHeld => ?_)
                · exact ⟨HB12.out.frm HT3.out (fun h => h), HB9.out.frm HT3.out (fun h => h)⟩
                clear hK K
                (try dsimp only [Act.put]); try simp only [Act.put, List.setIfInBounds_toArray, List.set_cons_zero, List.set_cons_succ]
                refine wpAnyH_ready (rs := [6]) (by kernel_rfl) (by simp) ?_
                refine AllReadyH.cons rfl (fun K hK => ?_) ?_
                · rw [if_pos (by rfl)]
                  obtain ⟨iq, hiq, hz9, h19, h29⟩ := info_parts info_hd
                  have hlo := fun k e => (rE_3.out.lt k e).1
                  refine wp_app1g hdE _ _ _ 23 (by rfl) W15.heap.size 36 iq _ 32 Tryd.underlying23 hiq hz9 h19 h29 rfl (by decide) (by omega) _ _ (by rfl) rE_3.out ⟨nm, vl⟩ _ (by rfl) _ rL_3.out (by rfl) (by simp; omega) (by omega) (fun v2 u4 ho hg hba hn0 => ?_)
                  have HT4 := Lib.hid (HT3.out.new hg (fun k hk e => by have e3 := hlo k e.symm; omega))
                  have rB20_4 := Lib.hid (rB20_3.out.frm hg (fun e => by have e3 := hlo _ e.symm; omega))
                  have hz4 := hg.size
                  have rE_4 := Lib.hid ho
                  clear ho hg hba hn0 hlo
                  change K (Act.put _ (some 97) _) _
                  refine hK.out _ _ ?_ (fun hHeld => ?_)
                  · exact ⟨HB12.out.frm HT4.out (fun h => h), HB9.out.frm HT4.out (fun h => h)⟩
                  clear hK K
                  (try dsimp only [Act.put]); try simp only [Act.put, List.setIfInBounds_toArray, List.set_cons_zero, List.set_cons_succ]
                  refine takeD (i := 7) (some 98) (v := ?_) rfl rfl (by kernel_rfl) (by kernel_rfl) (by kernel_rfl) (fun _ _ _ h => h) (Or.inl ⟨by kernel_rfl, ?_⟩) (by assumption) ?_
                  rotate_left
                  · (intro w hSw; (try dsimp only at hSw); have hQa0 := (hSw.1.cell 0).trans (show _ = some (Value.string nm) from rfl); have hQa1 := (hSw.1.cell 1).trans (show _ = some (Value.string vl) from rfl); have hQb2 := (hSw.2.cell 2).trans (show _ = some (Value.slice sa1 sn1 sc1) from rfl); go_simp; try (with_reducible rfl))
                  (try dsimp only [Act.put]); try simp only [Act.put, List.setIfInBounds_toArray, List.set_cons_zero, List.set_cons_succ]
                  refine wpAnyH_ready (rs := [8]) (by kernel_rfl) (by simp) ?_
                  refine AllReadyH.cons rfl (fun K hK => ?_) ?_
                  · obtain ⟨va, vc, hvs, _⟩ := rE_4.out.shape
                    obtain ⟨vn, hvn⟩ : ∃ n, n = (([] ++ S1) ++ [(⟨nm, vl⟩ : Hd)]).length := ⟨_, rfl⟩
                    rw [← hvn] at hvs
                    subst hvs
                    clear hvn
                    have hq := rB20_4.out
                    have q2 := hq.cell 2
                    dsimp at q2
                    have qy := hq.free 2
                    have ql := hq.lt
                    go_simp
                    generalize hw : World.setCell u4 _ _ = u5
                    have hs : Blk u5 W14.heap.size #[.string mp1, .bool ex1, .slice va vn vc] 25 := by rw [← hw]; exact hq.set 2 _
                    have HT5 := Lib.hid (show Frm noB W14 u5 by rw [← hw]; exact HT4.out.setNew (by first | exact Nat.le_refl _ | (simp; omega)) _)
                    have hg : Frm (oneB (W14.heap.size)) u4 u5 := by rw [← hw]; exact (Frm.refl _ _).setOne _ _
                    have rE_5 := Lib.hid (rE_4.out.frm hg (fun b hb e => by have e3 := (rE_4.out.lt b hb).1; have e2 := (show _ = _ from e); omega))
                    have rB20_5 := Lib.hid hs
                    have hz5 := hg.size
                    clear hs hg hw hq q2 qy ql
                    refine hK.out _ _ ?_ (fun hHeld => ?_)
                    · exact ⟨HB12.out.frm HT5.out (fun h => h), HB9.out.frm HT5.out (fun h => h)⟩
                    clear hK K
                    (try dsimp only [Act.put]); try simp only [Act.put, List.setIfInBounds_toArray, List.set_cons_zero, List.set_cons_succ]
                    refine wpAnyH_done (by kernel_rfl) ?_ _
                    refine NoPanic.normal ?_
                    go_wp2_with fail
                    go_meet
                    exact ⟨va, vn, vc, rB20_5.out, ⟨_, rE_5.out⟩, HT5.out⟩
                  exact AllReadyH.nil
                exact AllReadyH.nil
              exact AllReadyH.nil
            exact AllReadyH.nil
          exact AllReadyH.nil
        case rest =>
          obtain ⟨va, vn, vc, hB, hv, hg⟩ := hcut
          have HB20 := Lib.hid hB
          have HV20 := Lib.hid hv
          have HL9 := Lib.hid (HL9.out.keep hg)
          have HF9 := Lib.hid (HF9.out.trans hg)
          have HM9 := Lib.hid (hmax.keep HF9.out)
          clear hB hv hg
          cases asked
          · have bL := HB20.out
            go_wp2_with (refine wpl_load_blk (by rfl) 25 _ (by rfl) _ (by rfl) _ _ (by exact bL) _ Tryd.underlying25 (by rfl) (by exact info_match) ?_)
            refine (Hfs.out _ _ HV20.out HL9.out HM9.out).mono ?_
            rintro e y20 ⟨rfl, hg⟩
            have HF20 := Lib.hid (HF9.out.trans hg)
            have HM20 := Lib.hid (HM9.out.keep hg)
            clear hg bL
            cases fs
            · go_wp2_with fail
              refine (mlives_any _ HM20.out).mono ?_
              rintro e y21 ⟨rfl, hg⟩
              have HF21 := Lib.hid (HF20.out.trans hg)
              clear hg
              go_wp2_with fail
              go_ret
              exact ⟨rfl, HF21.out.below (Nat.le_refl _) (fun _ _ h => h)⟩
            · have hfb := Hfs2.out rfl
              subst hfb
              go_wp2_with fail
              refine (mlives_any _ HM20.out).mono ?_
              rintro e y21 ⟨rfl, hg⟩
              have HF21 := Lib.hid (HF20.out.trans hg)
              clear hg
              go_wp2_with fail
              go_ret
              exact ⟨rfl, HF21.out.below (Nat.le_refl _) (fun _ _ h => h)⟩
          · go_wp2_with fail
            refine (mlives_any _ HM9.out).mono ?_
            rintro e y21 ⟨rfl, hg⟩
            have HF21 := Lib.hid (HF9.out.trans hg)
            clear hg
            go_wp2_with fail
            go_ret
            exact ⟨rfl, HF21.out.below (Nat.le_refl _) (fun _ _ h => h)⟩
end Go.Proofs.YtjehdldjfnaniaaDoor
