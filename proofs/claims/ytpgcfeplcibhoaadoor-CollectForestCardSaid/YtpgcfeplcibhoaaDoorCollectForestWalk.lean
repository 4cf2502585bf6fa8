/- The walk of the statement CollectForest. (Printed by gencol7.py.) -/
import Derived.Test.YtpgcfeplcibhoaaDoorColForestP
import Derived.Test.YtpgcfeplcibhoaaDoorColPrint
import Derived.Test.YtpgcfeplcibhoaaDoorColRSpans
import Derived.Test.YtpgcfeplcibhoaaDoorColLives
import Derived.Test.YtpgcfeplcibhoaaDoorColWithin
import Derived.Test.YtpgcfeplcibhoaaDoorColRTree
import Derived.Test.YtpgcfeplcibhoaaDoorColRTake
import Derived.Test.YtpgcfeplcibhoaaDoorColRPrint
import Derived.Test.YtpgcfeplcibhoaaDoorTraceUp
import Derived.Test.YtpgcfeplcibhoaaDoorIntsL
import Derived.Deep.RegionLaw
import Derived.Deep.RegionHeld3
import Derived.Deep.DeepCutAuto
import Derived.StillTailTactics
import Derived.RegionTactic
set_option linter.unusedVariables false
set_option linter.unusedSimpArgs false
namespace Go.Proofs.YtpgcfeplcibhoaaDoor
open Go.RowKit

set_option maxRecDepth 100000 in
set_option maxHeartbeats 8000000 in
theorem collectForest_walk (a0 : Option Addr) (len0 cap0 : Nat) (z0 : List Int) (a1 : Int) (w : World) (w0 : IsRow .i64 w a0 len0 cap0 z0) (w1 : (Lit.int .i64 a1).wf = true) :
    Calls Tryd.prog 5 #[.slice a0 len0 cap0, .int .i64 a1] w fun e w' => e = .returned (.bool true) ∧ Below w.heap.size w w' := by
  obtain ⟨xs, hxs⟩ := w0.list
  have Hxs := Lib.hid hxs
  clear hxs
  clear w0
  have bq := wf_i64 w1
  obtain ⟨kq, hkq⟩ : ∃ k, k = around a1 3 := ⟨_, rfl⟩
  have hkq3 : kq < 3 := by have := around_lt a1 3 (by omega); omega
  have hca := fun W => around_any a1 3 W bq.1 bq.2 (by omega) (by omega)
  simp only [← hkq] at hca
  obtain ⟨wz, hwz⟩ : ∃ W : World, W = w.alloc (.cells #[.int .i64 1, .int .i64 2, .int .i64 11] 3) := ⟨_, rfl⟩
  have hpc := pick_cell w kq hkq3
  have Hfz : Hid (Frm noB w wz) := Lib.hid (by rw [hwz]; exact (Frm.refl noB w).alloc _)
  have hlz : w.heap.size < wz.heap.size := by rw [hwz]; simp
  rw [← hwz] at hpc
  obtain ⟨R, hR⟩ : ∃ R, R = pick3 kq := ⟨_, rfl⟩
  rw [← hR] at hpc
  have HRq : Hid (IsReq R) := Lib.hid (by rw [hR]; exact pick_req kq)
  have Hca := Lib.hid hca
  have HR := Lib.hid hR
  have Hwz := Lib.hid hwz
  have Hbq := Lib.hid bq
  have Hkq := Lib.hid hkq
  clear hca hR hwz bq hkq
  go_enter Tryd.func5, Tryd.ntmps5
  go_upto_region 2 with (go_at_call 21; refine (Hca.out _).mono ?_; rintro e w' ⟨rfl, rfl⟩; rw [← Hwz.out])
  clear hpc
  have hgs := goods30 xs
  have hls := spans30_len xs
  have hspc := rspans_any a0 len0 cap0 xs wz (Hxs.out.keep Hfz.out)
  obtain ⟨L, hL⟩ : ∃ L, L = spans30 xs := ⟨_, rfl⟩
  rw [← hL] at hgs hls hspc
  have hwfR : (Lit.int .i64 R).wf = true := WalkArith.wf_i64 (by have := HRq.out.bd; omega)
  obtain ⟨C, hC⟩ : ∃ C, C = L.foldl takeL [] := ⟨_, rfl⟩
  have hoC : Once C := by rw [hC]; exact once_col L
  have hgC : ∀ s ∈ C, GoodS s := by rw [hC]; exact col_good hgs
  have hlC : C.length ≤ 16 := by rw [hC]; have := col_len L []; simp only [List.length_nil] at this; omega
  have hTl := treeL_len hgC R
  obtain ⟨T, hT⟩ : ∃ T, T = treeL C R := ⟨_, rfl⟩
  have Hgs := Lib.hid hgs
  have Hls := Lib.hid hls
  have Hspc := Lib.hid hspc
  have HoC := Lib.hid hoC
  have HgC := Lib.hid hgC
  have HwfR := Lib.hid hwfR
  clear hgs hls hspc hoC hgC hwfR
  have hnL : ∀ s ∈ L, s.name.size ≤ 1000 := fun s hs => by have := goods_size (Hgs.out s hs); omega
  have htr := fun W b O (h : ColIs W b C L.length O) => tree_is b L.length C O R W h HoC.out HgC.out (by omega) HwfR.out
  rw [← hT] at htr hTl
  have hTn : T.length ≤ 300 := by omega
  have HnL := Lib.hid hnL
  have Htr := Lib.hid htr
  have HTn := Lib.hid hTn
  have HlC := Lib.hid hlC
  have HC := Lib.hid hC
  have HT := Lib.hid hT
  clear hnL htr hTn hlC hC hT
  clear hTl
  go_upto_region 3 with (first
    | (go_at_call 11; refine Hspc.out.mono ?_; rintro e w1 ⟨v1, rfl, ho1, hf1⟩; have Ho1 := Lib.hid ho1; have Hf1 := Lib.hid (Hfz.out.trans hf1); clear ho1 hf1)
    | (go_at_call 22; refine (taken_any wz.heap.size v1 L w1 Ho1.out (by have := Hls.out; omega) HnL.out).mono ?_; rintro e w2 ⟨b2, O2, rfl, hc2, hf2, _⟩; rw [← HC.out] at hc2; have Hc2 := Lib.hid hc2; have Hf2 := Lib.hid (Hf1.out.trans hf2); clear hc2 hf2)
    | (go_at_call 14; refine (Htr.out w2 b2 O2 Hc2.out).mono ?_; rintro e w3 ⟨v3, rfl, ho3, hf3⟩; have Ho3 := Lib.hid ho3; have Hf3 := Lib.hid (Hf2.out.trans hf3); clear ho3 hf3))
  obtain ⟨ta, tc, htv, _, htg⟩ := Ho3.out.shape
  obtain ⟨n, hn⟩ : ∃ n, n = T.length := ⟨_, rfl⟩
  rw [← hn] at htv htg
  subst htv
  have hn3 : n ≤ 300 := by rw [hn]; exact HTn.out
  have Hn := Lib.hid hn
  have Htg := Lib.hid htg
  clear hn htg
  go_wp2_with fail
  go_loopw [4, 7, 8, 9] (fun r i u q wr => ∃ k : Nat, k ≤ n ∧ r = .bool false ∧ i = .int .i64 k ∧ wr = w3) (fun _ i _ _ _ => n - (intOf i).toNat)
  case atStart => exact ⟨0, by omega, rfl, rfl, rfl⟩
  case round =>
    obtain ⟨k, hk, rfl, rfl, hwr⟩ := hrel
    subst hwr
    by_cases hlt : k < n
    · obtain ⟨x, hx⟩ := get_of_lt (l := T) (j := k) (by rw [← Hn.out]; exact hlt)
      obtain ⟨g, rfl, _, hgw⟩ := Htg.out (by omega)
      have c0 := (nod_cells Ho3.out hx).1
      have hxT : isT (fndS C) R x := (tree_mem HoC.out R x).1 (by rw [← HT.out]; exact List.mem_of_getElem? hx)
      obtain ⟨hgx, hrx⟩ := isT_good HgC.out hxT
      have hq1 := (goodB_req hgx).1
      rw [hrx] at hq1
      have hxz : x.name.size ≤ 16 := by have := hgx.len; rwa [ba_len] at this
      have hup := fun W => up_any x.name W (by omega)
      have hrup := fun W => rup_any x.name W (by omega)
      have hreq := fun W => rreq_any x.name W (by omega)
      rw [← hq1] at hreq
      have hself := at_place (by rw [HT.out]; exact tree_srt C R) hx
      have hfu : upL x.name.data.toList ≠ [] → 0 ≤ atL T (bs (upL x.name.data.toList)) ∧ atL T (bs (upL x.name.data.toList)) < (k : Int) := fun h => by
        have := forest_up HoC.out HgC.out (r := R) (i := k) (x := x) (by rw [← HT.out]; exact hx) h
        rw [HT.out]; exact this
      obtain ⟨u, hu⟩ : ∃ u, u = upL x.name.data.toList := ⟨_, rfl⟩
      rw [← hu] at hfu
      simp only [← hu] at hup hrup
      have ha1 := fun W (hW : Frm noB wr W) => at_any w2.heap.size _ T (bs u) W (Ho3.out.keep hW) (by have := HTn.out; omega)
      have ha2 := fun W (hW : Frm noB wr W) => at_any w2.heap.size _ T x.name W (Ho3.out.keep hW) (by have := HTn.out; omega)
      rw [hself] at ha2
      obtain ⟨q, hq⟩ : ∃ q, q = atL T (bs u) := ⟨_, rfl⟩
      simp only [← hq] at ha1 hfu
      obtain ⟨U, hU⟩ : ∃ U, U = bs u := ⟨_, rfl⟩
      have hstU : (U.toList == U.toList) = true := str_yes rfl
      have hstU2 : (U.toList != U.toList) = false := by rw [bne, hstU]; rfl
      simp only [← hU] at hup hrup ha1
      by_cases hue : u = []
      · have he : U.toList.isEmpty = true := by rw [hU]; exact bs_empty hue
        have Hx := Lib.hid hx
        have HxT := Lib.hid hxT
        have Hgx := Lib.hid hgx
        have Hrx := Lib.hid hrx
        have Hq1 := Lib.hid hq1
        have Hup := Lib.hid hup
        have Hrup := Lib.hid hrup
        have Hreq := Lib.hid hreq
        have Hself := Lib.hid hself
        have Hfu := Lib.hid hfu
        have Hu := Lib.hid hu
        have Ha1 := Lib.hid ha1
        have Ha2 := Lib.hid ha2
        have Hq := Lib.hid hq
        have HU := Lib.hid hU
        have Hue := Lib.hid hue
        clear hx hxT hgx hrx hq1 hup hrup hreq hself hfu hu ha1 ha2 hq hU hue
        go_wp2_with (first
          | (go_at_call 24; (with_reducible refine (Hup.out _).mono ?_); rintro e w' ⟨rfl, rfl⟩)
          | (go_at_call 27; (with_reducible refine (Hrup.out _).mono ?_); rintro e w' ⟨rfl, rfl⟩)
          | (go_at_call 26; (with_reducible refine (Hreq.out _).mono ?_); rintro e w' ⟨rfl, rfl⟩)
          | (go_at_call 25; (with_reducible refine (Ha1.out _ (Frm.refl _ _)).mono ?_); rintro e w' ⟨rfl, rfl⟩)
          | (go_at_call 25; (with_reducible refine (Ha2.out _ (Frm.refl _ _)).mono ?_); rintro e w' ⟨rfl, rfl⟩))
        go_roundw
        case rel => exact ⟨k + 1, by omega, rfl, by go_num, by first | rfl | trivial⟩
        case measure => simp [intOf]; omega
      · have he : U.toList.isEmpty = false := by rw [hU]; exact bs_full hue
        obtain ⟨hq0, hqk⟩ := hfu hue
        have Hx := Lib.hid hx
        have HxT := Lib.hid hxT
        have Hgx := Lib.hid hgx
        have Hrx := Lib.hid hrx
        have Hq1 := Lib.hid hq1
        have Hup := Lib.hid hup
        have Hrup := Lib.hid hrup
        have Hreq := Lib.hid hreq
        have Hself := Lib.hid hself
        have Hfu := Lib.hid hfu
        have Hu := Lib.hid hu
        have Ha1 := Lib.hid ha1
        have Ha2 := Lib.hid ha2
        have Hq := Lib.hid hq
        have HU := Lib.hid hU
        have Hue := Lib.hid hue
        clear hx hxT hgx hrx hq1 hup hrup hreq hself hfu hu ha1 ha2 hq hU hue
        go_wp2_with (first
          | (go_at_call 24; (with_reducible refine (Hup.out _).mono ?_); rintro e w' ⟨rfl, rfl⟩)
          | (go_at_call 27; (with_reducible refine (Hrup.out _).mono ?_); rintro e w' ⟨rfl, rfl⟩)
          | (go_at_call 26; (with_reducible refine (Hreq.out _).mono ?_); rintro e w' ⟨rfl, rfl⟩)
          | (go_at_call 25; (with_reducible refine (Ha1.out _ (Frm.refl _ _)).mono ?_); rintro e w' ⟨rfl, rfl⟩)
          | (go_at_call 25; (with_reducible refine (Ha2.out _ (Frm.refl _ _)).mono ?_); rintro e w' ⟨rfl, rfl⟩))
        go_roundw
        case rel => exact ⟨k + 1, by omega, rfl, by go_num, by first | rfl | trivial⟩
        case measure => simp [intOf]; omega
    · obtain rfl : k = n := by omega
      go_wp2_with (go_at_call 20; refine (clives_any _).mono ?_; rintro e w9 ⟨rfl, hf9⟩; have Hf9 := Lib.hid (Hf3.out.trans hf9); clear hf9)
      go_ret
      exact ⟨rfl, Hf9.out.below (Nat.le_refl _) (fun _ _ h => h)⟩
end Go.Proofs.YtpgcfeplcibhoaaDoor
