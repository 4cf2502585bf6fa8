/- The walk of the statement CollectApart. (Printed by gencol7.py.) -/
import Derived.Test.YtpgcfeplcibhoaaDoorColForestP
import Derived.Test.YtpgcfeplcibhoaaDoorColPrint
import Derived.Test.YtpgcfeplcibhoaaDoorColRSpans
import Derived.Test.YtpgcfeplcibhoaaDoorColLives
import Derived.Test.YtpgcfeplcibhoaaDoorColWithin
import Derived.Test.YtpgcfeplcibhoaaDoorColRTree
import Derived.Test.YtpgcfeplcibhoaaDoorColRTake
import Derived.Test.YtpgcfeplcibhoaaDoorColRPrint
import Derived.Test.YtpgcfeplcibhoaaDoorTraceUp
import Derived.Test.YtpgcfeplcibhoaaDoorIntsL
import Derived.Deep.RegionLaw
import Derived.Deep.RegionHeld3
import Derived.Deep.DeepCutAuto
import Derived.StillTailTactics
import Derived.RegionTactic
set_option linter.unusedVariables false
set_option linter.unusedSimpArgs false
namespace Go.Proofs.YtpgcfeplcibhoaaDoor
open Go.RowKit

theorem fnd_own {L : List Spn} {r : Int} (k : List UInt8) : fndS (L.filter (isR r)) k = if rq30 k = r then fndS L k else none := by
  induction L with
  | nil => simp [fndS]
  | cons x L ih =>
    unfold fndS at *
    rw [List.filter_cons]
    by_cases hx : nmB x = k
    · have e : isR r x = decide (rq30 k = r) := by unfold isR; rw [hx]; exact (Bool.beq_eq_decide_eq _ _)
      by_cases hr : rq30 k = r
      · rw [e, decide_eq_true hr, if_pos rfl, if_pos hr]
        simp [hx]
      · rw [e, decide_eq_false hr, if_neg (by decide), if_neg hr, ih, if_neg hr]
    · have hb : (nmB x == k) = false := by simp [hx]
      cases isR r x
      · rw [if_neg (by decide), ih, List.find?_cons, hb]
      · rw [if_pos rfl, List.find?_cons, hb, ih, List.find?_cons, hb]
theorem apart_tree {L : List Spn} (hG : ∀ s ∈ L, GoodS s) (r : Int) : treeL (L.foldl takeL []) r = treeL ((L.filter (isR r)).foldl takeL []) r := by
  refine srt_ext _ _ (tree_srt _ _) (tree_srt _ _) (fun x => ?_)
  rw [tree_mem (once_fold _ _ List.Pairwise.nil), tree_mem (once_fold _ _ List.Pairwise.nil)]
  have h1 : fndS (L.foldl takeL []) = fndS L := funext fun k => fnd_col L k
  have h2 : fndS ((L.filter (isR r)).foldl takeL []) = fun k => if rq30 k = r then fndS L k else none := funext fun k => by rw [← fnd_own]; exact fnd_col _ k
  rw [h1, h2]
  constructor
  · intro hx
    obtain ⟨hg, hr⟩ := isT_good hG hx
    have hq : rq30 x.name.data.toList = r := by rw [← (goodB_req hg).1]; exact hr
    rcases hx with ⟨a1, a2, a3⟩ | ⟨a1, a2, a3, s, hs, hsr, hu⟩
    · exact .inl ⟨a1, by simp only [hq, if_true]; exact a2, a3⟩
    · obtain ⟨hm, _⟩ := fndS_some hs
      refine .inr ⟨a1, a2, by simp only [hq, if_true]; exact a3, s, ?_, hsr, hu⟩
      have : rq30 (nmB s) = r := by rw [← (goodB_req (hG s hm).nm).1]; exact hsr
      simp only [this, if_true]; exact hs
  · rintro (⟨a1, a2, a3⟩ | ⟨a1, a2, a3, s, hs, hsr, hu⟩)
    · refine .inl ⟨a1, ?_, a3⟩
      simp only at a2
      split at a2
      · exact a2
      · simp at a2
    · simp only at hs a3
      split at hs
      · obtain ⟨hm, _⟩ := fndS_some hs
        have hg := goodB_ups (hG s hm).nm hu
        have hq : rq30 x.name.data.toList = r := by rw [← (goodB_req hg).1, ups_req30 (hG s hm).nm hu]; exact hsr
        rw [if_pos hq] at a3
        exact .inr ⟨a1, a2, a3, s, hs, hsr, hu⟩
      · simp at hs
theorem apart_none {L : List Spn} (hG : ∀ s ∈ L, GoodS s) (r r' : Int) (hr : r ≠ r') : treeL ((L.filter (isR r)).foldl takeL []) r' = [] := by
  apply List.eq_nil_iff_forall_not_mem.2
  intro x hx
  have hx := (tree_mem (once_fold _ _ List.Pairwise.nil) r' x).1 hx
  have hG2 : ∀ s ∈ (L.filter (isR r)).foldl takeL [], GoodS s ∧ rqS s = r := fun s hs => by
    rcases col_mem _ [] s hs with h1 | h1
    · simp at h1
    · rw [List.mem_filter] at h1
      exact ⟨hG s h1.1, (req_isR (hG s h1.1) r).1 h1.2⟩
  rcases hx with ⟨a1, a2, a3⟩ | ⟨a1, a2, a3, s, hs, hsr, hu⟩
  · obtain ⟨hm, hn⟩ := fndS_some a2
    have := (hG2 _ hm).2
    unfold rqS at this
    rw [hn, a3] at this
    exact hr this.symm
  · obtain ⟨hm, hn⟩ := fndS_some hs
    have := (hG2 _ hm).2
    rw [hsr] at this
    exact hr this.symm
theorem filt_snoc {L : List Spn} {k : Nat} {x : Spn} (hk : L[k]? = some x) (r : Int) : (L.take (k + 1)).filter (isR r) = if isR r x then (L.take k).filter (isR r) ++ [x] else (L.take k).filter (isR r) := by
  rw [List.take_add_one, hk, List.filter_append]
  cases h : isR r x <;> simp [h]
set_option maxRecDepth 100000 in
set_option maxHeartbeats 8000000 in
theorem collectApart_walk (a0 : Option Addr) (len0 cap0 : Nat) (z0 : List Int) (a1 : Int) (w : World) (w0 : IsRow .i64 w a0 len0 cap0 z0) (w1 : (Lit.int .i64 a1).wf = true) :
    Calls Tryd.prog 9 #[.slice a0 len0 cap0, .int .i64 a1] w fun e w' => e = .returned (.bool true) ∧ Below w.heap.size w w' := by
  obtain ⟨xs, hxs⟩ := w0.list
  have Hxs := Lib.hid hxs
  clear hxs
  clear w0
  have bq := wf_i64 w1
  obtain ⟨kq, hkq⟩ : ∃ k, k = around a1 3 := ⟨_, rfl⟩
  have hkq3 : kq < 3 := by have := around_lt a1 3 (by omega); omega
  have hca := fun W => around_any a1 3 W bq.1 bq.2 (by omega) (by omega)
  simp only [← hkq] at hca
  obtain ⟨wz, hwz⟩ : ∃ W : World, W = w.alloc (.cells #[.int .i64 1, .int .i64 2, .int .i64 11] 3) := ⟨_, rfl⟩
  have hpc := pick_cell w kq hkq3
  have Hfz : Hid (Frm noB w wz) := Lib.hid (by rw [hwz]; exact (Frm.refl noB w).alloc _)
  have hlz : w.heap.size < wz.heap.size := by rw [hwz]; simp
  rw [← hwz] at hpc
  obtain ⟨R, hR⟩ : ∃ R, R = pick3 kq := ⟨_, rfl⟩
  rw [← hR] at hpc
  have HRq : Hid (IsReq R) := Lib.hid (by rw [hR]; exact pick_req kq)
  have Hca := Lib.hid hca
  have HR := Lib.hid hR
  have Hwz := Lib.hid hwz
  have Hbq := Lib.hid bq
  have Hkq := Lib.hid hkq
  clear hca hR hwz bq hkq
  go_enter Tryd.func9, Tryd.ntmps9
  go_upto_region 2 with (go_at_call 21; refine (Hca.out _).mono ?_; rintro e w' ⟨rfl, rfl⟩; rw [← Hwz.out])
  clear hpc
  have hgs := goods30 xs
  have hls := spans30_len xs
  have hspc := rspans_any a0 len0 cap0 xs wz (Hxs.out.keep Hfz.out)
  obtain ⟨L, hL⟩ : ∃ L, L = spans30 xs := ⟨_, rfl⟩
  rw [← hL] at hgs hls hspc
  have hwfR : (Lit.int .i64 R).wf = true := WalkArith.wf_i64 (by have := HRq.out.bd; omega)
  have Hgs := Lib.hid hgs
  have Hls := Lib.hid hls
  have Hspc := Lib.hid hspc
  have HwfR := Lib.hid hwfR
  clear hgs hls hspc hwfR
  have hnL : ∀ s ∈ L, s.name.size ≤ 1000 := fun s hs => by have := goods_size (Hgs.out s hs); omega
  have HnL := Lib.hid hnL
  clear hnL
  go_upto_region 3 with (go_at_call 11; (with_reducible refine (Hspc.out).mono ?_); rintro e u1 ⟨v1, rfl, ho1, hf1⟩; have Ho1 := Lib.hid ho1; have Hfu1 := Lib.hid (Hfz.out.trans hf1); clear ho1 hf1)
  obtain ⟨ta, tc, htv, _, htg⟩ := Ho1.out.shape
  obtain ⟨n, hn⟩ : ∃ n, n = L.length := ⟨_, rfl⟩
  rw [← hn] at htv htg
  subst htv
  have hn3 : n ≤ 16 := by rw [hn]; exact Hls.out
  have Hn := Lib.hid hn
  have Htg := Lib.hid htg
  clear hn htg
  go_wp2_with fail
  go_loopw [7, 8] (fun o i wr => ∃ k : Nat, k ≤ n ∧ i = .int .i64 k ∧ Own spnE wr u1.heap.size 30 o ((L.take k).filter (isR R)) ∧ Frm noB u1 wr) (fun _ i _ => n - (intOf i).toNat)
  case atStart => exact ⟨0, by omega, rfl, Own.nil _ _ _ _, Frm.refl _ _⟩
  case round =>
    obtain ⟨k, hk, rfl, ho, hf⟩ := hrel
    by_cases hlt : k < n
    · obtain ⟨x, hx⟩ := get_of_lt (l := L) (j := k) (by rw [← Hn.out]; exact hlt)
      obtain ⟨g, rfl, _, hgl⟩ := Htg.out (by omega)
      have hgx := Hgs.out x (List.mem_of_getElem? hx)
      have hxs9 := goods_size hgx
      obtain ⟨c0, c1, c2, c3, c4, c5⟩ := spn_cells (Ho1.out.keep hf) hx
      have hgw : g < wr.heap.size := Nat.lt_of_lt_of_le hgl hf.size
      have hsn := filt_snoc hx R
      have hreq := fun W => rreq_any x.name W (by omega)
      obtain ⟨rx, hrx⟩ : ∃ q, q = rq30 x.name.data.toList := ⟨_, rfl⟩
      simp only [← hrx] at hreq
      have hix : isR R x = (rx == R) := by rw [hrx]; rfl
      have hol : ((L.take k).filter (isR R)).length ≤ 1000000 := Nat.le_trans (List.length_filter_le _ _) (by rw [List.length_take]; have := Hls.out; omega)
      have hbs := hf.size
      obtain ⟨oa, oc, ov, _, _⟩ := ho.shape
      obtain ⟨N, hN⟩ : ∃ N, N = ((L.take k).filter (isR R)).length := ⟨_, rfl⟩
      rw [← hN] at ov
      subst ov
      by_cases hq : rx = R
      · have hrr : (rx == R) = true := by simpa using hq
        rw [hix, hrr, if_pos rfl] at hsn
        obtain ⟨x0, x1, x2, x3, x4, x5⟩ := x
        simp only at c0 c1 c2 c3 c4 c5 hreq hxs9
        have Ho := Lib.hid ho
        have Hf := Lib.hid hf
        have Hx := Lib.hid hx
        have Hgx := Lib.hid hgx
        have Hsn := Lib.hid hsn
        have Hol := Lib.hid hol
        have Hrx := Lib.hid hrx
        have Hix := Lib.hid hix
        have Hq := Lib.hid hq
        have Hbs := Lib.hid hbs
        have Hreq := Lib.hid hreq
        have Hxs9 := Lib.hid hxs9
        have HN := Lib.hid hN
        clear ho hf hx hgx hsn hol hrx hix hq hbs hreq hxs9 hN
        go_wp2_with (first
          | (go_at_call 26; refine (Hreq.out _).mono ?_; rintro e w' ⟨rfl, rfl⟩)
          | (at_builtin; refine app_spn wr rfl _ _ (by rfl) u1.heap.size _ _ (by rfl) Ho.out ⟨x0, x1, x2, x3, x4, x5⟩ _ (by rfl) _ rfl (by rfl) Hol.out Hbs.out ?_; intro v' w2 ho2 _ hf2 _ _; have Ho2 := Lib.hid ho2; have Hf2 := Lib.hid (Hf.out.new hf2 (fun i hi e => by have := (Ho.out.lt i e.symm).1; omega)); clear ho2 hf2))
        go_roundw
        case rel => exact ⟨k + 1, by omega, by go_num, by rw [Hsn.out]; exact Ho2.out, Hf2.out⟩
        case measure => simp [intOf]; omega
      · have hrr : (rx == R) = false := by simpa using hq
        rw [hix, hrr, if_neg (by decide)] at hsn
        rw [← hsn] at ho
        have Ho := Lib.hid ho
        have Hf := Lib.hid hf
        have Hx := Lib.hid hx
        have Hgx := Lib.hid hgx
        have Hsn := Lib.hid hsn
        have Hol := Lib.hid hol
        have Hrx := Lib.hid hrx
        have Hix := Lib.hid hix
        have Hq := Lib.hid hq
        have Hbs := Lib.hid hbs
        have Hreq := Lib.hid hreq
        have Hxs9 := Lib.hid hxs9
        have HN := Lib.hid hN
        clear ho hf hx hgx hsn hol hrx hix hq hbs hreq hxs9 hN
        go_wp2_with (go_at_call 26; refine (Hreq.out _).mono ?_; rintro e w' ⟨rfl, rfl⟩)
        go_roundw
        case rel => exact ⟨k + 1, by omega, by go_num, Ho.out, Hf.out⟩
        case measure => simp [intOf]; omega
    · obtain rfl : k = n := by omega
      rw [List.take_of_length_le (by rw [← Hn.out]; exact Nat.le_refl _)] at ho
      have hA := apart_tree Hgs.out R
      have hB := apart_none Hgs.out R (R + 20) (by omega)
      obtain ⟨M, hM⟩ : ∃ M, M = L.filter (isR R) := ⟨_, rfl⟩
      rw [← hM] at ho hA hB
      have hlM : M.length ≤ 16 := by rw [hM]; exact Nat.le_trans (List.length_filter_le _ _) Hls.out
      have hgM : ∀ s ∈ M, GoodS s := fun s hs => Hgs.out s (by rw [hM] at hs; exact (List.mem_filter.1 hs).1)
      have hnM : ∀ s ∈ M, s.name.size ≤ 1000 := fun s hs => by have := goods_size (hgM s hs); omega
      obtain ⟨C, hC⟩ : ∃ C, C = L.foldl takeL [] := ⟨_, rfl⟩
      obtain ⟨D, hD⟩ : ∃ C, C = M.foldl takeL [] := ⟨_, rfl⟩
      have hoC : Once C := by rw [hC]; exact once_col L
      have hgC : ∀ s ∈ C, GoodS s := by rw [hC]; exact col_good Hgs.out
      have hlC : C.length ≤ 16 := by rw [hC]; have := col_len L []; simp only [List.length_nil] at this; have := Hls.out; omega
      have hoD : Once D := by rw [hD]; exact once_col M
      have hgD : ∀ s ∈ D, GoodS s := by rw [hD]; exact col_good hgM
      have hlD : D.length ≤ 16 := by rw [hD]; have := col_len M []; simp only [List.length_nil] at this; omega
      rw [← hC, ← hD] at hA
      rw [← hD] at hB
      have hTl := treeL_len hgD R
      have hwfR2 : (Lit.int .i64 (R + 20)).wf = true := WalkArith.wf_i64 (by have := HRq.out.bd; omega)
      have ht1 := fun W b O (h : ColIs W b C L.length O) => tree_is b L.length C O R W h hoC hgC (by omega) HwfR.out
      have ht2 := fun W b O (h : ColIs W b D M.length O) => tree_is b M.length D O R W h hoD hgD (by omega) HwfR.out
      have ht3 := fun W b O (h : ColIs W b D M.length O) => tree_is b M.length D O (R + 20) W h hoD hgD (by omega) hwfR2
      rw [hA] at ht1
      rw [hB] at ht3
      obtain ⟨T, hT⟩ : ∃ T, T = treeL D R := ⟨_, rfl⟩
      rw [← hT] at ht1 ht2 hTl
      have hTn : T.length ≤ 100000 := by omega
      have hk1 := fun W (hW : Frm noB wr W) => taken_any _ _ L W ((Ho1.out.keep hf).keep hW) (by have := Hls.out; omega) HnL.out
      have hk2 := fun W (hW : Frm noB wr W) => taken_any _ _ M W (ho.keep hW) (by omega) hnM
      rw [← hC] at hk1
      rw [← hD] at hk2
      obtain ⟨oa, oc, ov, _, _⟩ := ho.shape
      subst ov
      have hrR : R + 20 ≤ 9223372036854775807 ∧ 0 ≤ R := by have := HRq.out.bd; omega
      obtain ⟨hr1, hr2⟩ := hrR
      have Ho := Lib.hid ho
      have Hf := Lib.hid hf
      have HA := Lib.hid hA
      have HB := Lib.hid hB
      have HM := Lib.hid hM
      have HlM := Lib.hid hlM
      have HgM := Lib.hid hgM
      have HnM := Lib.hid hnM
      have HC := Lib.hid hC
      have HD := Lib.hid hD
      have HoC := Lib.hid hoC
      have HgC := Lib.hid hgC
      have HlC := Lib.hid hlC
      have HoD := Lib.hid hoD
      have HgD := Lib.hid hgD
      have HlD := Lib.hid hlD
      have HTl := Lib.hid hTl
      have HwfR2 := Lib.hid hwfR2
      have Ht1 := Lib.hid ht1
      have Ht2 := Lib.hid ht2
      have Ht3 := Lib.hid ht3
      have HT := Lib.hid hT
      have HTn := Lib.hid hTn
      have Hk1 := Lib.hid hk1
      have Hk2 := Lib.hid hk2
      clear ho hf hA hB hM hlM hgM hnM hC hD hoC hgC hlC hoD hgD hlD hTl hwfR2 ht1 ht2 ht3 hT hTn hk1 hk2
      obtain ⟨u2, hu2⟩ : ∃ W : World, W = wr := ⟨_, rfl⟩
      subst hu2
      have Hfu2 := Lib.hid (Hfu1.out.trans Hf.out)
      have Hgu2 := Lib.hid (Frm.refl noB u2)
      go_wp2_with (first
        | (go_at_call 22; (with_reducible refine (Hk1.out _ Hgu2.out).mono ?_); rintro e u3 ⟨b1, O1, rfl, hc, hf, _⟩; have Hc3 := Lib.hid hc; have Hgu3 := Lib.hid hf; clear hc hf)
        | (go_at_call 14; (with_reducible refine (Ht1.out _ _ _ Hc3.out).mono ?_); rintro e u4 ⟨v4, rfl, ho, hf⟩; have Ho4 := Lib.hid ho; have Hgu4 := Lib.hid (Hgu3.out.trans hf); clear ho hf)
        | (go_at_call 22; (with_reducible refine (Hk2.out _ Hgu4.out).mono ?_); rintro e u5 ⟨b2, O2, rfl, hc, hf, _⟩; have Hc5 := Lib.hid hc; have Ho5 := Lib.hid (Ho4.out.keep hf); have Hgu5 := Lib.hid (Hgu4.out.trans hf); clear hc hf)
        | (go_at_call 14; (with_reducible refine (Ht2.out _ _ _ Hc5.out).mono ?_); rintro e u6 ⟨v6, rfl, ho, hf⟩; have Ho6 := Lib.hid ho; have Ho6b := Lib.hid (Ho5.out.keep hf); have Hgu6 := Lib.hid (Hgu5.out.trans hf); clear ho hf)
        | (go_at_call 23; (with_reducible refine (same_eq _ _ _ _ T _ Ho6b.out Ho6.out HTn.out).mono ?_); rintro e u7 ⟨rfl, hf⟩; have Hgu7 := Lib.hid (Hgu6.out.trans hf); clear hf)
        | (go_at_call 22; (with_reducible refine (Hk2.out _ Hgu7.out).mono ?_); rintro e u8 ⟨b3, O3, rfl, hc, hf, _⟩; have Hc8 := Lib.hid hc; have Hgu8 := Lib.hid (Hgu7.out.trans hf); clear hc hf)
        | (go_at_call 14; (with_reducible refine (Ht3.out _ _ _ Hc8.out).mono ?_); rintro e u9 ⟨v9, rfl, ho, hf⟩; obtain ⟨za, zc, zv, _, _⟩ := ho.shape; subst zv; have Hgu9 := Lib.hid (Hgu8.out.trans hf); clear ho hf)
        | (go_at_call 20; (with_reducible refine (clives_any _).mono ?_); rintro e u10 ⟨rfl, hf9⟩; have Hfu10 := Lib.hid (Hfu2.out.trans (Hgu9.out.trans hf9)); clear hf9))
      go_ret
      exact ⟨rfl, Hfu10.out.below (Nat.le_refl _) (fun _ _ h => h)⟩
end Go.Proofs.YtpgcfeplcibhoaaDoor
