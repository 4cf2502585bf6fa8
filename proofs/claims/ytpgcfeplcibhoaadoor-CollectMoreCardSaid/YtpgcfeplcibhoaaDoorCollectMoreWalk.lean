/- The walk of the statement CollectMore. (Printed by gencol7.py.) -/
import Derived.Test.YtpgcfeplcibhoaaDoorColForestP
import Derived.Test.YtpgcfeplcibhoaaDoorColPrint
import Derived.Test.YtpgcfeplcibhoaaDoorColRSpans
import Derived.Test.YtpgcfeplcibhoaaDoorColLives
import Derived.Test.YtpgcfeplcibhoaaDoorColWithin
import Derived.Test.YtpgcfeplcibhoaaDoorColRTree
import Derived.Test.YtpgcfeplcibhoaaDoorColRTake
import Derived.Test.YtpgcfeplcibhoaaDoorColRPrint
import Derived.Test.YtpgcfeplcibhoaaDoorTraceUp
import Derived.Test.YtpgcfeplcibhoaaDoorIntsL
import Derived.Deep.RegionLaw
import Derived.Deep.RegionHeld3
import Derived.Deep.DeepCutAuto
import Derived.StillTailTactics
import Derived.RegionTactic
set_option linter.unusedVariables false
set_option linter.unusedSimpArgs false
namespace Go.Proofs.YtpgcfeplcibhoaaDoor
open Go.RowKit

/-- One span more. -/
theorem more_fnd (C : List Spn) (S : Spn) (k : List UInt8) : fndS (takeL C S) k = (fndS C k).or (if nmB S = k then some S else none) := fnd_take C S k
theorem more_was {C : List Spn} {S : Spn} (hC : Once C) {r : Int} (hS : reqL (nmB S) = r) {x : Nod} (hx : x ∈ treeL C r) : ∃ y ∈ treeL (takeL C S) r, y.name = x.name ∧ (¬ x.name = S.name → y = x) := by
  have hC2 := once_take hC S
  rw [tree_mem hC] at hx
  have hup : ∀ k z, fndS C k = some z → fndS (takeL C S) k = some z := fun k z h => by rw [more_fnd, h]; rfl
  rcases hx with ⟨h1, h2, h3⟩ | ⟨h1, h2, h3, s, hs, hr, hu⟩
  · exact ⟨x, (tree_mem hC2 r x).2 (.inl ⟨h1, hup _ _ h2, h3⟩), rfl, fun _ => rfl⟩
  · by_cases he : x.name = S.name
    · refine ⟨⟨x.name, false, S⟩, (tree_mem hC2 r _).2 (.inl ⟨rfl, ?_, ?_⟩), rfl, fun h => absurd he h⟩
      · rw [more_fnd, h3]
        show (none : Option Spn).or (if nmB S = x.name.data.toList then some S else none) = _
        rw [if_pos (by rw [he]; rfl)]; rfl
      · show reqL x.name.data.toList = r
        rw [he]; exact hS
    · refine ⟨x, (tree_mem hC2 r x).2 (.inr ⟨h1, h2, ?_, s, hup _ _ hs, hr, hu⟩), rfl, fun _ => rfl⟩
      rw [more_fnd, h3, if_neg (fun e => he (ba_ext e.symm))]; rfl
theorem more_new {C : List Spn} {S : Spn} (hC : Once C) {r : Int} {x : Nod} (hx : x ∈ treeL (takeL C S) r) (h1 : ∀ y ∈ treeL C r, y.name ≠ x.name) (h2 : ¬ x.name = S.name) : x.miss = true ∧ x.name.data.toList ∈ ups (nmB S) := by
  rw [tree_mem (once_take hC S)] at hx
  have hn : ¬ nmB S = x.name.data.toList := fun e => h2 (ba_ext e.symm)
  rcases hx with ⟨a1, a2, a3⟩ | ⟨a1, a2, a3, s, hs, hr, hu⟩
  · rw [more_fnd, if_neg hn, Option.or_none] at a2
    exact absurd rfl (h1 x ((tree_mem hC r x).2 (.inl ⟨a1, a2, a3⟩)))
  · rw [more_fnd, if_neg hn, Option.or_none] at a3
    refine ⟨a1, ?_⟩
    rw [more_fnd] at hs
    cases hf : fndS C (nmB s) with
    | some z =>
      rw [hf] at hs
      simp only [Option.some_or, Option.some.injEq] at hs
      subst hs
      exact absurd rfl (h1 x ((tree_mem hC r x).2 (.inr ⟨a1, a2, a3, z, hf, hr, hu⟩)))
    | none =>
      rw [hf] at hs
      by_cases e : nmB S = nmB s
      · rw [e]; exact hu
      · rw [if_neg e] at hs; simp at hs
theorem more_got {C : List Spn} {S : Spn} (hC : Once C) {r : Int} (hS : reqL (nmB S) = r) : ∃ y ∈ treeL (takeL C S) r, y.name = S.name ∧ y.miss = false := by
  cases hf : fndS (takeL C S) (nmB S) with
  | some z => exact ⟨⟨S.name, false, z⟩, (tree_mem (once_take hC S) r _).2 (.inl ⟨rfl, hf, hS⟩), rfl, rfl⟩
  | none =>
    rw [more_fnd, if_pos rfl] at hf
    cases h : fndS C (nmB S) <;> rw [h] at hf <;> simp at hf
theorem more_is {C : List Spn} {S : Spn} (hC : Once C) {r : Int} (hS : reqL (nmB S) = r) {q : Nat} {y : Nod} (hq : (treeL C r)[q]? = some y) (hn : y.name = S.name) : isInB C S = !y.miss := by
  have hy := (tree_mem hC r y).1 (List.mem_of_getElem? hq)
  unfold isInB
  have e : nmB S = y.name.data.toList := by rw [hn]; rfl
  rw [e]
  rcases hy with ⟨h1, h2, _⟩ | ⟨h1, _, h3, _⟩
  · rw [h1, h2]; rfl
  · rw [h1, h3]; rfl
theorem more_no {C : List Spn} {S : Spn} (hC : Once C) {r : Int} (hS : reqL (nmB S) = r) (h : atL (treeL C r) S.name < 0) : isInB C S = false := by
  unfold isInB
  cases hf : fndS C (nmB S) with
  | none => rfl
  | some z => exact absurd rfl (at_neg h ⟨S.name, false, z⟩ ((tree_mem hC r _).2 (.inl ⟨rfl, hf, hS⟩)))
theorem nod_ext {x y : Nod} (h : x = y) : x.name = y.name ∧ x.miss = y.miss ∧ x.s = y.s := by subst h; exact ⟨rfl, rfl, rfl⟩
theorem info_sp6c : (Tryd.prog.info? 30).map (·.size) = some 6 := by kernel_rfl
set_option maxRecDepth 100000 in
set_option maxHeartbeats 8000000 in
theorem collectMore_walk (a0 : Option Addr) (len0 cap0 : Nat) (z0 : List Int) (a1 : Int) (w : World) (w0 : IsRow .i64 w a0 len0 cap0 z0) (w1 : (Lit.int .i64 a1).wf = true) :
    Calls Tryd.prog 7 #[.slice a0 len0 cap0, .int .i64 a1] w fun e w' => e = .returned (.bool true) ∧ Below w.heap.size w w' := by
  obtain ⟨xs, hxs⟩ := w0.list
  have bq := wf_i64 w1
  have hgs := goods30 xs
  have hls := spans30_len xs
  have hspc := rspans_any a0 len0 cap0 xs w hxs
  obtain ⟨L, hL⟩ : ∃ L, L = spans30 xs := ⟨_, rfl⟩
  rw [← hL] at hgs hls hspc
  have hsp1 := fun W => rspan_any a1 W bq.1 bq.2
  have hgS := good30 a1
  obtain ⟨S, hS⟩ : ∃ S, S = sp30 a1 := ⟨_, rfl⟩
  rw [← hS] at hgS
  simp only [← hS] at hsp1
  have hSz := goods_size hgS
  obtain ⟨hq1, hq2, hq3⟩ := goodB_req hgS.nm
  obtain ⟨R, hR⟩ : ∃ R, R = reqL (nmB S) := ⟨_, rfl⟩
  rw [← hR] at hq1 hq2 hq3
  have hwfR : (Lit.int .i64 R).wf = true := WalkArith.wf_i64 (by omega)
  have hreq := fun W => rreq_any S.name W (by omega)
  rw [show rq30 S.name.data.toList = R from hq1.symm] at hreq
  have hnL : ∀ s ∈ L, s.name.size ≤ 1000 := fun s hs => by have := goods_size (hgs s hs); omega
  obtain ⟨C, hC⟩ : ∃ C, C = L.foldl takeL [] := ⟨_, rfl⟩
  have hoC : Once C := by rw [hC]; exact once_col L
  have hgC : ∀ s ∈ C, GoodS s := by rw [hC]; exact col_good hgs
  have hlC : C.length ≤ 16 := by rw [hC]; have := col_len L []; simp only [List.length_nil] at this; omega
  obtain ⟨D, hD⟩ : ∃ D, D = takeL C S := ⟨_, rfl⟩
  have hoD : Once D := by rw [hD]; exact once_take hoC S
  have hgD : ∀ s ∈ D, GoodS s := by
    rw [hD]
    unfold takeL
    split
    · exact hgC
    · intro s hs
      rcases List.mem_append.1 hs with h | h
      · exact hgC s h
      · simp at h; rw [h]; exact hgS
  have hlD : D.length ≤ 17 := by
    rw [hD]
    unfold takeL
    split
    · omega
    · simp; omega
  have hk1 := fun v W B (hW : Own spnE W B 30 v L) => taken_any B v L W hW (by omega) hnL
  rw [← hC] at hk1
  have ht1 := fun W b O (h : ColIs W b C L.length O) => tree_is b L.length C O R W h hoC hgC (by omega) hwfR
  have ht2 := fun W b O (h : ColIs W b D (L.length + 1) O) => tree_is b (L.length + 1) D O R W h hoD hgD (by omega) hwfR
  have htk := fun W b O (h : ColIs W b C L.length O) => ctake_any b L.length C O S W h (by omega) (by omega) (by omega)
  rw [← hD] at htk
  have hF2 : ∀ x ∈ treeL C R, ∃ y ∈ treeL D R, y.name = x.name ∧ (¬ x.name = S.name → y = x) := fun x hx => by rw [hD]; exact more_was hoC hR.symm hx
  have hF3 : ∀ x ∈ treeL D R, (∀ y ∈ treeL C R, y.name ≠ x.name) → ¬ x.name = S.name → x.miss = true ∧ x.name.data.toList ∈ ups (nmB S) := fun x hx => by rw [hD] at hx; exact more_new hoC hx
  have hF4 : ∃ y ∈ treeL D R, y.name = S.name ∧ y.miss = false := by rw [hD]; exact more_got hoC hR.symm
  have hF1 : ∀ (q : Nat) (y : Nod), (treeL C R)[q]? = some y → y.name = S.name → isInB C S = !y.miss := fun q y h1 h2 => more_is hoC hR.symm h1 h2
  have hF0 : atL (treeL C R) S.name < 0 → isInB C S = false := fun h => more_no hoC hR.symm h
  have hDC : isInB C S = true → D = C := fun h => by rw [hD]; unfold takeL; rw [if_pos h]
  have hs1 := tree_srt C R
  have hs2 := tree_srt D R
  have hl1 := treeL_len hgC R
  have hl2 := treeL_len hgD R
  have hz1 : ∀ x ∈ treeL C R, x.name.size ≤ 16 := fun x hx => (tree_good hoC hgC R x hx).nm
  have hz2 : ∀ x ∈ treeL D R, x.name.size ≤ 16 := fun x hx => (tree_good hoD hgD R x hx).nm
  have hTT : D = C → treeL D R = treeL C R := fun h => by rw [h]
  obtain ⟨T1, hT1⟩ : ∃ T, T = treeL C R := ⟨_, rfl⟩
  obtain ⟨T2, hT2⟩ : ∃ T, T = treeL D R := ⟨_, rfl⟩
  rw [← hT1] at ht1 hF2 hF3 hF1 hF0 hs1 hl1 hz1 hTT
  rw [← hT2] at ht2 hF2 hF3 hF4 hs2 hl2 hz2 hTT
  obtain ⟨inb, hinb⟩ : ∃ b, b = isInB C S := ⟨_, rfl⟩
  rw [← hinb] at htk hF1 hF0 hDC
  have hT1n : T1.length ≤ 300 := by omega
  have hT2n : T2.length ≤ 300 := by omega
  have Hfz : Hid (Frm noB w w) := Lib.hid (Frm.refl noB w)
  obtain ⟨s0, s1, s2, s3, s4, s5⟩ := S
  simp only [spnV] at hsp1 htk
  simp only at hreq hSz
  obtain ⟨G0, hG0⟩ : ∃ S0 : Spn, S0 = ⟨s0, s1, s2, s3, s4, s5⟩ := ⟨_, rfl⟩
  have Hxs := Lib.hid hxs
  have Hbq := Lib.hid bq
  have Hgs := Lib.hid hgs
  have Hls := Lib.hid hls
  have Hspc := Lib.hid hspc
  have Hsp1 := Lib.hid hsp1
  have HgS := Lib.hid hgS
  have HS := Lib.hid hS
  have Hq1 := Lib.hid hq1
  have HR := Lib.hid hR
  have HwfR := Lib.hid hwfR
  have Hreq := Lib.hid hreq
  have HnL := Lib.hid hnL
  have HC := Lib.hid hC
  have HoC := Lib.hid hoC
  have HgC := Lib.hid hgC
  have HlC := Lib.hid hlC
  have HD := Lib.hid hD
  have HoD := Lib.hid hoD
  have HgD := Lib.hid hgD
  have HlD := Lib.hid hlD
  have Hk1 := Lib.hid hk1
  have Ht1 := Lib.hid ht1
  have Ht2 := Lib.hid ht2
  have Htk := Lib.hid htk
  have HF2 := Lib.hid hF2
  have HF3 := Lib.hid hF3
  have HF4 := Lib.hid hF4
  have HF1 := Lib.hid hF1
  have HF0 := Lib.hid hF0
  have HDC := Lib.hid hDC
  have Hs1 := Lib.hid hs1
  have Hs2 := Lib.hid hs2
  have Hl1 := Lib.hid hl1
  have Hl2 := Lib.hid hl2
  have Hz1 := Lib.hid hz1
  have Hz2 := Lib.hid hz2
  have HTT := Lib.hid hTT
  have HT1 := Lib.hid hT1
  have HT2 := Lib.hid hT2
  have Hinb := Lib.hid hinb
  have HT1n := Lib.hid hT1n
  have HT2n := Lib.hid hT2n
  have HG0 := Lib.hid hG0
  clear hxs bq hgs hls hspc hsp1 hgS hS hq1 hR hwfR hreq hnL hC hoC hgC hlC hD hoD hgD hlD hk1 ht1 ht2 htk hF2 hF3 hF4 hF1 hF0 hDC hs1 hs2 hl1 hl2 hz1 hz2 hTT hT1 hT2 hinb hT1n hT2n hG0
  clear w0 w1 hL hq2 hq3
  go_enter Tryd.func7, Tryd.ntmps7
  go_upto_region 3 with (first
    | (go_at_call 11; (with_reducible refine (Hspc.out).mono ?_); rintro e u1 ⟨v1, rfl, ho1, hf1⟩; have Ho1 := Lib.hid ho1; have Hfu1 := Lib.hid (Hfz.out.trans hf1); clear ho1 hf1)
    | (go_at_call 30; (with_reducible refine (Hsp1.out _).mono ?_); rintro e u2 ⟨rfl, hf⟩; have Hf12 := Lib.hid hf; clear hf)
    | (refine wpl_store_new _ (by rfl) 30 _ _ (by rfl) _ (by rfl) (by first | rfl | simp) _ _ _ (by rfl) (by exact info_sp6c) (by rfl) (by kernel_rfl) ?_))
  (try dsimp only [Act.put])
  have hbx := Blk.made u2 #[.string s0, .int .i64 s1, .int .i64 s2, .int .i64 s3, .bool s4, .int .i64 s5] 30
  have hfx : Frm noB u2 (u2.alloc (.cells #[.string s0, .int .i64 s1, .int .i64 s2, .int .i64 s3, .bool s4, .int .i64 s5] 30)) := (Frm.refl noB u2).alloc _
  obtain ⟨B, hB⟩ : ∃ B, B = u2.heap.size := ⟨_, rfl⟩
  rw [← hB] at hbx ⊢
  obtain ⟨u3, hu3⟩ : ∃ W : World, W = u2.alloc (.cells #[.string s0, .int .i64 s1, .int .i64 s2, .int .i64 s3, .bool s4, .int .i64 s5] 30) := ⟨_, rfl⟩
  rw [← hu3] at hbx hfx ⊢
  have Hbx3 := Lib.hid hbx
  have Hf23 := Lib.hid hfx
  have Ho3 := Lib.hid ((Ho1.out.keep Hf12.out).keep hfx)
  have HBl := Lib.hid (show B < u3.heap.size from hbx.lt)
  have q0 : u3.cell? ⟨B, 0, none⟩ = some (.string s0) := hbx.cell 0
  have ql := hbx.lt
  clear hbx hfx
  have Hu3 := Lib.hid hu3
  have HB := Lib.hid hB
  clear hu3 hB
  obtain ⟨ta, tc, htv, _, _⟩ := Ho3.out.shape
  obtain ⟨n, hn⟩ : ∃ n, n = L.length := ⟨_, rfl⟩
  rw [← hn] at htv
  subst htv
  have Hn := Lib.hid hn
  clear hn
  go_upto_region 5 with (first
    | (go_at_call 26; (with_reducible refine (Hreq.out _).mono ?_); rintro e w' ⟨rfl, rfl⟩; skip)
    | (go_at_call 22; (with_reducible refine (Hk1.out _ _ _ Ho3.out).mono ?_); rintro e u4 ⟨b, O, rfl, hc, hf, hO⟩; have Hc4 := Lib.hid hc; have Hf34 := Lib.hid hf; have HO4 := Lib.hid hO; have Hbx4 := Lib.hid (Hbx3.out.frm hf (fun h => h)); clear hc hf hO))
  have Hc4lt := Lib.hid Hc4.out.lt
  clear q0 ql
  go_upto_region 6 with (go_at_call 14; (with_reducible refine (Ht1.out _ _ _ Hc4.out).mono ?_); rintro e u5 ⟨v5, rfl, ho, hf⟩; have Ho5 := Lib.hid ho; have Hc5 := Lib.hid (Hc4.out.keep hf); have Hf45 := Lib.hid hf; have Hbx5 := Lib.hid (Hbx4.out.frm hf (fun h => h)); clear ho hf)
  have bL := Hbx5.out
  go_upto_region 7 with (first
    | (refine wpl_load_blk (by rfl) 30 _ (by rfl) _ (by rfl) _ _ (by exact bL) _ Tryd.underlying30 (by rfl) (by exact info_sp6c) ?_)
    | (go_at_call 13; (with_reducible refine (Htk.out _ _ _ Hc5.out).mono ?_); rintro e u6 ⟨rfl, O6, hc, hf, hO⟩; have Hc6 := Lib.hid hc; have Hf56 := Lib.hid hf; have Hbx6 := Lib.hid (Hbx5.out.frm hf (fun e => by have h1 := HO4.out _ e; have h2 := HBl.out; omega)); have Ho6 := Lib.hid (Ho5.out.frm hf (fun g hg e => by have h1 := Hc4lt.out _ e; have h2 := (Ho5.out.lt g hg).1; omega)); clear hc hf hO))
  clear bL
  go_upto_region 8 with (go_at_call 14; (with_reducible refine (Ht2.out _ _ _ Hc6.out).mono ?_); rintro e u7 ⟨v7, rfl, ho, hf⟩; have Ho7 := Lib.hid ho; have Ho67 := Lib.hid (Ho6.out.keep hf); have Hbx7 := Lib.hid (Hbx6.out.frm hf (fun h => h)); have Hfu7 := Lib.hid (((((Hfu1.out.trans Hf12.out).trans Hf23.out).trans (Hf34.out.trans Hf45.out)).new Hf56.out (fun i hi e => by have h1 := HO4.out _ e; have h2 := ((Hfu1.out.trans Hf12.out).trans Hf23.out).size; omega)).trans hf); clear ho hf)
  have q0 : u7.cell? ⟨B, 0, none⟩ = some (.string s0) := Hbx7.out.cell 0
  have ql := Hbx7.out.lt
  obtain ⟨na, nc, hnv, _, hng⟩ := Ho67.out.shape
  obtain ⟨m1, hm1⟩ : ∃ m, m = T1.length := ⟨_, rfl⟩
  rw [← hm1] at hnv hng
  subst hnv
  obtain ⟨pa, pc, hpv, _, hpg⟩ := Ho7.out.shape
  obtain ⟨m2, hm2⟩ : ∃ m, m = T2.length := ⟨_, rfl⟩
  rw [← hm2] at hpv hpg
  subst hpv
  have hm13 : m1 ≤ 300 := by rw [hm1]; exact HT1n.out
  have hm23 : m2 ≤ 300 := by rw [hm2]; exact HT2n.out
  have hat1 := fun W q (hW : Frm noB u7 W) => (at_any _ _ T1 q W (Ho67.out.keep hW) (by have := HT1n.out; omega))
  have hat2 := fun W q (hW : Frm noB u7 W) => (at_any _ _ T2 q W (Ho7.out.keep hW) (by have := HT2n.out; omega))
  have hatk := hat1 u7 s0 (Frm.refl noB u7)
  obtain ⟨kk, hkk⟩ : ∃ k, k = atL T1 s0 := ⟨_, rfl⟩
  rw [← hkk] at hatk
  have Hng := Lib.hid hng
  have Hm1 := Lib.hid hm1
  have Hpg := Lib.hid hpg
  have Hm2 := Lib.hid hm2
  have Hat1 := Lib.hid hat1
  have Hat2 := Lib.hid hat2
  have Hatk := Lib.hid hatk
  have Hkk := Lib.hid hkk
  clear hng hm1 hpg hm2 hat1 hat2 hatk hkk
  go_upto_region 9 with (go_at_call 25; (with_reducible refine (Hatk.out).mono ?_); rintro e w' ⟨rfl, rfl⟩)
  clear q0 ql
  go_cut [61] (fun t W => t = .bool false ∧ Frm noB u7 W)
  case first =>
    by_cases hk0 : 0 ≤ kk
    · obtain ⟨q, y, hqy, hyn, hqe⟩ := at_pos (l := T1) (s := s0) (by rw [← Hkk.out]; exact hk0)
      have hkq2 : kk = (q : Int) := Hkk.out.trans hqe
      have hin := HF1.out q y hqy hyn
      have hqm : q < m1 := by have := get_lt hqy; rw [← Hm1.out] at this; omega
      obtain ⟨g, rfl, _, hgl⟩ := Hng.out (by omega)
      have c1 := (nod_cells Ho67.out hqy).2.1
      have hmx : max (q : Int) 0 = (q : Int) := by omega
      subst hkq2
      cases hym : y.miss
      · rw [hym] at c1 hin
        have hDC := HDC.out hin
        have hTe := HTT.out hDC
        have Hsam := Lib.hid (fun W (hW : Frm noB u7 W) => same_eq _ _ _ _ T1 W (Ho67.out.keep hW) (by rw [← hTe]; exact Ho7.out.keep hW) (by have := HT1n.out; omega))
        have hin2 : inb = true := hin
        have Hqy := Lib.hid hqy
        have Hyn := Lib.hid hyn
        have Hqe := Lib.hid hqe
        have Hin := Lib.hid hin
        have HDC := Lib.hid hDC
        have HTe := Lib.hid hTe
        have Hym := Lib.hid hym
        clear hqy hyn hqe hin hDC hTe hym
        subst hin2
        clear hgl
        have hgw : g < u7.heap.size := (Ho67.out.lt g rfl).2
        go_wp2_with (go_at_call 23; (with_reducible refine (Hsam.out _ (Frm.refl _ _)).mono ?_); rintro e w8 ⟨rfl, hf8⟩; have Hf8 := Lib.hid hf8; clear hf8)
        go_meet
        exact ⟨rfl, Hf8.out⟩
      · rw [hym] at c1 hin
        have hin2 : inb = false := hin
        have Hqy := Lib.hid hqy
        have Hyn := Lib.hid hyn
        have Hqe := Lib.hid hqe
        have Hin := Lib.hid hin
        have Hym := Lib.hid hym
        clear hqy hyn hqe hin hym
        subst hin2
        clear hgl
        have hgw : g < u7.heap.size := (Ho67.out.lt g rfl).2
        go_wp2_with fail
        go_meet
        exact ⟨rfl, Frm.refl _ _⟩
    · have hin2 : inb = false := HF0.out (by rw [← Hkk.out]; omega)
      subst hin2
      have hk1 : ¬ (0 : Int) ≤ kk := hk0
      go_wp2_with fail
      go_meet
      exact ⟨rfl, Frm.refl _ _⟩
  case rest =>
    obtain ⟨rfl, hfc⟩ := hcut
    have Hfc := Lib.hid hfc
    clear hfc
    go_wp2_with fail
    go_loopw [4, 13, 14] (fun r i p wr => ∃ k : Nat, k ≤ m1 ∧ r = .bool false ∧ i = .int .i64 k ∧ Frm noB u7 wr) (fun _ i _ _ => m1 - (intOf i).toNat)
    case atStart => exact ⟨0, by omega, rfl, rfl, Hfc.out⟩
    case round =>
      obtain ⟨wb, hwb⟩ : ∃ W : World, W = wr := ⟨_, rfl⟩
      subst hwb
      obtain ⟨k, hk, rfl, rfl, hf⟩ := hrel
      by_cases hlt : k < m1
      · obtain ⟨x, hx⟩ := get_of_lt (l := T1) (j := k) (by rw [← Hm1.out]; exact hlt)
        obtain ⟨y, hyT, hyn, hyx⟩ := HF2.out x (List.mem_of_getElem? hx)
        obtain ⟨q, hq⟩ := List.getElem?_of_mem hyT
        have hpl := at_place Hs2.out hq
        rw [hyn] at hpl
        have hqm : q < m2 := by have := get_lt hq; rw [← Hm2.out] at this; omega
        obtain ⟨g, rfl, _, _⟩ := Hng.out (by omega)
        obtain ⟨g2, rfl, _, _⟩ := Hpg.out (by omega)
        have hgw : g < wb.heap.size := ((Ho67.out.keep hf).lt g rfl).2
        have hgw2 : g2 < wb.heap.size := ((Ho7.out.keep hf).lt g2 rfl).2
        have q0 : wb.cell? ⟨B, 0, none⟩ = some (.string s0) := (Hbx7.out.frm hf (fun h => h)).cell 0
        have ql := (Hbx7.out.frm hf (fun h => h)).lt
        have hat := Hat2.out wb x.name hf
        rw [hpl] at hat
        have hq0 : decide ((q : Int) < 0) = false := decide_eq_false (by omega)
        by_cases hxs : x.name = s0
        · have hst := str_yes hxs
          have hst2 : (x.name.toList != s0.toList) = false := by rw [bne, hst]; rfl
          have c0 := (nod_cells (Ho67.out.keep hf) hx).1
          have Hf := Lib.hid hf
          have Hx := Lib.hid hx
          have HyT := Lib.hid hyT
          have Hyn := Lib.hid hyn
          have Hyx := Lib.hid hyx
          have Hq := Lib.hid hq
          have Hpl := Lib.hid hpl
          have Hat := Lib.hid hat
          have Hxs := Lib.hid hxs
          clear hf hx hyT hyn hyx hq hpl hat hxs
          go_wp2_with (go_at_call 25; (with_reducible refine (Hat.out).mono ?_); rintro e w' ⟨rfl, rfl⟩)
          go_quiet (fail)
          go_wp2_with fail
          go_roundw
          case rel => exact ⟨k + 1, by omega, rfl, by go_num, Hf.out.drewN _⟩
          case measure => simp [intOf]; omega
        · have hst := str_ne hxs
          have hst2 : (x.name.toList != s0.toList) = true := by rw [bne, hst]; rfl
          have hyx2 := hyx hxs
          rw [hyx2] at hq
          obtain ⟨c0, c1, c2, c3, c4, c5, c6, c7⟩ := nod_cells (Ho67.out.keep hf) hx
          obtain ⟨d0, d1, d2, d3, d4, d5, d6, d7⟩ := nod_cells (Ho7.out.keep hf) hq
          have Hf := Lib.hid hf
          have Hx := Lib.hid hx
          have HyT := Lib.hid hyT
          have Hyn := Lib.hid hyn
          have Hyx := Lib.hid hyx
          have Hq := Lib.hid hq
          have Hpl := Lib.hid hpl
          have Hat := Lib.hid hat
          have Hxs := Lib.hid hxs
          have Hyx2 := Lib.hid hyx2
          clear hf hx hyT hyn hyx hq hpl hat hxs hyx2
          go_wp2_with (go_at_call 25; (with_reducible refine (Hat.out).mono ?_); rintro e w' ⟨rfl, rfl⟩)
          go_quiet (fail)
          go_wp2_with fail
          go_roundw
          case rel => exact ⟨k + 1, by omega, rfl, by go_num, Hf.out.drewN _⟩
          case measure => simp [intOf]; omega
      · obtain rfl : k = m1 := by omega
        have Hf9 := Lib.hid hf
        clear hf
        go_wp2_with fail
        go_loopw [4, 15] (fun r i wr => ∃ j : Nat, j ≤ m2 ∧ r = .bool false ∧ i = .int .i64 j ∧ Frm noB u7 wr) (fun _ i _ => m2 - (intOf i).toNat)
        case atStart => exact ⟨0, by omega, rfl, rfl, Hf9.out⟩
        case round =>
          obtain ⟨wd, hwd⟩ : ∃ W : World, W = wr := ⟨_, rfl⟩
          subst hwd
          obtain ⟨j, hj, rfl, rfl, hf⟩ := hrel
          by_cases hltj : j < m2
          · obtain ⟨x, hx⟩ := get_of_lt (l := T2) (j := j) (by rw [← Hm2.out]; exact hltj)
            obtain ⟨g2, rfl, _, _⟩ := Hpg.out (by omega)
            have hgw2 : g2 < wd.heap.size := ((Ho7.out.keep hf).lt g2 rfl).2
            have q0 : wd.cell? ⟨B, 0, none⟩ = some (.string s0) := (Hbx7.out.frm hf (fun h => h)).cell 0
            have ql := (Hbx7.out.frm hf (fun h => h)).lt
            have hxz := Hz2.out x (List.mem_of_getElem? hx)
            obtain ⟨ax, hax⟩ : ∃ q, q = atL T1 x.name := ⟨_, rfl⟩
            have hatq : ∀ n, Calls Tryd.prog 25 #[.slice na k nc, .string x.name] (wd.drewN n) fun e w' => e = .returned (.int .i64 ax) ∧ w' = wd.drewN n := fun n => (Hat1.out (wd.drewN n) x.name (hf.drewN n)).mono (fun _ _ h => ⟨by rw [hax]; exact h.1, h.2.symm⟩)
            have c0 := (nod_cells (Ho7.out.keep hf) hx).1
            have c1 := (nod_cells (Ho7.out.keep hf) hx).2.1
            by_cases ha0 : ax < 0
            · have ha1 : decide (ax < 0) = true := decide_eq_true ha0
              by_cases hxs : x.name = s0
              · have hst := str_yes hxs
                have hst2 : (x.name.toList != s0.toList) = false := by rw [bne, hst]; rfl
                have Hf := Lib.hid hf
                have Hx := Lib.hid hx
                have Hxz := Lib.hid hxz
                have Hax := Lib.hid hax
                have Hatq := Lib.hid hatq
                have Hxs := Lib.hid hxs
                have Ha0 := Lib.hid ha0
                clear hf hx hxz hax hatq hxs ha0
                go_wp2_with fail
                go_quiet (first | (go_at_call 25; first | with_reducible exact Calls.quiet_of_same (Hatq.out _)))
                go_wp2_with fail
                go_roundw
                case rel => exact ⟨j + 1, by omega, rfl, by go_num, Hf.out.drewN _⟩
                case measure => simp [intOf]; omega
              · have hst := str_ne hxs
                have hst2 : (x.name.toList != s0.toList) = true := by rw [bne, hst]; rfl
                obtain ⟨hm9, hu9⟩ := HF3.out x (List.mem_of_getElem? hx) (fun y hy e => by exact at_neg (by rw [← hax]; exact ha0) y hy e) hxs
                rw [hm9] at c1
                have hwq : ∀ W : World, Calls Tryd.prog 29 #[.string x.name, .string s0] W fun e w' => e = .returned (.bool true) ∧ w' = W := fun W => (within_any x.name s0 W (by omega)).mono (fun _ _ h => ⟨by rw [h.1]; congr 2; exact befL_iff.2 hu9, h.2.symm⟩)
                have Hf := Lib.hid hf
                have Hx := Lib.hid hx
                have Hxz := Lib.hid hxz
                have Hax := Lib.hid hax
                have Hatq := Lib.hid hatq
                have Hxs := Lib.hid hxs
                have Hm9 := Lib.hid hm9
                have Hu9 := Lib.hid hu9
                have Hwq := Lib.hid hwq
                have Ha0 := Lib.hid ha0
                clear hf hx hxz hax hatq hxs hm9 hu9 hwq ha0
                go_wp2_with fail
                go_quiet (first | (go_at_call 25; first | with_reducible exact Calls.quiet_of_same (Hatq.out _)) | (go_at_call 29; first | with_reducible exact Calls.quiet_of_same (Hwq.out _)))
                go_wp2_with fail
                go_roundw
                case rel => exact ⟨j + 1, by omega, rfl, by go_num, Hf.out.drewN _⟩
                case measure => simp [intOf]; omega
            · have ha1 : decide (ax < 0) = false := decide_eq_false ha0
              have Hf := Lib.hid hf
              have Hx := Lib.hid hx
              have Hxz := Lib.hid hxz
              have Hax := Lib.hid hax
              have Hatq := Lib.hid hatq
              have Ha0 := Lib.hid ha0
              clear hf hx hxz hax hatq ha0
              go_wp2_with fail
              go_quiet (first | (go_at_call 25; first | with_reducible exact Calls.quiet_of_same (Hatq.out _)))
              go_wp2_with fail
              go_roundw
              case rel => exact ⟨j + 1, by omega, rfl, by go_num, Hf.out.drewN _⟩
              case measure => simp [intOf]; omega
          · obtain rfl : j = m2 := by omega
            obtain ⟨y, hyT, hyn, hym⟩ := HF4.out
            obtain ⟨q, hq⟩ := List.getElem?_of_mem hyT
            have hpl := at_place Hs2.out hq
            rw [hyn] at hpl
            have hqm : q < j := by have := get_lt hq; rw [← Hm2.out] at this; omega
            obtain ⟨g2, rfl, _, _⟩ := Hpg.out (by omega)
            have hgw2 : g2 < wd.heap.size := ((Ho7.out.keep hf).lt g2 rfl).2
            have q0 : wd.cell? ⟨B, 0, none⟩ = some (.string s0) := (Hbx7.out.frm hf (fun h => h)).cell 0
            have ql := (Hbx7.out.frm hf (fun h => h)).lt
            have hat := Hat2.out wd s0 hf
            rw [show atL T2 s0 = (q : Int) from hpl] at hat
            have c1 := (nod_cells (Ho7.out.keep hf) hq).2.1
            rw [hym] at c1
            have hq0 : (0 : Int) ≤ (q : Int) := by omega
            have Hfx := Lib.hid (Hfu7.out.trans hf)
            have Hf := Lib.hid hf
            have HyT := Lib.hid hyT
            have Hyn := Lib.hid hyn
            have Hym := Lib.hid hym
            have Hq := Lib.hid hq
            have Hpl := Lib.hid hpl
            have Hat := Lib.hid hat
            clear hf hyT hyn hym hq hpl hat
            go_wp2_with (first
              | (go_at_call 25; (with_reducible refine (Hat.out).mono ?_); rintro e w' ⟨rfl, rfl⟩; skip)
              | (go_at_call 20; (with_reducible refine (clives_any _).mono ?_); rintro e u9 ⟨rfl, hf9⟩; have Hfu9 := Lib.hid (Hfx.out.trans hf9); clear hf9))
            go_ret
            exact ⟨rfl, Hfu9.out.below (Nat.le_refl _) (fun _ _ h => h)⟩
end Go.Proofs.YtpgcfeplcibhoaaDoor
