/- The walk of the statement CollectMissing. (Printed by gencol7.py.) -/
import Derived.Test.YtpgcfeplcibhoaaDoorColForestP
import Derived.Test.YtpgcfeplcibhoaaDoorColPrint
import Derived.Test.YtpgcfeplcibhoaaDoorColRSpans
import Derived.Test.YtpgcfeplcibhoaaDoorColLives
import Derived.Test.YtpgcfeplcibhoaaDoorColWithin
import Derived.Test.YtpgcfeplcibhoaaDoorColRTree
import Derived.Test.YtpgcfeplcibhoaaDoorColRTake
import Derived.Test.YtpgcfeplcibhoaaDoorColRPrint
import Derived.Test.YtpgcfeplcibhoaaDoorTraceUp
import Derived.Test.YtpgcfeplcibhoaaDoorIntsL
import Derived.Deep.RegionLaw
import Derived.Deep.RegionHeld3
import Derived.Deep.DeepCutAuto
import Derived.StillTailTactics
import Derived.RegionTactic
set_option linter.unusedVariables false
set_option linter.unusedSimpArgs false
namespace Go.Proofs.YtpgcfeplcibhoaaDoor
open Go.RowKit

/-- The tree of spans: what it tells of a name. -/
theorem fold_fnd (L : List Spn) : fndS (L.foldl takeL []) = fndS L := funext fun k => fnd_col L k
theorem fnd_first {L : List Spn} {x : Spn} (hx : x ∈ L) : ∃ z, fndS L (nmB x) = some z ∧ nmB z = nmB x := by
  cases hf : fndS L (nmB x) with
  | none => exact absurd rfl (fndS_none.1 hf x hx)
  | some z => exact ⟨z, rfl, (fndS_some hf).2⟩
theorem mis_hit {L : List Spn} (hG : ∀ s ∈ L, GoodS s) {r : Int} {x : Spn} (hx : x ∈ L) (hr : rq30 (nmB x) = r) : 0 ≤ atL (treeL (L.foldl takeL []) r) x.name := by
  obtain ⟨z, hz, hn⟩ := fnd_first hx
  have hm : (⟨x.name, false, z⟩ : Nod) ∈ treeL (L.foldl takeL []) r := by
    rw [tree_mem (once_fold L _ List.Pairwise.nil), fold_fnd]
    exact .inl ⟨rfl, hz, by show reqL (nmB x) = r; rw [(goodB_req (hG x hx).nm).1]; exact hr⟩
  obtain ⟨j, hj⟩ := List.getElem?_of_mem hm
  have := at_place (tree_srt _ _) hj
  simp only at this
  rw [this]; omega
theorem mis_at {L : List Spn} (hG : ∀ s ∈ L, GoodS s) {r : Int} {s : ByteArray} (hs : GoodB s.data.toList) (hr : reqL s.data.toList = r) :
    decide (0 ≤ atL (treeL (L.foldl takeL []) r) s) = ((L.any fun x => decide (x.name = s)) || (L.any fun x => befL s.data.toList (nmB x))) := by
  rw [Bool.eq_iff_iff, decide_eq_true_iff, Bool.or_eq_true, List.any_eq_true, List.any_eq_true]
  constructor
  · intro h
    obtain ⟨k, y, hk, hn, _⟩ := at_pos h
    have hy := (tree_mem (once_fold L _ List.Pairwise.nil) r y).1 (List.mem_of_getElem? hk)
    rw [fold_fnd] at hy
    rcases hy with ⟨_, h2, _⟩ | ⟨_, _, _, z, hz, _, hu⟩
    · obtain ⟨hm, hn2⟩ := fndS_some h2
      exact .inl ⟨_, hm, decide_eq_true (by rw [← hn]; exact ba_ext hn2)⟩
    · obtain ⟨hm, _⟩ := fndS_some hz
      exact .inr ⟨z, hm, by rw [befL_iff, ← hn]; exact hu⟩
  · have key : ∀ y : Nod, y.name = s → isT (fndS L) r y → 0 ≤ atL (treeL (L.foldl takeL []) r) s := fun y hn hy => by
      have hm := (tree_mem (once_fold L _ List.Pairwise.nil) r y).2 (by rw [fold_fnd]; exact hy)
      obtain ⟨j, hj⟩ := List.getElem?_of_mem hm
      have := at_place (tree_srt _ _) hj
      rw [hn] at this
      rw [this]; omega
    rintro (⟨x, hx, he⟩ | ⟨x, hx, hb⟩)
    · have he := of_decide_eq_true he
      have := mis_hit hG (r := r) hx (by rw [← (goodB_req (hG x hx).nm).1]; unfold nmB; rw [he]; exact hr)
      rw [he] at this
      exact this
    · rw [befL_iff] at hb
      cases hf : fndS L s.data.toList with
      | some z => exact key ⟨s, false, z⟩ rfl (.inl ⟨rfl, hf, hr⟩)
      | none =>
        obtain ⟨z, hz, hn⟩ := fnd_first hx
        refine key (goneN s) rfl (.inr ⟨rfl, rfl, hf, z, ?_, ?_, ?_⟩)
        · rw [hn]; exact hz
        · unfold rqS; rw [hn, ← ups_req30 (hG x hx).nm hb]; exact hr
        · rw [hn]; exact hb
theorem mis_came {L : List Spn} {r : Int} {k : Nat} {y : Nod} (hk : (treeL (L.foldl takeL []) r)[k]? = some y) : y.miss = !(L.any fun x => decide (x.name = y.name)) := by
  have hy := (tree_mem (once_fold L _ List.Pairwise.nil) r y).1 (List.mem_of_getElem? hk)
  rw [fold_fnd] at hy
  rcases hy with ⟨h1, h2, _⟩ | ⟨h1, _, h3, _⟩
  · obtain ⟨hm, hn⟩ := fndS_some h2
    have : (L.any fun x => decide (x.name = y.name)) = true := List.any_eq_true.2 ⟨_, hm, decide_eq_true (ba_ext hn)⟩
    rw [h1, this]; rfl
  · have : (L.any fun x => decide (x.name = y.name)) = false := by
      rw [List.any_eq_false]
      intro x hx he
      exact fndS_none.1 h3 x hx (by unfold nmB; rw [of_decide_eq_true he])
    rw [h1, this]; rfl
theorem mis_own {L : List Spn} {r : Int} {k : Nat} {y : Nod} (hk : (treeL (L.foldl takeL []) r)[k]? = some y) {j : Nat} {x : Spn} (hj : L[j]? = some x) (he : x.name = y.name) (hno : ∀ q z, q < j → L[q]? = some z → ¬ z.name = y.name) : y.miss = false ∧ y.s = x := by
  have hy := (tree_mem (once_fold L _ List.Pairwise.nil) r y).1 (List.mem_of_getElem? hk)
  rw [fold_fnd] at hy
  have hfx : fndS L y.name.data.toList = some x := by
    unfold fndS
    have hlj := get_lt hj
    rw [List.find?_eq_some_iff_getElem]
    rw [List.getElem?_eq_getElem hlj] at hj
    cases hj
    refine ⟨by unfold nmB; rw [he]; simp, j, hlj, rfl, fun q hq => ?_⟩
    have := hno q _ hq (List.getElem?_eq_getElem (by omega))
    simp only [Bool.not_eq_true', beq_eq_false_iff_ne, ne_eq]
    exact fun e => this (ba_ext e)
  rcases hy with ⟨h1, h2, _⟩ | ⟨_, _, h3, _⟩
  · rw [hfx] at h2; cases h2; exact ⟨h1, rfl⟩
  · rw [hfx] at h3; cases h3
theorem mis_gone {L : List Spn} {r : Int} {k : Nat} {y : Nod} (hk : (treeL (L.foldl takeL []) r)[k]? = some y) (hno : ∀ z ∈ L, ¬ z.name = y.name) : y.miss = true ∧ (L.any fun x => befL y.name.data.toList (nmB x)) = true := by
  have hy := (tree_mem (once_fold L _ List.Pairwise.nil) r y).1 (List.mem_of_getElem? hk)
  rw [fold_fnd] at hy
  rcases hy with ⟨h1, h2, _⟩ | ⟨h1, _, h3, z, hz, _, hu⟩
  · obtain ⟨hm, hn⟩ := fndS_some h2
    exact absurd (ba_ext hn) (hno _ hm)
  · obtain ⟨hm, _⟩ := fndS_some hz
    exact ⟨h1, List.any_eq_true.2 ⟨z, hm, befL_iff.2 hu⟩⟩
theorem any_snoc {α : Type} {L : List α} {j : Nat} {x : α} (hj : L[j]? = some x) (f : α → Bool) : (L.take (j + 1)).any f = ((L.take j).any f || f x) := by
  rw [List.take_add_one, hj, List.any_append]; simp
set_option maxRecDepth 100000 in
set_option maxHeartbeats 8000000 in
theorem collectMissing_walk (a0 : Option Addr) (len0 cap0 : Nat) (z0 : List Int) (a1 : Int) (a2 : Int) (w : World) (w0 : IsRow .i64 w a0 len0 cap0 z0) (w1 : (Lit.int .i64 a1).wf = true) (w2 : (Lit.int .i64 a2).wf = true) :
    Calls Tryd.prog 6 #[.slice a0 len0 cap0, .int .i64 a1, .int .i64 a2] w fun e w' => e = .returned (.bool true) ∧ Below w.heap.size w w' := by
  obtain ⟨xs, hxs⟩ := w0.list
  have b2 := wf_i64 w2
  have Hxs := Lib.hid hxs
  have Hb2 := Lib.hid b2
  clear hxs b2
  clear w0 w2
  have bq := wf_i64 w1
  obtain ⟨kq, hkq⟩ : ∃ k, k = around a1 3 := ⟨_, rfl⟩
  have hkq3 : kq < 3 := by have := around_lt a1 3 (by omega); omega
  have hca := fun W => around_any a1 3 W bq.1 bq.2 (by omega) (by omega)
  simp only [← hkq] at hca
  obtain ⟨wz, hwz⟩ : ∃ W : World, W = w.alloc (.cells #[.int .i64 1, .int .i64 2, .int .i64 11] 3) := ⟨_, rfl⟩
  have hpc := pick_cell w kq hkq3
  have Hfz : Hid (Frm noB w wz) := Lib.hid (by rw [hwz]; exact (Frm.refl noB w).alloc _)
  have hlz : w.heap.size < wz.heap.size := by rw [hwz]; simp
  rw [← hwz] at hpc
  obtain ⟨R, hR⟩ : ∃ R, R = pick3 kq := ⟨_, rfl⟩
  rw [← hR] at hpc
  have HRq : Hid (IsReq R) := Lib.hid (by rw [hR]; exact pick_req kq)
  have Hca := Lib.hid hca
  have HR := Lib.hid hR
  have Hwz := Lib.hid hwz
  have Hbq := Lib.hid bq
  have Hkq := Lib.hid hkq
  clear hca hR hwz bq hkq
  go_enter Tryd.func6, Tryd.ntmps6
  go_upto_region 2 with (go_at_call 21; refine (Hca.out _).mono ?_; rintro e w' ⟨rfl, rfl⟩; rw [← Hwz.out])
  clear hpc
  have hgs := goods30 xs
  have hls := spans30_len xs
  have hspc := rspans_any a0 len0 cap0 xs wz (Hxs.out.keep Hfz.out)
  obtain ⟨L, hL⟩ : ∃ L, L = spans30 xs := ⟨_, rfl⟩
  rw [← hL] at hgs hls hspc
  have hwfR : (Lit.int .i64 R).wf = true := WalkArith.wf_i64 (by have := HRq.out.bd; omega)
  have Hgs := Lib.hid hgs
  have Hls := Lib.hid hls
  have Hspc := Lib.hid hspc
  have HwfR := Lib.hid hwfR
  clear hgs hls hspc hwfR
  have hnL : ∀ s ∈ L, s.name.size ≤ 1000 := fun s hs => by have := goods_size (Hgs.out s hs); omega
  have HnL := Lib.hid hnL
  clear hnL
  clear hL
  obtain ⟨C, hC⟩ : ∃ C, C = L.foldl takeL [] := ⟨_, rfl⟩
  have hoC : Once C := by rw [hC]; exact once_col L
  have hgC : ∀ s ∈ C, GoodS s := by rw [hC]; exact col_good Hgs.out
  have hlC : C.length ≤ 16 := by rw [hC]; have := col_len L []; simp only [List.length_nil] at this; have := Hls.out; omega
  have hTl := treeL_len hgC R
  have htr := fun W b O (h : ColIs W b C L.length O) => tree_is b L.length C O R W h hoC hgC (by omega) HwfR.out
  have hk1 := fun v W (hW : Own spnE W wz.heap.size 30 v L) => taken_any _ v L W hW (by have := Hls.out; omega) HnL.out
  rw [← hC] at hk1
  obtain ⟨kn, hkn⟩ : ∃ k, k = around a2 12 := ⟨_, rfl⟩
  have hkn12 : kn < 12 := by have := around_lt a2 12 (by omega); omega
  have hnm := fun W => rname_any R a2 W HRq.out Hb2.out.1 Hb2.out.2
  rw [← hkn] at hnm
  have hgs2 := goodB_name HRq.out hkn12
  have hrs2 : reqL (nameB R kn) = R := reqL_of (name_read HRq.out hkn12)
  obtain ⟨s, hs⟩ : ∃ s, s = bs (nameB R kn) := ⟨_, rfl⟩
  simp only [← hs] at hnm
  have hsd : s.data.toList = nameB R kn := by rw [hs]; rfl
  rw [← hsd] at hgs2 hrs2
  have hssz : s.size ≤ 16 := by have := hgs2.len; rwa [ba_len] at this
  have hF1 := mis_at Hgs.out hgs2 hrs2
  obtain ⟨T, hT⟩ : ∃ T, T = treeL C R := ⟨_, rfl⟩
  have hTn : T.length ≤ 300 := by rw [hT]; omega
  rw [← hC, ← hT] at hF1
  rw [← hT] at htr
  have hF2 : ∀ x ∈ L, rq30 (nmB x) = R → 0 ≤ atL T x.name := fun x hx hr => by rw [hT, hC]; exact mis_hit Hgs.out hx hr
  have hF3 : ∀ (k : Nat) (y : Nod), T[k]? = some y → y.miss = !(L.any fun x => decide (x.name = y.name)) := fun k y hk => mis_came (L := L) (r := R) (k := k) (by rw [← hC, ← hT]; exact hk)
  have hF4 : ∀ (k : Nat) (y : Nod) (j : Nat) (x : Spn), T[k]? = some y → L[j]? = some x → x.name = y.name → (∀ (q : Nat) (z : Spn), q < j → L[q]? = some z → ¬ z.name = y.name) → y.miss = false ∧ y.s = x := fun k y j x hk hj he hno => mis_own (L := L) (r := R) (k := k) (by rw [← hC, ← hT]; exact hk) hj he hno
  have hF5 : ∀ (k : Nat) (y : Nod), T[k]? = some y → (∀ z ∈ L, ¬ z.name = y.name) → y.miss = true ∧ (L.any fun x => befL y.name.data.toList (nmB x)) = true := fun k y hk hno => mis_gone (L := L) (r := R) (k := k) (by rw [← hC, ← hT]; exact hk) hno
  have hF6 : ∀ (k : Nat) (y : Nod), T[k]? = some y → y.name.size ≤ 16 := fun k y hk => (tree_good hoC hgC R y (by rw [← hT]; exact List.mem_of_getElem? hk)).nm
  clear hkn12 hgs2 hrs2 hTl
  have HoC := Lib.hid hoC
  have HgC := Lib.hid hgC
  have HlC := Lib.hid hlC
  have HC := Lib.hid hC
  have HT := Lib.hid hT
  have HTn := Lib.hid hTn
  have Htr := Lib.hid htr
  have Hk1 := Lib.hid hk1
  have Hkn := Lib.hid hkn
  have Hnm := Lib.hid hnm
  have Hs := Lib.hid hs
  have Hsd := Lib.hid hsd
  have HF1 := Lib.hid hF1
  have HF2 := Lib.hid hF2
  have HF3 := Lib.hid hF3
  have HF4 := Lib.hid hF4
  have HF5 := Lib.hid hF5
  have HF6 := Lib.hid hF6
  clear hoC hgC hlC hC hT hTn htr hk1 hkn hnm hs hsd hF1 hF2 hF3 hF4 hF5 hF6
  go_upto_region 7 with (first
    | (go_at_call 11; (with_reducible refine (Hspc.out).mono ?_); rintro e u1 ⟨v1, rfl, ho1, hf1⟩; have Ho1 := Lib.hid ho1; have Hfu1 := Lib.hid (Hfz.out.trans hf1); clear ho1 hf1)
    | (go_at_call 22; (with_reducible refine (Hk1.out _ _ Ho1.out).mono ?_); rintro e u2 ⟨b2, O2, rfl, hc, hf, _⟩; have Hc2 := Lib.hid hc; have Hf12 := Lib.hid hf; clear hc hf)
    | (go_at_call 14; (with_reducible refine (Htr.out _ _ _ Hc2.out).mono ?_); rintro e u3 ⟨v3, rfl, ho, hf⟩; have Ho3 := Lib.hid ho; have Hf23 := Lib.hid hf; clear ho hf)
    | (go_at_call 28; (with_reducible refine (Hnm.out _).mono ?_); rintro e u4 ⟨rfl, hf⟩; have Hf34 := Lib.hid hf; clear hf))
  clear hlz
  obtain ⟨ta, tc, htv, _, htg⟩ := Ho1.out.shape
  obtain ⟨n, hn⟩ : ∃ n, n = L.length := ⟨_, rfl⟩
  rw [← hn] at htv htg
  subst htv
  obtain ⟨na, nc, hnv, _, hng⟩ := Ho3.out.shape
  obtain ⟨m, hm⟩ : ∃ m, m = T.length := ⟨_, rfl⟩
  rw [← hm] at hnv hng
  subst hnv
  have hn3 : n ≤ 16 := by rw [hn]; exact Hls.out
  have hm3 : m ≤ 300 := by rw [hm]; exact HTn.out
  have Ho1' := Lib.hid (Ho1.out.keep ((Hf12.out.trans Hf23.out).trans Hf34.out))
  have Ho3' := Lib.hid (Ho3.out.keep Hf34.out)
  have hat := fun q => at_any _ _ T q u4 Ho3'.out (by have := HTn.out; omega)
  have Hn := Lib.hid hn
  have Htg := Lib.hid htg
  have Hm := Lib.hid hm
  have Hng := Lib.hid hng
  have Hat := Lib.hid hat
  clear hn htg hm hng hat
  go_wp2_with fail
  go_loopw [6, 11, 12, 13] (fun r ca ar i wr => ∃ k : Nat, k ≤ n ∧ r = .bool false ∧ ca = .bool ((L.take k).any fun x => decide (x.name = s)) ∧ ar = .bool ((L.take k).any fun x => befL s.data.toList (nmB x)) ∧ i = .int .i64 k ∧ Frm noB u4 wr) (fun _ _ _ i _ => n - (intOf i).toNat)
  case atStart => exact ⟨0, by omega, rfl, rfl, rfl, rfl, Frm.refl _ _⟩
  case round =>
    obtain ⟨k, hk, rfl, rfl, rfl, rfl, hf⟩ := hrel
    obtain ⟨ca, hca2⟩ : ∃ c, c = ((L.take k).any fun x => decide (x.name = s)) := ⟨_, rfl⟩
    obtain ⟨ar, har⟩ : ∃ c, c = ((L.take k).any fun x => befL s.data.toList (nmB x)) := ⟨_, rfl⟩
    rw [← hca2, ← har]
    by_cases hlt : k < n
    · obtain ⟨x, hx⟩ := get_of_lt (l := L) (j := k) (by rw [← Hn.out]; exact hlt)
      obtain ⟨g, rfl, _, hgl⟩ := Htg.out (by omega)
      have hgx := Hgs.out x (List.mem_of_getElem? hx)
      have hxs9 := goods_size hgx
      have c0 := (spn_cells (Ho1'.out.keep hf) hx).1
      have hgw : g < wr.heap.size := Nat.lt_of_lt_of_le hgl (Nat.le_trans ((Hf12.out.trans Hf23.out).trans Hf34.out).size hf.size)
      have hs1 := any_snoc hx (fun x => decide (x.name = s))
      have hs2 := any_snoc hx (fun x => befL s.data.toList (nmB x))
      rw [← hca2] at hs1
      rw [← har] at hs2
      have hwi := fun W => within_any s x.name W (by omega)
      obtain ⟨bx, hbx⟩ : ∃ b, b = befL s.data.toList x.name.data.toList := ⟨_, rfl⟩
      simp only [← hbx] at hwi
      have hs2 : (L.take (k + 1)).any (fun x => befL s.data.toList (nmB x)) = (ar || bx) := by rw [hs2, hbx]; rfl
      have hreq := fun W => rreq_any x.name W (by omega)
      obtain ⟨rx, hrx⟩ : ∃ q, q = rq30 x.name.data.toList := ⟨_, rfl⟩
      simp only [← hrx] at hreq
      have hF := HF2.out x (List.mem_of_getElem? hx)
      have hat1 := fun W (hW : Frm noB u4 W) => at_any _ _ T x.name W (Ho3'.out.keep hW) (by have := HTn.out; omega)
      obtain ⟨ax, hax⟩ : ∃ q, q = atL T x.name := ⟨_, rfl⟩
      rw [← hax] at hF
      simp only [← hax] at hat1
      have hrF : rx = R → 0 ≤ ax := fun e => hF (by show rq30 x.name.data.toList = R; rw [← hrx]; exact e)
      have hstx : (x.name.toList == s.toList) = decide (x.name = s) := by
        by_cases e : x.name = s
        · rw [str_yes e, decide_eq_true e]
        · rw [str_ne e, decide_eq_false e]
      obtain ⟨dx, hdx⟩ : ∃ d, d = decide (x.name = s) := ⟨_, rfl⟩
      rw [← hdx] at hstx hs1
      have Hfw := Lib.hid hf
      clear hF
      have Hf := Lib.hid hf
      have Hx := Lib.hid hx
      have Hgx := Lib.hid hgx
      have Hs1 := Lib.hid hs1
      have Hs2 := Lib.hid hs2
      have Hwi := Lib.hid hwi
      have Hbx := Lib.hid hbx
      have Hreq := Lib.hid hreq
      have Hrx := Lib.hid hrx
      have Hat1 := Lib.hid hat1
      have Hax := Lib.hid hax
      have Hca2 := Lib.hid hca2
      have Har := Lib.hid har
      have Hdx := Lib.hid hdx
      clear hf hx hgx hs1 hs2 hwi hbx hreq hrx hat1 hax hca2 har hdx
      by_cases hq : rx = R
      · have hrr : (rx == R) = true := by simpa using hq
        have ha0 := hrF hq
        have ha1 : ¬ ax < 0 := by omega
        clear ha0
        have Hq := Lib.hid hq
        have HrF := Lib.hid hrF
        clear hq hrF
        cases ca <;> cases ar
        all_goals
          go_wp2_with (first
            | (go_at_call 29; (with_reducible refine (Hwi.out _).mono ?_); rintro e w' ⟨rfl, rfl⟩; skip)
            | (go_at_call 26; (with_reducible refine (Hreq.out _).mono ?_); rintro e w' ⟨rfl, rfl⟩; skip)
            | (go_at_call 25; (with_reducible refine (Hat1.out _ Hf.out).mono ?_); rintro e w' ⟨rfl, rfl⟩; skip))
          go_roundw
          case rel => exact ⟨k + 1, by omega, rfl, by rw [Hs1.out]; simp, by rw [Hs2.out]; simp, by go_num, Hf.out⟩
          case measure => simp [intOf]; omega
      · have hrr : (rx == R) = false := by simpa using hq
        have Hq := Lib.hid hq
        have HrF := Lib.hid hrF
        clear hq hrF
        cases ca <;> cases ar
        all_goals
          go_wp2_with (first
            | (go_at_call 29; (with_reducible refine (Hwi.out _).mono ?_); rintro e w' ⟨rfl, rfl⟩; skip)
            | (go_at_call 26; (with_reducible refine (Hreq.out _).mono ?_); rintro e w' ⟨rfl, rfl⟩; skip)
            | (go_at_call 25; (with_reducible refine (Hat1.out _ Hf.out).mono ?_); rintro e w' ⟨rfl, rfl⟩; skip))
          go_roundw
          case rel => exact ⟨k + 1, by omega, rfl, by rw [Hs1.out]; simp, by rw [Hs2.out]; simp, by go_num, Hf.out⟩
          case measure => simp [intOf]; omega
    · obtain rfl : k = n := by omega
      have hall : L.take k = L := List.take_of_length_le (by rw [← Hn.out]; exact Nat.le_refl _)
      rw [hall] at hca2 har
      have hF1_ := HF1.out
      rw [← hca2, ← har] at hF1_
      have hat1 := fun W (hW : Frm noB u4 W) => at_any _ _ T s W (Ho3'.out.keep hW) (by have := HTn.out; omega)
      obtain ⟨ka, hka⟩ : ∃ q, q = atL T s := ⟨_, rfl⟩
      rw [← hka] at hF1_
      simp only [← hka] at hat1
      obtain ⟨wa, hwa⟩ : ∃ W : World, W = wr := ⟨_, rfl⟩
      subst hwa
      have Hf := Lib.hid hf
      have Hat1 := Lib.hid hat1
      have Hca2 := Lib.hid hca2
      have Har := Lib.hid har
      have Hall := Lib.hid hall
      have Hka := Lib.hid hka
      have HF1_ := Lib.hid hF1_
      clear hf hat1 hca2 har hall hka hF1_
      go_upto_region 15 with (go_at_call 25; (with_reducible refine (Hat1.out _ Hf.out).mono ?_); rintro e w' ⟨rfl, rfl⟩; skip)
      have hf := Hf.out
      have hca2 := Hca2.out
      have har := Har.out
      have hka := Hka.out
      have hF1 := HF1_.out
      go_cut [98] (fun t W => t = .bool false ∧ Frm noB u4 W)
      case first =>
        by_cases hk0 : 0 ≤ ka
        · rw [decide_eq_true hk0] at hF1
          obtain ⟨q, y, hqy, hyn, hqe⟩ := at_pos (l := T) (s := s) (by rw [← hka]; exact hk0)
          have hkq2 : ka = (q : Int) := hka.trans hqe
          have hmy := HF3.out q y hqy
          rw [hyn, ← hca2] at hmy
          obtain ⟨g, rfl, _, hgl⟩ := Hng.out (by have := get_lt hqy; rw [← Hm.out] at this; omega)
          have c1 := (nod_cells (Ho3'.out.keep hf) hqy).2.1
          have hgw : g < wa.heap.size := Nat.lt_of_lt_of_le hgl (Nat.le_trans Hf34.out.size hf.size)
          have hqm : q < m := by have := get_lt hqy; rw [← Hm.out] at this; omega
          rw [hmy] at c1
          subst hkq2
          clear hca2 har hka
          have Hf := Lib.hid hf
          have Hqy := Lib.hid hqy
          have Hyn := Lib.hid hyn
          have Hqe := Lib.hid hqe
          have Hmy := Lib.hid hmy
          clear hf hqy hyn hqe hmy
          cases ca <;> cases ar
          all_goals
            first
            | (exfalso; exact absurd hF1 (by decide))
            | (clear hF1
               simp only [Bool.not_true, Bool.not_false] at c1
               go_wp2_with fail
               go_meet
               exact ⟨rfl, Hf.out⟩)
        · rw [decide_eq_false hk0] at hF1
          clear hca2 har hka
          have Hf := Lib.hid hf
          clear hf
          cases ca <;> cases ar
          all_goals
            first
            | (exfalso; exact absurd hF1 (by decide))
            | (clear hF1
               go_wp2_with fail
               go_meet
               exact ⟨rfl, Hf.out⟩)
      case rest =>
        obtain ⟨rfl, hfc⟩ := hcut
        clear hca2 har hF1 hka
        have Hfc := Lib.hid hfc
        clear hfc
        go_wp2_with fail
        go_loopw [6, 15, 16, 17] (fun r i ow q wr => ∃ k : Nat, k ≤ m ∧ r = .bool false ∧ i = .int .i64 k ∧ Frm noB u4 wr) (fun _ i _ _ _ => m - (intOf i).toNat)
        case atStart => exact ⟨0, by omega, rfl, rfl, Hfc.out⟩
        case round =>
          obtain ⟨wb, hwb⟩ : ∃ W : World, W = wr := ⟨_, rfl⟩
          subst hwb
          obtain ⟨i, hi, rfl, rfl, hf⟩ := hrel
          by_cases hlt : i < m
          · obtain ⟨y, hy⟩ := get_of_lt (l := T) (j := i) (by rw [← Hm.out]; exact hlt)
            obtain ⟨g, rfl, _, hgl⟩ := Hng.out (by omega)
            have hys := HF6.out i y hy
            have hF4 := fun j x => HF4.out i y j x hy
            have hF5 := HF5.out i y hy
            have Hf := Lib.hid hf
            have Hy := Lib.hid hy
            have HF4 := Lib.hid hF4
            have HF5 := Lib.hid hF5
            clear hf hy hF4 hF5
            go_wp2_with fail
            go_loopw [16, 17] (fun ow q W => ∃ j : Nat, j ≤ k ∧ q = .int .i64 j ∧ ow = .bool (y.miss && (L.take j).any fun x => befL y.name.data.toList (nmB x)) ∧ (∀ (q : Nat) (z : Spn), q < j → L[q]? = some z → ¬ z.name = y.name) ∧ Frm noB u4 W) (fun _ q _ => k - (intOf q).toNat)
            case atStart => exact ⟨0, by omega, rfl, by simp, by omega, Hf.out⟩
            case round =>
              obtain ⟨j, hj, rfl, rfl, hno, hf2⟩ := hrel
              by_cases hjn : j < k
              · obtain ⟨z, hz⟩ := get_of_lt (l := L) (j := j) (by rw [← Hn.out]; exact hjn)
                obtain ⟨g2, rfl, _, hgl2⟩ := Htg.out (by omega)
                have hzs := goods_size (Hgs.out z (List.mem_of_getElem? hz))
                have hgw : g < wr.heap.size := Nat.lt_of_lt_of_le hgl (Nat.le_trans Hf34.out.size hf2.size)
                have hgw2 : g2 < wr.heap.size := Nat.lt_of_lt_of_le hgl2 (Nat.le_trans ((Hf12.out.trans Hf23.out).trans Hf34.out).size hf2.size)
                by_cases hq : z.name = y.name
                · obtain ⟨hmy, hsy⟩ := HF4.out j z hz hq hno
                  have hcy := nod_cells (Ho3'.out.keep hf2) Hy.out
                  have hcz := spn_cells (Ho1'.out.keep hf2) hz
                  have hst := str_yes hq
                  have hst2 : (z.name.toList == z.name.toList) = true := str_yes rfl
                  obtain ⟨y0, y1, y2⟩ := y
                  simp only at hmy hsy hcy hst
                  subst hmy
                  subst hsy
                  obtain ⟨c0, c1, c2, c3, c4, c5, c6, c7⟩ := hcy
                  obtain ⟨d0, d1, d2, d3, d4, d5⟩ := hcz
                  have Hno := Lib.hid hno
                  have Hf2 := Lib.hid hf2
                  have Hz := Lib.hid hz
                  have Hq := Lib.hid hq
                  clear hno hf2 hz hq
                  go_wp2_with fail
                  go_quiet (fail)
                  go_wp2_with fail
                  go_quiet (fail)
                  go_wp2_with fail
                  go_roundw
                  case rel => exact ⟨i + 1, by omega, rfl, by go_num, Hf2.out.drewN _⟩
                  case measure => simp [intOf]; omega
                · have hst := str_ne hq
                  have hno2 : ∀ (q : Nat) (w : Spn), q < j + 1 → L[q]? = some w → ¬ w.name = y.name := fun q w hqj hw => by
                    rcases Nat.lt_or_ge q j with h | h
                    · exact hno q w h hw
                    · obtain rfl : q = j := by omega
                      rw [hz] at hw; cases hw; exact hq
                  have hs1 := any_snoc hz (fun x => befL y.name.data.toList (nmB x))
                  obtain ⟨ob, hob⟩ : ∃ b, b = ((L.take j).any fun x => befL y.name.data.toList (nmB x)) := ⟨_, rfl⟩
                  rw [← hob] at hs1 ⊢
                  obtain ⟨bz, hbz⟩ : ∃ b, b = befL y.name.data.toList (nmB z) := ⟨_, rfl⟩
                  rw [← hbz] at hs1
                  have hwi := fun W => within_any y.name z.name W (by omega)
                  rw [show befL y.name.data.toList z.name.data.toList = bz from hbz.symm] at hwi
                  have hwq : ∀ W : World, Calls Tryd.prog 29 #[.string y.name, .string z.name] W fun e w' => e = .returned (.bool bz) ∧ w' = W := fun W => (hwi W).mono (fun _ _ h => ⟨h.1, h.2.symm⟩)
                  have d0 := (spn_cells (Ho1'.out.keep hf2) hz).1
                  have c0 := (nod_cells (Ho3'.out.keep hf2) Hy.out).1
                  have c1 := (nod_cells (Ho3'.out.keep hf2) Hy.out).2.1
                  have Hno := Lib.hid hno
                  have Hf2 := Lib.hid hf2
                  have Hz := Lib.hid hz
                  have Hq := Lib.hid hq
                  have Hno2 := Lib.hid hno2
                  have Hs1 := Lib.hid hs1
                  have Hob := Lib.hid hob
                  have Hbz := Lib.hid hbz
                  have Hwq := Lib.hid hwq
                  clear hno hf2 hz hq hno2 hs1 hob hbz hwq
                  clear hwi
                  cases hm2 : y.miss
                  · rw [hm2] at c1
                    have Hm2 := Lib.hid hm2
                    clear hm2
                    rw [Bool.false_and]
                    go_wp2_with fail
                    go_quiet (fail)
                    have c0' : (wr.drewN nq).cell? ⟨g, i * 8, none⟩ = some (.string y.name) := c0
                    have c1' : (wr.drewN nq).cell? ⟨g, i * 8 + 1, none⟩ = some (.bool false) := c1
                    have d0' : (wr.drewN nq).cell? ⟨g2, j * 6, none⟩ = some (.string z.name) := d0
                    have hgw' : g < (wr.drewN nq).heap.size := hgw
                    have hgw2' : g2 < (wr.drewN nq).heap.size := hgw2
                    have Hf3 := Lib.hid (Hf2.out.drewN nq)
                    clear c0 c1 d0 hgw hgw2
                    generalize wr.drewN nq = wq at *
                    go_wp2_with fail
                    go_quiet (fail)
                    go_wp2_with fail
                    go_roundw
                    case rel => exact ⟨j + 1, by omega, by go_num, by simp, Hno2.out, Hf3.out.drewN _⟩
                    case measure => simp [intOf]; omega
                  · rw [hm2] at c1
                    have Hm2 := Lib.hid hm2
                    clear hm2
                    rw [Bool.true_and]
                    cases ob
                    · go_wp2_with fail
                      go_quiet (fail)
                      have c0' : (wr.drewN nq).cell? ⟨g, i * 8, none⟩ = some (.string y.name) := c0
                      have c1' : (wr.drewN nq).cell? ⟨g, i * 8 + 1, none⟩ = some (.bool true) := c1
                      have d0' : (wr.drewN nq).cell? ⟨g2, j * 6, none⟩ = some (.string z.name) := d0
                      have hgw' : g < (wr.drewN nq).heap.size := hgw
                      have hgw2' : g2 < (wr.drewN nq).heap.size := hgw2
                      have Hf3 := Lib.hid (Hf2.out.drewN nq)
                      clear c0 c1 d0 hgw hgw2
                      generalize wr.drewN nq = wq at *
                      go_wp2_with fail
                      go_quiet (first | (go_at_call 29; first | with_reducible exact Calls.quiet_of_same (Hwq.out _)))
                      go_wp2_with fail
                      go_roundw
                      case rel => exact ⟨j + 1, by omega, by go_num, by rw [Hs1.out]; simp, Hno2.out, Hf3.out.drewN _⟩
                      case measure => simp [intOf]; omega
                    · go_wp2_with fail
                      go_quiet (fail)
                      have c0' : (wr.drewN nq).cell? ⟨g, i * 8, none⟩ = some (.string y.name) := c0
                      have c1' : (wr.drewN nq).cell? ⟨g, i * 8 + 1, none⟩ = some (.bool true) := c1
                      have d0' : (wr.drewN nq).cell? ⟨g2, j * 6, none⟩ = some (.string z.name) := d0
                      have hgw' : g < (wr.drewN nq).heap.size := hgw
                      have hgw2' : g2 < (wr.drewN nq).heap.size := hgw2
                      have Hf3 := Lib.hid (Hf2.out.drewN nq)
                      clear c0 c1 d0 hgw hgw2
                      generalize wr.drewN nq = wq at *
                      go_wp2_with fail
                      go_quiet (fail)
                      go_wp2_with fail
                      go_roundw
                      case rel => exact ⟨j + 1, by omega, by go_num, by rw [Hs1.out]; simp, Hno2.out, Hf3.out.drewN _⟩
                      case measure => simp [intOf]; omega
              · obtain rfl : j = k := by omega
                have hno2 : ∀ z ∈ L, ¬ z.name = y.name := fun z hz => by
                  obtain ⟨q, hq⟩ := List.getElem?_of_mem hz
                  exact hno q z (by rw [Hn.out]; exact get_lt hq) hq
                obtain ⟨hm2, han⟩ := HF5.out hno2
                rw [List.take_of_length_le (by rw [← Hn.out]; exact Nat.le_refl _), hm2, han, Bool.true_and]
                have Hno := Lib.hid hno
                have Hf2 := Lib.hid hf2
                have Hno2 := Lib.hid hno2
                have Hm2 := Lib.hid hm2
                have Han := Lib.hid han
                clear hno hf2 hno2 hm2 han
                go_wp2_with fail
                go_roundw
                case rel => exact ⟨i + 1, by omega, rfl, by go_num, Hf2.out⟩
                case measure => simp [intOf]; omega
          · obtain rfl : i = m := by omega
            have Hfe := Lib.hid (((Hfu1.out.trans ((Hf12.out.trans Hf23.out).trans Hf34.out))).trans hf)
            go_wp2_with (go_at_call 20; (with_reducible refine (clives_any _).mono ?_); rintro e u9 ⟨rfl, hf9⟩; have Hfu9 := Lib.hid (Hfe.out.trans hf9); clear hf9)
            go_ret
            exact ⟨rfl, Hfu9.out.below (Nat.le_refl _) (fun _ _ h => h)⟩
end Go.Proofs.YtpgcfeplcibhoaaDoor
