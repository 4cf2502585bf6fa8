/- The walk of the statement CollectWhole. (Printed by gencol7.py.) -/
import Derived.Test.YtpgcfeplcibhoaaDoorColForestP
import Derived.Test.YtpgcfeplcibhoaaDoorColPrint
import Derived.Test.YtpgcfeplcibhoaaDoorColRSpans
import Derived.Test.YtpgcfeplcibhoaaDoorColLives
import Derived.Test.YtpgcfeplcibhoaaDoorColWithin
import Derived.Test.YtpgcfeplcibhoaaDoorColRTree
import Derived.Test.YtpgcfeplcibhoaaDoorColRTake
import Derived.Test.YtpgcfeplcibhoaaDoorColRPrint
import Derived.Test.YtpgcfeplcibhoaaDoorTraceUp
import Derived.Test.YtpgcfeplcibhoaaDoorIntsL
import Derived.Deep.RegionLaw
import Derived.Deep.RegionHeld3
import Derived.Deep.DeepCutAuto
import Derived.StillTailTactics
import Derived.RegionTactic
set_option linter.unusedVariables false
set_option linter.unusedSimpArgs false
namespace Go.Proofs.YtpgcfeplcibhoaaDoor
open Go.RowKit

/-- What the statement puts in the place of what is missing. -/
def fillS (nm : ByteArray) : Spn := ⟨nm, 1, 0, 0, true, 0⟩
def fillN (y : Nod) : Nod := ⟨y.name, false, if y.miss then fillS y.name else y.s⟩
def stepW (L : List Spn) (x : Nod) : List Spn := if x.miss then takeL L (fillS x.name) else L
theorem fillW (C : List Spn) (xs : List Nod) (k : List UInt8) : ∀ L, fndS (xs.foldl stepW L) k = (fndS L k).or ((xs.find? fun x => x.miss && decide (x.name.data.toList = k)).map fun x => fillS x.name) := by
  induction xs with
  | nil => intro L; simp
  | cons x r ih =>
    intro L
    rw [List.foldl_cons, ih, List.find?_cons]
    unfold stepW
    cases hm : x.miss
    · simp
    · simp only [if_true, Bool.true_and]
      rw [fnd_take]
      by_cases e : x.name.data.toList = k
      · have e2 : nmB (fillS x.name) = k := e
        rw [if_pos e2, decide_eq_true e, Option.or_assoc]
        simp
      · have e2 : ¬ nmB (fillS x.name) = k := e
        rw [if_neg e2, decide_eq_false e, Option.or_none]
theorem stepW_once (xs : List Nod) : ∀ L, Once L → Once (xs.foldl stepW L) := by
  induction xs with
  | nil => exact fun L h => h
  | cons x r ih =>
    intro L h
    refine ih _ ?_
    unfold stepW
    split
    · exact once_take h _
    · exact h
theorem stepW_len (xs : List Nod) : ∀ L, (xs.foldl stepW L).length ≤ L.length + xs.length := by
  induction xs with
  | nil => intro L; simp
  | cons x r ih =>
    intro L
    have h1 := ih (stepW L x)
    have h2 : (stepW L x).length ≤ L.length + 1 := by
      unfold stepW
      split
      · unfold takeL; split <;> simp
      · omega
    rw [List.foldl_cons, List.length_cons]; omega
theorem fill_good {x : Nod} (h : GoodB x.name.data.toList) : GoodS (fillS x.name) := ⟨h, by show (0 : Int) ≤ 1 ∧ (1 : Int) ≤ 99; omega, by show (0 : Int) ≤ 0 ∧ (0 : Int) ≤ 99; omega, by show (0 : Int) ≤ 0 ∧ (0 : Int) ≤ 99; omega⟩
theorem stepW_good (xs : List Nod) : ∀ L, (∀ s ∈ L, GoodS s) → (∀ x ∈ xs, GoodB x.name.data.toList) → ∀ s ∈ xs.foldl stepW L, GoodS s := by
  induction xs with
  | nil => exact fun L h _ => h
  | cons x r ih =>
    intro L h hx
    refine ih _ ?_ (fun y hy => hx y (List.mem_cons_of_mem _ hy))
    unfold stepW
    split
    · unfold takeL
      split
      · exact h
      · intro s hs
        rcases List.mem_append.1 hs with h1 | h1
        · exact h s h1
        · simp at h1; rw [h1]; exact fill_good (hx x (by simp))
    · exact h
theorem find_name {l : List Nod} (hs : Srt l) {y : Nod} (hy : y ∈ l) (hm : y.miss = true) : l.find? (fun x => x.miss && decide (x.name.data.toList = y.name.data.toList)) = some y := by
  cases hf : l.find? (fun x => x.miss && decide (x.name.data.toList = y.name.data.toList)) with
  | none =>
    rw [List.find?_eq_none] at hf
    have := hf y hy
    simp [hm] at this
  | some z =>
    have h1 := List.mem_of_find?_eq_some hf
    have h2 := List.find?_some hf
    simp only [Bool.and_eq_true, decide_eq_true_eq] at h2
    obtain ⟨i, hi⟩ := List.getElem?_of_mem h1
    obtain ⟨j, hj⟩ := List.getElem?_of_mem hy
    have := srt_name hs hi hj (ba_ext h2.2)
    subst this
    rw [hi] at hj; exact hj
theorem fill_tree {C : List Spn} (hC : Once C) (hG : ∀ s ∈ C, GoodS s) (r : Int) : treeL ((treeL C r).foldl stepW C) r = (treeL C r).map fillN := by
  have hD : Once ((treeL C r).foldl stepW C) := stepW_once _ _ hC
  have hsrt : Srt ((treeL C r).map fillN) := by
    unfold Srt
    rw [List.pairwise_map]
    exact (tree_srt C r).imp (fun h => h)
  have hfw := fillW C (treeL C r)
  refine srt_ext _ _ (tree_srt _ _) hsrt (fun x => ?_)
  rw [tree_mem hD, List.mem_map]
  have inT : ∀ a, fndS C a = none → (∃ s, fndS C (nmB s) = some s ∧ rqS s = r ∧ a ∈ ups (nmB s)) → fndS ((treeL C r).foldl stepW C) a ≠ none := by
    intro a ha ⟨s, hs, hr, hu⟩ hn
    have hm : goneN (bs a) ∈ treeL C r := (tree_mem hC r _).2 (.inr ⟨rfl, rfl, ha, s, hs, hr, hu⟩)
    have := find_name (tree_srt C r) hm rfl
    rw [hfw, ha] at hn
    rw [show (goneN (bs a)).name.data.toList = a from rfl] at this
    rw [this] at hn
    simp at hn
  constructor
  · rintro (⟨h1, h2, h3⟩ | ⟨h1, h2, h3, s, hs, hr, hu⟩)
    · rw [hfw] at h2
      cases hf : fndS C x.name.data.toList with
      | some z =>
        rw [hf] at h2
        simp only [Option.some_or, Option.some.injEq] at h2
        refine ⟨⟨x.name, false, z⟩, (tree_mem hC r _).2 (.inl ⟨rfl, hf, h3⟩), ?_⟩
        obtain ⟨a, b, c⟩ := x
        simp only at h1 h2
        rw [h1, ← h2]; rfl
      | none =>
        rw [hf] at h2
        simp only [Option.none_or, Option.map_eq_some_iff] at h2
        obtain ⟨y, hy, he⟩ := h2
        have g1 := List.mem_of_find?_eq_some hy
        have g2 := List.find?_some hy
        simp only [Bool.and_eq_true, decide_eq_true_eq] at g2
        refine ⟨y, g1, ?_⟩
        obtain ⟨a, b, c⟩ := x
        simp only at h1 g2 he
        unfold fillN
        rw [if_pos g2.1, he, h1, ba_ext g2.2]
    · exfalso
      rw [hfw] at h3 hs
      have hn : fndS C x.name.data.toList = none := by cases hf : fndS C x.name.data.toList with
        | none => rfl
        | some z => rw [hf] at h3; simp at h3
      cases hf : fndS C (nmB s) with
      | some z =>
        rw [hf] at hs
        simp only [Option.some_or, Option.some.injEq] at hs
        subst hs
        exact inT _ hn ⟨z, hf, hr, hu⟩ (by rw [hfw]; exact h3)
      | none =>
        rw [hf] at hs
        simp only [Option.none_or, Option.map_eq_some_iff] at hs
        obtain ⟨y, hy, he⟩ := hs
        have g1 := List.mem_of_find?_eq_some hy
        have g2 := List.find?_some hy
        simp only [Bool.and_eq_true, decide_eq_true_eq] at g2
        rcases (tree_mem hC r y).1 g1 with ⟨b1, _⟩ | ⟨_, _, _, s2, hs2, hr2, hu2⟩
        · rw [g2.1] at b1; cases b1
        · exact inT _ hn ⟨s2, hs2, hr2, ups_trans hu (by rw [← g2.2]; exact hu2)⟩ (by rw [hfw]; exact h3)
  · rintro ⟨y, hy, rfl⟩
    left
    obtain ⟨hgy, hry⟩ := isT_good hG ((tree_mem hC r y).1 hy)
    refine ⟨rfl, ?_, hry⟩
    rw [hfw, show (fillN y).name = y.name from rfl]
    show _ = some (if y.miss then fillS y.name else y.s)
    rcases (tree_mem hC r y).1 hy with ⟨b1, b2, _⟩ | ⟨b1, _, b3, _⟩
    · rw [b2, b1]; rfl
    · rw [b3, find_name (tree_srt C r) hy b1, b1]; rfl
theorem fill_new {C : List Spn} (hC : Once C) {r : Int} {i : Nat} {y : Nod} (hi : (treeL C r)[i]? = some y) (hm : y.miss = true) : isInB (((treeL C r).take i).foldl stepW C) (fillS y.name) = false := by
  unfold isInB
  have h1 : fndS C (nmB (fillS y.name)) = none := by
    rcases (tree_mem hC r y).1 (List.mem_of_getElem? hi) with ⟨b1, _⟩ | ⟨_, _, b3, _⟩
    · rw [hm] at b1; cases b1
    · exact b3
  rw [fillW C, h1]
  have h2 : ((treeL C r).take i).find? (fun x => x.miss && decide (x.name.data.toList = nmB (fillS y.name))) = none := by
    rw [List.find?_eq_none]
    intro z hz
    obtain ⟨j, hj⟩ := List.getElem?_of_mem hz
    have hji := get_lt hj
    rw [List.length_take] at hji
    rw [List.getElem?_take_of_lt (by omega)] at hj
    simp only [Bool.and_eq_true, decide_eq_true_eq, not_and]
    intro _ e
    have := srt_name (tree_srt C r) hj hi (ba_ext e)
    omega
  rw [h2]; rfl
theorem stepW_snoc {C : List Spn} {l : List Nod} {i : Nat} {y : Nod} (hi : l[i]? = some y) : (l.take (i + 1)).foldl stepW C = stepW ((l.take i).foldl stepW C) y := by
  rw [List.take_add_one, hi, List.foldl_append]; rfl
theorem ColIs.more {w : World} {b k k' : Nat} {L : List Spn} {O : Nat → Prop} (h : ColIs w b L k O) (hk : k ≤ k') : ColIs w b L k' O := by
  obtain ⟨m1, m2, rows, h⟩ := h
  exact ⟨m1, m2, rows, h.mono hk⟩
def cntM (l : List Nod) : Nat := (l.filter (·.miss)).length
theorem cntM_snoc {l : List Nod} {i : Nat} {y : Nod} (hi : l[i]? = some y) : cntM (l.take (i + 1)) = cntM (l.take i) + if y.miss then 1 else 0 := by
  unfold cntM
  rw [List.take_add_one, hi, List.filter_append, List.length_append]
  cases h : y.miss <;> simp [h]
theorem cntM_zero (l : List Nod) : decide (cntM l = 0) = l.all fun x => !x.miss := by
  unfold cntM
  rw [Bool.eq_iff_iff, decide_eq_true_iff, List.length_eq_zero_iff, List.filter_eq_nil_iff, List.all_eq_true]
  exact ⟨fun h x hx => by simpa using h x hx, fun h x hx => by simpa using h x hx⟩
set_option maxRecDepth 100000 in
set_option maxHeartbeats 8000000 in
theorem collectWhole_walk (a0 : Option Addr) (len0 cap0 : Nat) (z0 : List Int) (a1 : Int) (w : World) (w0 : IsRow .i64 w a0 len0 cap0 z0) (w1 : (Lit.int .i64 a1).wf = true) :
    Calls Tryd.prog 8 #[.slice a0 len0 cap0, .int .i64 a1] w fun e w' => e = .returned (.bool true) ∧ Below w.heap.size w w' := by
  obtain ⟨xs, hxs⟩ := w0.list
  have Hxs := Lib.hid hxs
  clear hxs
  clear w0
  have bq := wf_i64 w1
  obtain ⟨kq, hkq⟩ : ∃ k, k = around a1 3 := ⟨_, rfl⟩
  have hkq3 : kq < 3 := by have := around_lt a1 3 (by omega); omega
  have hca := fun W => around_any a1 3 W bq.1 bq.2 (by omega) (by omega)
  simp only [← hkq] at hca
  obtain ⟨wz, hwz⟩ : ∃ W : World, W = w.alloc (.cells #[.int .i64 1, .int .i64 2, .int .i64 11] 3) := ⟨_, rfl⟩
  have hpc := pick_cell w kq hkq3
  have Hfz : Hid (Frm noB w wz) := Lib.hid (by rw [hwz]; exact (Frm.refl noB w).alloc _)
  have hlz : w.heap.size < wz.heap.size := by rw [hwz]; simp
  rw [← hwz] at hpc
  obtain ⟨R, hR⟩ : ∃ R, R = pick3 kq := ⟨_, rfl⟩
  rw [← hR] at hpc
  have HRq : Hid (IsReq R) := Lib.hid (by rw [hR]; exact pick_req kq)
  have Hca := Lib.hid hca
  have HR := Lib.hid hR
  have Hwz := Lib.hid hwz
  have Hbq := Lib.hid bq
  have Hkq := Lib.hid hkq
  clear hca hR hwz bq hkq
  go_enter Tryd.func8, Tryd.ntmps8
  go_upto_region 2 with (go_at_call 21; refine (Hca.out _).mono ?_; rintro e w' ⟨rfl, rfl⟩; rw [← Hwz.out])
  clear hpc
  have hgs := goods30 xs
  have hls := spans30_len xs
  have hspc := rspans_any a0 len0 cap0 xs wz (Hxs.out.keep Hfz.out)
  obtain ⟨L, hL⟩ : ∃ L, L = spans30 xs := ⟨_, rfl⟩
  rw [← hL] at hgs hls hspc
  have hwfR : (Lit.int .i64 R).wf = true := WalkArith.wf_i64 (by have := HRq.out.bd; omega)
  have Hgs := Lib.hid hgs
  have Hls := Lib.hid hls
  have Hspc := Lib.hid hspc
  have HwfR := Lib.hid hwfR
  clear hgs hls hspc hwfR
  have hnL : ∀ s ∈ L, s.name.size ≤ 1000 := fun s hs => by have := goods_size (Hgs.out s hs); omega
  have HnL := Lib.hid hnL
  clear hnL
  clear hL
  obtain ⟨C, hC⟩ : ∃ C, C = L.foldl takeL [] := ⟨_, rfl⟩
  have hoC : Once C := by rw [hC]; exact once_col L
  have hgC : ∀ s ∈ C, GoodS s := by rw [hC]; exact col_good Hgs.out
  have hlC : C.length ≤ 16 := by rw [hC]; have := col_len L []; simp only [List.length_nil] at this; have := Hls.out; omega
  have hTl := treeL_len hgC R
  have htr := fun W b O (h : ColIs W b C L.length O) => tree_is b L.length C O R W h hoC hgC (by omega) HwfR.out
  have hwh := fun W b O (h : ColIs W b C L.length O) => whole_is b L.length C O R W h hgC (by omega) HwfR.out
  have hk1 := fun v W B (hW : Own spnE W B 30 v L) => taken_any B v L W hW (by have := Hls.out; omega) HnL.out
  rw [← hC] at hk1
  have hgT : ∀ x ∈ treeL C R, GoodB x.name.data.toList := fun x hx => (isT_good hgC ((tree_mem hoC R x).1 hx)).1
  have hft := fill_tree hoC hgC R
  have hfn : ∀ i y, (treeL C R)[i]? = some y → y.miss = true → isInB (((treeL C R).take i).foldl stepW C) (fillS y.name) = false := fun i y => fill_new hoC
  have hoD : Once ((treeL C R).foldl stepW C) := stepW_once _ _ hoC
  have hgD : ∀ s ∈ (treeL C R).foldl stepW C, GoodS s := stepW_good _ _ hgC hgT
  have hlD : ((treeL C R).foldl stepW C).length ≤ 300 := by have := stepW_len (treeL C R) C; omega
  have hwa : (missL C R).isEmpty = decide (cntM (treeL C R) = 0) := by rw [cntM_zero]; exact whole_all hoC R
  have hwb : (missL ((treeL C R).foldl stepW C) R).isEmpty = true := by
    rw [whole_all hoD, hft, List.all_map, List.all_eq_true]
    intro x _; rfl
  have hlen : ∀ i, (((treeL C R).take i).foldl stepW C).length ≤ 300 := fun i => by
    have h1 := stepW_len ((treeL C R).take i) C
    rw [List.length_take] at h1; omega
  have htD := fun W b k O (h : ColIs W b ((treeL C R).foldl stepW C) k O) => tree_is b k _ O R W h hoD hgD (by omega) HwfR.out
  have hwD := fun W b k O (h : ColIs W b ((treeL C R).foldl stepW C) k O) => whole_is b k _ O R W h hgD (by omega) HwfR.out
  rw [hft] at htD
  rw [hwb] at hwD
  rw [hwa] at hwh
  obtain ⟨T, hT⟩ : ∃ T, T = treeL C R := ⟨_, rfl⟩
  have hTn : T.length ≤ 300 := by rw [hT]; omega
  rw [← hT] at htr hgT hfn hlen htD hwD hwh hoD hgD hlD
  obtain ⟨U, hU⟩ : ∃ U, U = T.map fillN := ⟨_, rfl⟩
  rw [← hU] at htD
  have hUl : U.length = T.length := by rw [hU, List.length_map]
  have hUi : ∀ i y, T[i]? = some y → U[i]? = some (fillN y) := fun i y h => by rw [hU, List.getElem?_map, h]; rfl
  clear hTl hlC
  have HoC := Lib.hid hoC
  have HgC := Lib.hid hgC
  have HC := Lib.hid hC
  have Htr := Lib.hid htr
  have Hwh := Lib.hid hwh
  have Hk1 := Lib.hid hk1
  have HgT := Lib.hid hgT
  have Hft := Lib.hid hft
  have Hfn := Lib.hid hfn
  have HoD := Lib.hid hoD
  have HgD := Lib.hid hgD
  have HlD := Lib.hid hlD
  have Hwa := Lib.hid hwa
  have Hwb := Lib.hid hwb
  have Hlen := Lib.hid hlen
  have HtD := Lib.hid htD
  have HwD := Lib.hid hwD
  have HT := Lib.hid hT
  have HTn := Lib.hid hTn
  have HU := Lib.hid hU
  have HUl := Lib.hid hUl
  have HUi := Lib.hid hUi
  clear hoC hgC hC htr hwh hk1 hgT hft hfn hoD hgD hlD hwa hwb hlen htD hwD hT hTn hU hUl hUi
  go_upto_region 5 with (first
    | (go_at_call 11; (with_reducible refine (Hspc.out).mono ?_); rintro e u1 ⟨v1, rfl, ho1, hf1⟩; have Ho1 := Lib.hid ho1; have Hfu1 := Lib.hid (Hfz.out.trans hf1); clear ho1 hf1)
    | (go_at_call 22; (with_reducible refine (Hk1.out _ _ _ Ho1.out).mono ?_); rintro e u2 ⟨b2, O2, rfl, hc, hf, hO⟩; have Hc2 := Lib.hid hc; have Hf12 := Lib.hid hf; have HO2 := Lib.hid hO; clear hc hf hO)
    | (go_at_call 14; (with_reducible refine (Htr.out _ _ _ Hc2.out).mono ?_); rintro e u3 ⟨v3, rfl, ho, hf⟩; have Ho3 := Lib.hid ho; have Hc3 := Lib.hid (Hc2.out.keep hf); have Hf23 := Lib.hid hf; have Hf13 := Lib.hid (Hf12.out.trans hf); clear ho hf))
  have Hlt2 := Lib.hid Hc2.out.lt
  obtain ⟨na, nc, hnv, _, hng⟩ := Ho3.out.shape
  obtain ⟨m, hm⟩ : ∃ m, m = T.length := ⟨_, rfl⟩
  rw [← hm] at hnv hng
  subst hnv
  have hm3 : m ≤ 300 := by rw [hm]; exact HTn.out
  have hO3 : ∀ i, O2 i → u1.heap.size ≤ i ∧ i < u2.heap.size := fun i hi => ⟨HO2.out i hi, Hlt2.out i hi⟩
  have Hng := Lib.hid hng
  have Hm := Lib.hid hm
  have HO3 := Lib.hid hO3
  clear hng hm hO3
  clear hlz
  go_wp2_with fail
  go_loopw [4, 9, 10] (fun r c i wr => ∃ (k : Nat) (O : Nat → Prop), k ≤ m ∧ r = .bool false ∧ c = .int .i64 (cntM (T.take k) : Nat) ∧ i = .int .i64 k ∧ cntM (T.take k) ≤ k ∧ ColIs wr b2 ((T.take k).foldl stepW C) (L.length + k) O ∧ (∀ i, O i → (u1.heap.size ≤ i ∧ i < u2.heap.size) ∨ u3.heap.size ≤ i) ∧ Own nodE wr u2.heap.size 49 (.slice na m nc) T ∧ Frm noB u1 wr ∧ u3.heap.size ≤ wr.heap.size) (fun _ _ i _ => m - (intOf i).toNat)
  case atStart => exact ⟨0, O2, by omega, rfl, rfl, rfl, by simp [cntM], Hc3.out, fun i hi => .inl (HO3.out i hi), Ho3.out, Hf13.out, Nat.le_refl _⟩
  case round =>
    obtain ⟨k, O, hk, rfl, rfl, rfl, hcn, hc, hO, ho, hf, hz⟩ := hrel
    by_cases hlt : k < m
    · obtain ⟨y, hy⟩ := get_of_lt (l := T) (j := k) (by rw [← Hm.out]; exact hlt)
      obtain ⟨g, rfl, hgl0, hgl⟩ := Hng.out (by omega)
      have hcy := nod_cells ho hy
      have c0 := hcy.1
      have c1 := hcy.2.1
      have hgw : g < wr.heap.size := Nat.lt_of_lt_of_le hgl hz
      have hcs := cntM_snoc hy
      have hst := stepW_snoc (C := C) hy
      have hgy := HgT.out y (List.mem_of_getElem? hy)
      have hys : y.name.size ≤ 16 := by have := hgy.len; rwa [ba_len] at this
      have hnew := Hfn.out k y hy
      obtain ⟨cn, hcnn⟩ : ∃ c, c = cntM (T.take k) := ⟨_, rfl⟩
      rw [← hcnn] at hcs hcn ⊢
      obtain ⟨D, hD⟩ : ∃ D, D = (T.take k).foldl stepW C := ⟨_, rfl⟩
      rw [← hD] at hc hst hnew
      have hDl : D.length ≤ 300 := by rw [hD]; exact Hlen.out k
      have hLl := Hls.out
      clear hcy
      cases hm2 : y.miss
      · rw [hm2] at c1 hcs
        have hst2 : (T.take (k + 1)).foldl stepW C = D := by rw [hst]; unfold stepW; rw [hm2, if_neg (by decide)]
        have Hc := Lib.hid hc
        have HO := Lib.hid hO
        have Ho := Lib.hid ho
        have Hf := Lib.hid hf
        have Hy := Lib.hid hy
        have Hcs := Lib.hid hcs
        have Hst := Lib.hid hst
        have Hgy := Lib.hid hgy
        have Hnew := Lib.hid hnew
        have Hcnn := Lib.hid hcnn
        have HD := Lib.hid hD
        have Hm2 := Lib.hid hm2
        have Hst2 := Lib.hid hst2
        clear hc hO ho hf hy hcs hst hgy hnew hcnn hD hm2 hst2
        go_wp2_with fail
        go_roundw
        case rel => exact ⟨k + 1, O, by omega, rfl, by rw [Hcs.out]; rfl, by go_num, by rw [Hcs.out]; simp; omega, by rw [Hst2.out]; exact ColIs.more Hc.out (by omega), HO.out, Ho.out, Hf.out, hz⟩
        case measure => simp [intOf]; omega
      · rw [hm2] at c1 hcs
        have hst2 : (T.take (k + 1)).foldl stepW C = takeL D (fillS y.name) := by rw [hst]; unfold stepW; rw [hm2, if_pos rfl]
        have htk := ctake_any b2 (L.length + k) D O (fillS y.name) wr hc (by omega) (by omega) (by show y.name.size ≤ _; omega)
        rw [hnew hm2, ← hst2] at htk
        simp only [spnV, fillS] at htk
        obtain ⟨yn, hyn⟩ : ∃ n, n = y.name := ⟨_, rfl⟩
        rw [← hyn] at c0 htk
        have Hc := Lib.hid hc
        have HO := Lib.hid hO
        have Ho := Lib.hid ho
        have Hf := Lib.hid hf
        have Hy := Lib.hid hy
        have Hcs := Lib.hid hcs
        have Hst := Lib.hid hst
        have Hgy := Lib.hid hgy
        have Hnew := Lib.hid hnew
        have Hcnn := Lib.hid hcnn
        have HD := Lib.hid hD
        have Hm2 := Lib.hid hm2
        have Hst2 := Lib.hid hst2
        have Htk := Lib.hid htk
        have Hyn := Lib.hid hyn
        clear hc hO ho hf hy hcs hst hgy hnew hcnn hD hm2 hst2 htk hyn
        go_wp2_with (go_at_call 13; (with_reducible refine (Htk.out).mono ?_); rintro e w2 ⟨rfl, O', hc2, hf2, hO2⟩; have Hcn := Lib.hid hc2; have HOn := Lib.hid (show ∀ i, O' i → (u1.heap.size ≤ i ∧ i < u2.heap.size) ∨ u3.heap.size ≤ i from fun i hi => by rcases hO2 i hi with e | e; exact HO.out i e; exact .inr (Nat.le_trans hz e)); have Hon := Lib.hid (Ho.out.frm hf2 (fun q hq e => by have e1 := HO.out q e; have e2 : q = g := (by simpa [Value.ownBlock] using hq.symm); omega)); have Hfn2 := Lib.hid (Hf.out.new hf2 (fun i hi e => by have e1 := HO.out i e; have := Hf13.out.size; omega)); have Hzn := Lib.hid (Nat.le_trans hz hf2.size); clear hc2 hf2 hO2)
        go_roundw
        case rel => exact ⟨k + 1, O', by omega, rfl, by rw [Hcs.out]; go_num, by go_num, by rw [Hcs.out]; simp; omega, Hcn.out, HOn.out, Hon.out, Hfn2.out, Hzn.out⟩
        case measure => simp [intOf]; omega
    · obtain rfl : k = m := by omega
      have hall : T.take k = T := List.take_of_length_le (by rw [← Hm.out]; exact Nat.le_refl _)
      rw [hall] at hc hcn ⊢
      have htD := fun W (hW : Frm noB wr W) => HtD.out W b2 _ O (hc.keep hW)
      have hwD := fun W (hW : Frm noB wr W) => HwD.out W b2 _ O (hc.keep hW)
      have hk9 := fun W (hW : Frm noB wr W) => Hk1.out _ W _ ((Ho1.out.keep hf).keep hW)
      obtain ⟨cn, hcnn⟩ : ∃ c, c = cntM T := ⟨_, rfl⟩
      have hwh := Hwh.out
      rw [← hcnn] at hwh hcn ⊢
      obtain ⟨eb, heb⟩ : ∃ e, e = decide (cn = 0) := ⟨_, rfl⟩
      rw [← heb] at hwh
      have hce : ((cn : Int) == 0) = eb := by
        rw [heb]
        by_cases h : cn = 0
        · rw [decide_eq_true h, h]; rfl
        · rw [decide_eq_false h]; simp; omega
      have hee : (eb == eb) = true := by simp
      obtain ⟨wa, hwa9⟩ : ∃ W : World, W = wr := ⟨_, rfl⟩
      subst hwa9
      have Hgwa := Lib.hid (Frm.refl noB wa)
      have Hfwa := Lib.hid (Hfu1.out.trans hf)
      have Hc := Lib.hid hc
      have HO := Lib.hid hO
      have Ho := Lib.hid ho
      have Hf := Lib.hid hf
      have Hall := Lib.hid hall
      have HtD := Lib.hid htD
      have HwD := Lib.hid hwD
      have Hk9 := Lib.hid hk9
      have Hcnn := Lib.hid hcnn
      have Hwh := Lib.hid hwh
      have Heb := Lib.hid heb
      have Hcn := Lib.hid hcn
      clear hc hO ho hf hall htD hwD hk9 hcnn hwh heb hcn
      go_upto_region 14 with (go_at_call 14; (with_reducible refine (HtD.out _ Hgwa.out).mono ?_); rintro e u4 ⟨v4, rfl, ho, hf⟩; have Ho4 := Lib.hid ho; have Ho34 := Lib.hid (Ho.out.keep hf); have Hg4 := Lib.hid hf; clear ho hf)
      obtain ⟨pa, pc, hpv, _, hpg⟩ := Ho4.out.shape
      rw [HUl.out, ← Hm.out] at hpv hpg
      subst hpv
      have Hpg := Lib.hid hpg
      clear hpg
      go_wp2_with fail
      go_loopw [4, 12] (fun r i wr => ∃ j : Nat, j ≤ k ∧ r = .bool false ∧ i = .int .i64 j ∧ Frm noB u4 wr) (fun _ i _ => k - (intOf i).toNat)
      case atStart => exact ⟨0, by omega, rfl, rfl, Frm.refl _ _⟩
      case round =>
        obtain ⟨wb, hwb9⟩ : ∃ W : World, W = wr := ⟨_, rfl⟩
        subst hwb9
        obtain ⟨j, hj, rfl, rfl, hf2⟩ := hrel
        by_cases hltj : j < k
        · obtain ⟨y, hy⟩ := get_of_lt (l := T) (j := j) (by rw [← Hm.out]; exact hltj)
          have hyU := HUi.out j y hy
          obtain ⟨g, rfl, _, _⟩ := Hng.out (by omega)
          obtain ⟨g2, rfl, _, _⟩ := Hpg.out (by omega)
          have hgw : g < wb.heap.size := ((Ho34.out.keep hf2).lt g rfl).2
          have hgw2 : g2 < wb.heap.size := ((Ho4.out.keep hf2).lt g2 rfl).2
          have c0 := (nod_cells (Ho34.out.keep hf2) hy).1
          have d0 : wb.cell? ⟨g2, j * 8, none⟩ = some (.string y.name) := (nod_cells (Ho4.out.keep hf2) hyU).1
          have d1 : wb.cell? ⟨g2, j * 8 + 1, none⟩ = some (.bool false) := (nod_cells (Ho4.out.keep hf2) hyU).2.1
          have hst : (y.name.toList == y.name.toList) = true := str_yes rfl
          have hst2 : (y.name.toList != y.name.toList) = false := by rw [bne, hst]; rfl
          have hjk : decide ((k : Int) ≤ (j : Int)) = false := decide_eq_false (by omega)
          have hjk2 : decide (k ≤ j) = false := decide_eq_false (by omega)
          have Hf2 := Lib.hid hf2
          have Hy := Lib.hid hy
          have HyU := Lib.hid hyU
          clear hf2 hy hyU
          go_wp2_with fail
          go_quiet (fail)
          go_wp2_with fail
          go_roundw
          case rel => exact ⟨j + 1, by omega, rfl, by go_num, Hf2.out.drewN _⟩
          case measure => simp [intOf]; omega
        · obtain rfl : j = k := by omega
          have Hg5 := Lib.hid (Hg4.out.trans hf2)
          clear hf2
          go_wp2_with (first
            | (go_at_call 17; (with_reducible refine (HwD.out _ Hg5.out).mono ?_); rintro e u6 ⟨rfl, hf⟩; have Hg6 := Lib.hid (Hg5.out.trans hf); clear hf)
            | (go_at_call 22; (with_reducible refine (Hk9.out _ Hg6.out).mono ?_); rintro e u7 ⟨b7, O7, rfl, hc, hf, _⟩; have Hc7 := Lib.hid hc; have Hg7 := Lib.hid (Hg6.out.trans hf); clear hc hf)
            | (go_at_call 17; (with_reducible refine (Hwh.out _ _ _ Hc7.out).mono ?_); rintro e u8 ⟨rfl, hf⟩; have Hg8 := Lib.hid (Hg7.out.trans hf); clear hf)
            | (go_at_call 20; (with_reducible refine (clives_any _).mono ?_); rintro e u9 ⟨rfl, hf9⟩; have Hfu9 := Lib.hid (Hfwa.out.trans (Hg8.out.trans hf9)); clear hf9))
          go_ret
          exact ⟨rfl, Hfu9.out.below (Nat.le_refl _) (fun _ _ h => h)⟩
end Go.Proofs.YtpgcfeplcibhoaaDoor
