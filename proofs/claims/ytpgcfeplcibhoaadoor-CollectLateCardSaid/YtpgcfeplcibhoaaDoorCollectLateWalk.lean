/- The walk of the statement CollectLate. (Printed by gencol7.py.) -/
import Derived.Test.YtpgcfeplcibhoaaDoorColForestP
import Derived.Test.YtpgcfeplcibhoaaDoorColPrint
import Derived.Test.YtpgcfeplcibhoaaDoorColRSpans
import Derived.Test.YtpgcfeplcibhoaaDoorColLives
import Derived.Test.YtpgcfeplcibhoaaDoorColWithin
import Derived.Test.YtpgcfeplcibhoaaDoorColRTree
import Derived.Test.YtpgcfeplcibhoaaDoorColRTake
import Derived.Test.YtpgcfeplcibhoaaDoorColRPrint
import Derived.Test.YtpgcfeplcibhoaaDoorTraceUp
import Derived.Test.YtpgcfeplcibhoaaDoorIntsL
import Derived.Deep.RegionLaw
import Derived.Deep.RegionHeld3
import Derived.Deep.DeepCutAuto
import Derived.StillTailTactics
import Derived.RegionTactic
set_option linter.unusedVariables false
set_option linter.unusedSimpArgs false
namespace Go.Proofs.YtpgcfeplcibhoaaDoor
open Go.RowKit

theorem late_fnd {A M : List Spn} (hA : Once A) (h1 : ∀ s ∈ A, s ∈ M) (h2 : ∀ s ∈ M, s ∈ A) (k : List UInt8) : fndS M k = fndS A k := by
  cases hm : fndS M k with
  | none =>
    rw [fndS_none] at hm
    exact (fndS_none.2 (fun s hs => hm s (h1 s hs))).symm
  | some s =>
    obtain ⟨hs, hk⟩ := fndS_some hm
    have := (once_fnd hA s).1 (h2 s hs)
    rw [hk] at this
    exact this.symm
theorem tree_congr {C D : List Spn} (hC : Once C) (hD : Once D) (h : ∀ k, fndS C k = fndS D k) (r : Int) : treeL C r = treeL D r := by
  refine srt_ext _ _ (tree_srt _ _) (tree_srt _ _) (fun x => ?_)
  rw [tree_mem hC, tree_mem hD, show fndS C = fndS D from funext h]
theorem isInB_snoc {A : List Spn} {j : Nat} {y : Spn} (hy : A[j]? = some y) (x : Spn) : isInB (A.take (j + 1)) x = (isInB (A.take j) x || decide (y.name = x.name)) := by
  unfold isInB fndS
  rw [List.take_add_one, hy, List.find?_append]
  cases hf : List.find? (fun s => nmB s == nmB x) (List.take j A) with
  | some z => simp
  | none =>
    by_cases e : y.name = x.name
    · simp [nmB_inj.2 e, e]
    · have : ¬ nmB y = nmB x := fun h => e (nmB_inj.1 h)
      simp [this, e]
theorem takeL_len (A : List Spn) (x : Spn) : (takeL A x).length ≤ A.length + 1 := by unfold takeL; split <;> simp
theorem run_sl_fromS (a : Option Addr) (n c k : Nat) (hk : k ≤ n) (hn : n ≤ c) (w : World) :
    (Instr.slice 25 (.slice a n c) (some (.int .i64 (k : Int))) none none).run Tryd.prog w = .ok (.slice (if c = k then a else a.map (·.add (k * 6))) (n - k) (c - k)) w := by
  have h1 : (0 : Int) ≤ (k : Int) ∧ (k : Int) ≤ (n : Int) := by omega
  simp [Instr.slice, Instr.sliceBounds, Instr.sliceBound, asIntOf, run_underlying Tryd.underlying25, h1, hk, Tryd.sizeOf30]
theorem Rd.fromS {w : World} {a : Option Addr} {n c k : Nat} {l : List Spn} (h : Rd spnE w a n l) (hk : k ≤ n) (hn : n ≤ c) : Rd spnE w (if c = k then a else a.map (·.add (k * 6))) (n - k) (l.drop k) := by
  refine ⟨by rw [List.length_drop, h.1], by have := h.2.1; omega, fun j x hj => ?_⟩
  rw [List.getElem?_drop] at hj
  have hlt := get_lt hj
  rw [h.1] at hlt
  obtain ⟨b, off, rfl, hb, hc⟩ := h.2.2 (k + j) x hj
  rw [if_neg (by omega)]
  refine ⟨b, off + k * 6, by simp only [Option.map_some, Addr.add_lit], hb, fun i u hu => ?_⟩
  have := hc i u hu
  rwa [show off + k * 6 + (j * spnE.k + i) = off + ((k + j) * spnE.k + i) from by show off + k * 6 + (j * 6 + i) = off + ((k + j) * 6 + i); omega]
theorem slice_fromS (a : Option Addr) (n c k : Nat) (hk : k ≤ n) (hn : n ≤ c) (hsp : ∀ x, a = some x → x.spot = none) : ∃ a', (∀ w, (Instr.slice 25 (.slice a n c) (some (.int .i64 (k : Int))) none none).run Tryd.prog w = .ok (.slice a' (n - k) (c - k)) w) ∧
    (∀ w l, Rd spnE w a n l → Rd spnE w a' (n - k) (l.drop k)) ∧ (∀ x, a' = some x → x.spot = none) :=
  ⟨_, fun w => run_sl_fromS a n c k hk hn w, fun w l h => h.fromS hk hn, fun x hx => by
    split at hx
    · exact hsp x hx
    · rw [Option.map_eq_some_iff] at hx
      obtain ⟨y, hy, rfl⟩ := hx
      have := hsp y hy
      obtain ⟨b, o, sp⟩ := y
      subst this
      rw [Addr.add_lit]⟩
theorem run_sl_toS (a : Option Addr) (n c k : Nat) (hk : k ≤ n) (hn : n ≤ c) (hsp : ∀ x, a = some x → x.spot = none) (w : World) :
    (Instr.slice 25 (.slice a n c) none (some (.int .i64 (k : Int))) none).run Tryd.prog w = .ok (.slice a k c) w := by
  have h1 : (0 : Int) ≤ (k : Int) ∧ (k : Int) ≤ (c : Int) := by omega
  have h2 : k ≤ c := by omega
  have h3 : a.map (fun x => x.add 0) = a := by
    cases a with
    | none => rfl
    | some x => have := hsp x rfl; obtain ⟨b, o, sp⟩ := x; subst this; rfl
  simp [Instr.slice, Instr.sliceBounds, Instr.sliceBound, asIntOf, run_underlying Tryd.underlying25, h1, h2, Tryd.sizeOf30, h3]
set_option maxRecDepth 100000 in
set_option maxHeartbeats 8000000 in
theorem collectLate_walk (a0 : Option Addr) (len0 cap0 : Nat) (z0 : List Int) (a1 : Int) (a2 : Option Addr) (len2 cap2 : Nat) (z2 : List Int) (a3 : Int) (w : World) (w0 : IsRow .i64 w a0 len0 cap0 z0) (w1 : (Lit.int .i64 a1).wf = true) (w2 : IsRow .i64 w a2 len2 cap2 z2) (w3 : (Lit.int .i64 a3).wf = true) :
    Calls Tryd.prog 4 #[.slice a0 len0 cap0, .int .i64 a1, .slice a2 len2 cap2, .int .i64 a3] w fun e w' => e = .returned (.bool true) ∧ Below w.heap.size w w' := by
  obtain ⟨xs, hxs⟩ := w0.list
  obtain ⟨ys, hys⟩ := w2.list
  have b1 := wf_i64 w1
  have bq := wf_i64 w3
  obtain ⟨kq, hkq⟩ : ∃ k, k = around a3 3 := ⟨_, rfl⟩
  have hkq3 : kq < 3 := by have := around_lt a3 3 (by omega); omega
  have hca := fun W => around_any a3 3 W bq.1 bq.2 (by omega) (by omega)
  simp only [← hkq] at hca
  obtain ⟨R, hR⟩ : ∃ R, R = pick3 kq := ⟨_, rfl⟩
  have HRq : Hid (IsReq R) := Lib.hid (by rw [hR]; exact pick_req kq)
  have hyl := hys.len
  have hym := hys.most
  have hgs := goods30 xs
  have hls := spans30_len xs
  have hspc := rspans_any a0 len0 cap0 xs w hxs
  obtain ⟨L, hL⟩ : ∃ L, L = spans30 xs := ⟨_, rfl⟩
  rw [← hL] at hgs hls hspc
  have hwfR : (Lit.int .i64 R).wf = true := WalkArith.wf_i64 (by have := HRq.out.bd; omega)
  have Hfz : Hid (Frm noB w w) := Lib.hid (Frm.refl noB w)
  have Hxs := Lib.hid hxs
  have Hys := Lib.hid hys
  have Hyl := Lib.hid hyl
  have Hca := Lib.hid hca
  have HR := Lib.hid hR
  have Hbq := Lib.hid bq
  have Hkq := Lib.hid hkq
  have Hb1 := Lib.hid b1
  have Hgs := Lib.hid hgs
  have Hls := Lib.hid hls
  have Hspc := Lib.hid hspc
  have HwfR := Lib.hid hwfR
  have Hkq3 := Lib.hid hkq3
  clear hxs hys hyl hca hR bq hkq b1 hgs hls hspc hwfR hkq3
  clear w0 w1 w2 w3 hL
  go_enter Tryd.func4, Tryd.ntmps4
  go_upto_region 3 with (go_at_call 11; (with_reducible refine (Hspc.out).mono ?_); rintro e u1 ⟨v1, rfl, ho1, hf1⟩; have Ho1 := Lib.hid ho1; have Hfu1 := Lib.hid (Hfz.out.trans hf1); clear ho1 hf1)
  obtain ⟨ta, tc, htv, _, htg⟩ := Ho1.out.shape
  obtain ⟨n, hn⟩ : ∃ n, n = L.length := ⟨_, rfl⟩
  rw [← hn] at htv htg
  subst htv
  have hn3 : n ≤ 16 := by rw [hn]; exact Hls.out
  have Hn := Lib.hid hn
  have Htg := Lib.hid htg
  clear hn htg
  go_wp2_with fail
  go_loopw [9, 11, 12, 13] (fun o i hd q wr => ∃ k : Nat, k ≤ n ∧ i = .int .i64 k ∧ Own spnE wr u1.heap.size 30 o ((L.take k).foldl takeL []) ∧ Frm noB u1 wr) (fun _ i _ _ _ => n - (intOf i).toNat)
  case atStart => exact ⟨0, by omega, rfl, Own.nil _ _ _ _, Frm.refl _ _⟩
  case round =>
    obtain ⟨wa, hwa⟩ : ∃ W : World, W = wr := ⟨_, rfl⟩
    subst hwa
    obtain ⟨k, hk, rfl, ho, hf⟩ := hrel
    obtain ⟨A, hA⟩ : ∃ A, A = (L.take k).foldl takeL [] := ⟨_, rfl⟩
    rw [← hA] at ho
    have hAl : A.length ≤ k := by rw [hA]; have := col_len (L.take k) []; rw [List.length_take] at this; simp only [List.length_nil] at this; omega
    obtain ⟨oa, oc, ov, _, hog⟩ := ho.shape
    obtain ⟨m, hm⟩ : ∃ m, m = A.length := ⟨_, rfl⟩
    rw [← hm] at ov hog hAl
    subst ov
    by_cases hlt : k < n
    · obtain ⟨x, hx⟩ := get_of_lt (l := L) (j := k) (by rw [← Hn.out]; exact hlt)
      obtain ⟨g, rfl, _, hgl⟩ := Htg.out (by omega)
      have hcx := fun W (hW : Frm noB wa W) => spn_cells (Ho1.out.keep (hf.trans hW)) hx
      have hgW := fun W (hW : Frm noB wa W) => (show g < W.heap.size from Nat.lt_of_lt_of_le hgl (hf.trans hW).size)
      have hsn : (L.take (k + 1)).foldl takeL [] = takeL A x := by rw [List.take_add_one, hx, List.foldl_append, ← hA]; rfl
      have Ho := Lib.hid ho
      have Hf := Lib.hid hf
      have HA := Lib.hid hA
      have Hog := Lib.hid hog
      have Hx := Lib.hid hx
      have Hcx := Lib.hid hcx
      have HgW := Lib.hid hgW
      have Hsn := Lib.hid hsn
      have Hm := Lib.hid hm
      clear ho hf hA hog hx hcx hgW hsn hm
      go_wp2_with fail
      go_loopw [12, 13] (fun hd q W => ∃ j : Nat, j ≤ m ∧ q = .int .i64 j ∧ hd = .bool (isInB (A.take j) x) ∧ Frm noB wa W) (fun _ q _ => m - (intOf q).toNat)
      case atStart => exact ⟨0, by omega, rfl, rfl, Frm.refl _ _⟩
      case round =>
        obtain ⟨wb, hwb⟩ : ∃ W : World, W = wr := ⟨_, rfl⟩
        subst hwb
        obtain ⟨j, hj, rfl, rfl, hf2⟩ := hrel
        by_cases hjm : j < m
        · obtain ⟨y, hy⟩ := get_of_lt (l := A) (j := j) (by rw [← Hm.out]; exact hjm)
          obtain ⟨g2, rfl, _, hgl2⟩ := Hog.out (by omega)
          have d0 := (spn_cells (Ho.out.keep hf2) hy).1
          have c0 := (Hcx.out _ hf2).1
          have hgw := HgW.out _ hf2
          have hgw2 : g2 < wb.heap.size := Nat.lt_of_lt_of_le hgl2 hf2.size
          have his := isInB_snoc hy x
          cases hb : isInB (A.take j) x
          · rw [hb, Bool.false_or] at his
            by_cases hq : y.name = x.name
            · have hst := str_yes hq
              rw [decide_eq_true hq] at his
              have Hf2 := Lib.hid hf2
              have Hy := Lib.hid hy
              have His := Lib.hid his
              have Hb := Lib.hid hb
              have Hq := Lib.hid hq
              clear hf2 hy his hb hq
              go_wp2_with fail
              go_quiet (fail)
              go_wp2_with fail
              go_roundw
              case rel => exact ⟨j + 1, by omega, by go_num, by rw [His.out], Hf2.out.drewN _⟩
              case measure => simp [intOf]; omega
            · have hst := str_ne hq
              rw [decide_eq_false hq] at his
              have Hf2 := Lib.hid hf2
              have Hy := Lib.hid hy
              have His := Lib.hid his
              have Hb := Lib.hid hb
              have Hq := Lib.hid hq
              clear hf2 hy his hb hq
              go_wp2_with fail
              go_quiet (fail)
              go_wp2_with fail
              go_roundw
              case rel => exact ⟨j + 1, by omega, by go_num, by rw [His.out], Hf2.out.drewN _⟩
              case measure => simp [intOf]; omega
          · rw [hb, Bool.true_or] at his
            have Hf2 := Lib.hid hf2
            have Hy := Lib.hid hy
            have His := Lib.hid his
            have Hb := Lib.hid hb
            clear hf2 hy his hb
            go_wp2_with fail
            go_quiet (fail)
            go_wp2_with fail
            go_roundw
            case rel => exact ⟨j + 1, by omega, by go_num, by rw [His.out], Hf2.out.drewN _⟩
            case measure => simp [intOf]; omega
        · obtain rfl : j = m := by omega
          have hall : A.take j = A := List.take_of_length_le (by rw [← Hm.out]; exact Nat.le_refl _)
          rw [hall]
          cases hb : isInB A x
          · have htk : takeL A x = A ++ [x] := by unfold takeL; rw [hb, if_neg (by decide)]
            obtain ⟨c0, c1, c2, c3, c4, c5⟩ := Hcx.out _ hf2
            have hgw := HgW.out _ hf2
            have ho3 := Ho.out.keep hf2
            have hbs : u1.heap.size ≤ wb.heap.size := Nat.le_trans Hf.out.size hf2.size
            have hol : A.length ≤ 1000000 := by rw [← Hm.out]; omega
            have hx0 := Hx.out
            obtain ⟨x0, x1, x2, x3, x4, x5⟩ := x
            simp only at c0 c1 c2 c3 c4 c5
            have Hf2 := Lib.hid hf2
            have Ho3 := Lib.hid ho3
            have Hbs := Lib.hid hbs
            have Hol := Lib.hid hol
            have Htk := Lib.hid htk
            have Hb := Lib.hid hb
            have Hall := Lib.hid hall
            have Hx0 := Lib.hid hx0
            clear hf2 ho3 hbs hol htk hb hall hx0
            go_wp2_with (at_builtin; refine app_spn wb rfl _ _ (by rfl) u1.heap.size _ _ (by rfl) Ho3.out ⟨x0, x1, x2, x3, x4, x5⟩ _ (by rfl) _ rfl (by rfl) Hol.out Hbs.out ?_; intro v' w2 ho4 _ hf4 _ _; have Ho4 := Lib.hid ho4; have Hf4 := Lib.hid ((Hf.out.trans Hf2.out).new hf4 (fun i hi e => by have := (Ho3.out.lt i e.symm).1; omega)); clear ho4 hf4)
            go_roundw
            case rel => exact ⟨k + 1, by omega, by go_num, by rw [Hsn.out, Htk.out]; exact Ho4.out, Hf4.out⟩
            case measure => simp [intOf]; omega
          · have htk : takeL A x = A := by unfold takeL; rw [if_pos hb]
            have Hf2 := Lib.hid hf2
            have Htk := Lib.hid htk
            have Hb := Lib.hid hb
            have Hall := Lib.hid hall
            clear hf2 htk hb hall
            go_wp2_with fail
            go_roundw
            case rel => exact ⟨k + 1, by omega, by go_num, by rw [Hsn.out, Htk.out]; exact Ho.out.keep Hf2.out, Hf.out.trans Hf2.out⟩
            case measure => simp [intOf]; omega
    · obtain rfl : k = n := by omega
      rw [List.take_of_length_le (by rw [← Hn.out]; exact Nat.le_refl _)] at hA
      have hoA : Once A := by rw [hA]; exact once_col L
      have hgA : ∀ s ∈ A, GoodS s := by rw [hA]; exact col_good Hgs.out
      have hcap := ho.cap
      obtain ⟨hmc, _, hsp⟩ := hcap
      have hca2 := fun W => around_any a1 ((m : Int) + 1) W Hb1.out.1 Hb1.out.2 (by omega) (by omega)
      have hkk9 := around_lt a1 ((m : Int) + 1) (by omega)
      obtain ⟨kk, hkk⟩ : ∃ kk, kk = around a1 ((m : Int) + 1) := ⟨_, rfl⟩
      rw [← hkk] at hkk9
      simp only [← hkk] at hca2
      have hkm : kk ≤ m := by omega
      obtain ⟨a9, hs9, hrd9, hsp9⟩ := slice_fromS oa m oc kk hkm hmc hsp
      have hs8 := run_sl_toS oa m oc kk hkm hmc hsp
      have hR1 := hrd9 wa A ho.rdS
      have hR2 : Rd spnE wa oa kk (A.take kk) := ho.rdS.take hkm
      have Ho := Lib.hid ho
      have Hf := Lib.hid hf
      have HA := Lib.hid hA
      have Hog := Lib.hid hog
      have Hm := Lib.hid hm
      have HoA := Lib.hid hoA
      have HgA := Lib.hid hgA
      have Hca2 := Lib.hid hca2
      have Hkk := Lib.hid hkk
      have Hsp := Lib.hid hsp
      have Hsp9 := Lib.hid hsp9
      have Hrd9 := Lib.hid hrd9
      have HR1 := Lib.hid hR1
      have HR2 := Lib.hid hR2
      clear ho hf hA hog hm hoA hgA hca2 hkk hsp hsp9 hrd9 hR1 hR2
      clear hkk9
      go_upto_region 14 with (go_at_call 21; (with_reducible refine (Hca2.out _).mono ?_); rintro e w' ⟨rfl, rfl⟩)
      have hAl9 : A.length ≤ 16 := by rw [← Hm.out]; omega
      go_cut [15] (fun s wx => Own spnE wx wa.heap.size 30 s (([] ++ A.drop kk) ++ A.take kk) ∧ Frm noB wa wx)
      case first =>
        refine wp_region_noPanic ?_
        refine wp_region_held_drew (S := fun X => True) (by kernel_rfl) ?_ (fun hHeld => ?_)
        · exact trivial
        obtain ⟨u0, hu0⟩ : ∃ Wq, Wq = wa.drew := ⟨_, rfl⟩
        try rw [← hu0] at hHeld
        rw [← hu0]
        have hgd : Frm noB wa u0 := by rw [hu0]; exact (Frm.refl noB wa).drew
        have HT0 := Lib.hid (hgd)
        have hz0 := hgd.size
        clear hu0 hgd
        refine takeD (i := 1) (some 63) (v := ?_) rfl rfl (by kernel_rfl) (by kernel_rfl) (by kernel_rfl) (fun _ _ _ h => h) (Or.inl ⟨by kernel_rfl, ?_⟩) (by assumption) ?_
        rotate_left
        · (intro w hSw; (try dsimp only at hSw); go_simp; try (with_reducible rfl))
        (try dsimp only [Act.put]); try simp only [Act.put, List.setIfInBounds_toArray, List.set_cons_zero, List.set_cons_succ]
        refine takeD (i := 2) (some 64) (v := ?_) rfl rfl (by kernel_rfl) (by kernel_rfl) (by kernel_rfl) (fun _ _ _ h => h) (Or.inl ⟨by kernel_rfl, ?_⟩) (by assumption) ?_
        rotate_left
        · (intro w hSw; (try dsimp only at hSw); go_simp; try (with_reducible rfl))
        (try dsimp only [Act.put]); try simp only [Act.put, List.setIfInBounds_toArray, List.set_cons_zero, List.set_cons_succ]
        refine takeD (i := 3) (some 65) (v := ?_) rfl rfl (by kernel_rfl) (by kernel_rfl) (by kernel_rfl) (fun _ _ _ h => h) (Or.inl ⟨by kernel_rfl, ?_⟩) (by assumption) ?_
        rotate_left
        · (intro w hSw; (try dsimp only at hSw); go_simp; try (with_reducible rfl))
        (try dsimp only [Act.put]); try simp only [Act.put, List.setIfInBounds_toArray, List.set_cons_zero, List.set_cons_succ]
        refine takeD (i := 5) (some 67) (v := ?_) rfl rfl (by kernel_rfl) (by kernel_rfl) (by kernel_rfl) (fun _ _ _ h => h) (Or.inl ⟨by kernel_rfl, ?_⟩) (by assumption) ?_
        rotate_left
        · (intro w hSw; (try dsimp only at hSw); go_simp; try (with_reducible rfl))
        (try dsimp only [Act.put]); try simp only [Act.put, List.setIfInBounds_toArray, List.set_cons_zero, List.set_cons_succ]
        refine takeD (i := 6) (some 68) (v := ?_) rfl rfl (by kernel_rfl) (by kernel_rfl) (by kernel_rfl) (fun _ _ _ h => h) (Or.inl ⟨by kernel_rfl, ?_⟩) (by assumption) ?_
        rotate_left
        · (intro w hSw; (try dsimp only at hSw); go_simp; try (with_reducible rfl))
        (try dsimp only [Act.put]); try simp only [Act.put, List.setIfInBounds_toArray, List.set_cons_zero, List.set_cons_succ]
        refine takeD (i := 7) (some 69) (v := ?_) rfl rfl (by kernel_rfl) (by kernel_rfl) (by kernel_rfl) (fun _ _ _ h => h) (Or.inl ⟨by kernel_rfl, ?_⟩) (by assumption) ?_
        rotate_left
        · (intro w hSw; (try dsimp only at hSw); go_simp; try (with_reducible rfl))
        (try dsimp only [Act.put]); try simp only [Act.put, List.setIfInBounds_toArray, List.set_cons_zero, List.set_cons_succ]
        refine wpAnyH_ready (rs := [0]) (by kernel_rfl) (by simp) ?_
        refine AllReadyH.cons rfl (fun K hK => ?_) ?_
        · go_simp
          generalize hw : World.alloc u0 _ = u1
          have hg : Frm noB u0 u1 := by rw [← hw]; exact (Frm.refl noB u0).alloc _
          have HT1 := Lib.hid (HT0.out.trans hg)
          have hz1 := hg.size
          have rE_1 := Lib.hid (show Own spnE u1 wa.heap.size 30 (.slice (some ⟨u0.heap.size, 0, none⟩) 0 0) [] by rw [← hw]; exact own_lit spnE u0 30 [] _ rfl 0 rfl _ (by omega) (by omega))
          have hl1 : u0.heap.size < u1.heap.size := by rw [← hw]; simp
          clear hg hw
          refine hK.out _ _ ?_ (fun hHeld => ?_)
          · exact trivial
          clear hK K
          (try dsimp only [Act.put]); try simp only [Act.put, List.setIfInBounds_toArray, List.set_cons_zero, List.set_cons_succ]
          refine wpAnyH_ready (rs := [4]) (by kernel_rfl) (by simp) ?_
          refine AllReadyH.cons rfl (fun K hK => ?_) ?_
          · rw [if_pos (by rfl)]
            obtain ⟨iq, hiq, hz9, h19, h29⟩ := info_parts info_spn
            refine wp_appR spnE _ _ _ 25 (by rfl) wa.heap.size 30 iq _ 56 Tryd.underlying25 hiq hz9 h19 h29 rfl (by decide) (by omega) _ _ (by rfl) rE_1.out a9 (m - kk) (oc - kk) (A.drop kk) (by rfl) (HR1.out.keep HT1.out) Hsp9.out (by simp; omega) (by omega) (fun v1 u2 ho hg hba => ?_)
            have HT2 := Lib.hid (HT1.out.new hg (fun k hk e => by have e2 : k = u0.heap.size := Option.some.inj e; omega))
            have hz2 := hg.size
            have rE_2 := Lib.hid ho
            clear ho hg hba
            change K (Act.put _ (some 66) _) _
            refine hK.out _ _ ?_ (fun hHeld => ?_)
            · exact trivial
            clear hK K
            (try dsimp only [Act.put]); try simp only [Act.put, List.setIfInBounds_toArray, List.set_cons_zero, List.set_cons_succ]
            refine wpAnyH_ready (rs := [8]) (by kernel_rfl) (by simp) ?_
            refine AllReadyH.cons rfl (fun K hK => ?_) ?_
            · rw [if_pos (by rfl)]
              obtain ⟨iq, hiq, hz9, h19, h29⟩ := info_parts info_spn
              have hlo := fun k e => (rE_2.out.lt k e).1
              refine wp_appR spnE _ _ _ 25 (by rfl) wa.heap.size 30 iq _ 56 Tryd.underlying25 hiq hz9 h19 h29 rfl (by decide) (by omega) _ _ (by rfl) rE_2.out oa kk oc (A.take kk) (by rfl) (HR2.out.keep HT2.out) Hsp.out (by simp; omega) (by omega) (fun v2 u3 ho hg hba => ?_)
              have HT3 := Lib.hid (HT2.out.new hg (fun k hk e => by have e3 := hlo k e.symm; omega))
              have hz3 := hg.size
              have rE_3 := Lib.hid ho
              clear ho hg hba hlo
              change K (Act.put _ (some 70) _) _
              refine hK.out _ _ ?_ (fun hHeld => ?_)
              · exact trivial
              clear hK K
              (try dsimp only [Act.put]); try simp only [Act.put, List.setIfInBounds_toArray, List.set_cons_zero, List.set_cons_succ]
              refine takeD (i := 9) (some 15) (v := ?_) rfl rfl (by kernel_rfl) (by kernel_rfl) (by kernel_rfl) (fun _ _ _ h => h) (Or.inl ⟨by kernel_rfl, ?_⟩) (by assumption) ?_
              rotate_left
              · (intro w hSw; (try dsimp only at hSw); go_simp; try (with_reducible rfl))
              (try dsimp only [Act.put]); try simp only [Act.put, List.setIfInBounds_toArray, List.set_cons_zero, List.set_cons_succ]
              refine wpAnyH_done (by kernel_rfl) ?_ _
              refine NoPanic.normal ?_
              go_wp2_with fail
              go_meet
              exact ⟨rE_3.out, HT3.out⟩
            exact AllReadyH.nil
          exact AllReadyH.nil
        exact AllReadyH.nil
      case rest =>
        obtain ⟨hoo, hfc⟩ := hcut
        obtain ⟨wc0, hwc0⟩ : ∃ W : World, W = wc := ⟨_, rfl⟩
        subst hwc0
        have hoo0 := hoo
        rw [show (([] ++ A.drop kk) ++ A.take kk) = ((A.drop kk ++ A.take kk) ++ []) by rw [List.append_nil]; rfl] at hoo0
        have Hoo := Lib.hid hoo
        have Hfc := Lib.hid hfc
        have Hoo0 := Lib.hid hoo0
        clear hoo hfc hoo0
        clear hs8 hs9
        go_wp2_with fail
        go_loopw [15, 16] (fun o i wr => ∃ (j : Nat) (Z : List Spn), j ≤ len2 ∧ j ≤ 8 ∧ i = .int .i64 j ∧ Z.length = j ∧ (∀ s ∈ Z, s ∈ A) ∧ Own spnE wr wa.heap.size 30 o ((A.drop kk ++ A.take kk) ++ Z) ∧ Frm noB wa wr) (fun _ i _ => len2 - (intOf i).toNat)
        case atStart => exact ⟨0, [], by omega, by omega, rfl, rfl, by simp, Hoo0.out, Hfc.out⟩
        case round =>
          obtain ⟨wb, hwb⟩ : ∃ W : World, W = wr := ⟨_, rfl⟩
          subst hwb
          obtain ⟨j, Z, hj2, hj8, rfl, hZl, hZA, hoZ, hf2⟩ := hrel
          obtain ⟨pa, pc, pv, _, _⟩ := hoZ.shape
          obtain ⟨P, hP⟩ : ∃ P, P = ((A.drop kk ++ A.take kk) ++ Z).length := ⟨_, rfl⟩
          rw [← hP] at pv
          subst pv
          have hPl : P = m + j := by rw [hP, List.length_append, List.length_append, List.length_drop, List.length_take, hZl, ← Hm.out]; omega
          by_cases hgo : j < len2 ∧ j < 8 ∧ 0 < m
          · obtain ⟨hg1, hg2, hg3⟩ := hgo
            obtain ⟨y, hy⟩ := get_of_lt (l := ys) (j := j) (by rw [Hyl.out]; exact hg1)
            obtain ⟨yb, yo, rfl, hyb, hyc⟩ := (Hys.out.keep ((Hfu1.out.trans Hf.out).trans hf2)).cells j y hy
            obtain ⟨hy0, hy1⟩ := Hys.out.bd y (List.mem_of_getElem? hy)
            have hca3 := fun W => around_any y (m : Int) W hy0 hy1 (by omega) (by omega)
            have hq9 := around_lt y (m : Int) (by omega)
            obtain ⟨q, hq⟩ : ∃ q, q = around y (m : Int) := ⟨_, rfl⟩
            rw [← hq] at hq9
            simp only [← hq] at hca3
            have hqm : q < m := by omega
            obtain ⟨s, hs⟩ := get_of_lt (l := A) (j := q) (by rw [← Hm.out]; exact hqm)
            obtain ⟨g2, rfl, _, hgl2⟩ := Hog.out (by omega)
            obtain ⟨c0, c1, c2, c3, c4, c5⟩ := spn_cells (Ho.out.keep hf2) hs
            have hgw2 : g2 < wb.heap.size := Nat.lt_of_lt_of_le hgl2 hf2.size
            have hbs : wa.heap.size ≤ wb.heap.size := hf2.size
            have hol : ((A.drop kk ++ A.take kk) ++ Z).length ≤ 1000000 := by rw [← hP]; omega
            have hZ2 : ∀ t ∈ Z ++ [s], t ∈ A := fun t ht => by
              rcases List.mem_append.1 ht with h | h
              · exact hZA t h
              · simp at h; rw [h]; exact List.mem_of_getElem? hs
            have hZ3 : (Z ++ [s]).length = j + 1 := by simp [hZl]
            obtain ⟨x0, x1, x2, x3, x4, x5⟩ := s
            simp only at c0 c1 c2 c3 c4 c5
            have hj64 : (j : Int) < 8 := by omega
            clear hq9 hy0 hy1
            have HZl := Lib.hid hZl
            have HZA := Lib.hid hZA
            have HoZ := Lib.hid hoZ
            have Hf2 := Lib.hid hf2
            have HP := Lib.hid hP
            have HPl := Lib.hid hPl
            have Hy := Lib.hid hy
            have Hca3 := Lib.hid hca3
            have Hq := Lib.hid hq
            have Hs := Lib.hid hs
            have Hbs := Lib.hid hbs
            have Hol := Lib.hid hol
            have HZ2 := Lib.hid hZ2
            have HZ3 := Lib.hid hZ3
            clear hZl hZA hoZ hf2 hP hPl hy hca3 hq hs hbs hol hZ2 hZ3
            go_wp2_with (first
              | (go_at_call 21; (with_reducible refine (Hca3.out _).mono ?_); rintro e w' ⟨rfl, rfl⟩)
              | (at_builtin; refine app_spn wb rfl _ _ (by rfl) wa.heap.size _ _ (by rfl) HoZ.out ⟨x0, x1, x2, x3, x4, x5⟩ _ (by rfl) _ rfl (by rfl) Hol.out Hbs.out ?_; intro v' w2 ho4 _ hf4 _ _; have Ho4 := Lib.hid ho4; have Hf4 := Lib.hid (Hf2.out.new hf4 (fun i hi e => by have := (HoZ.out.lt i e.symm).1; omega)); clear ho4 hf4))
            go_roundw
            case rel => exact ⟨j + 1, Z ++ [⟨x0, x1, x2, x3, x4, x5⟩], by omega, by omega, by go_num, HZ3.out, HZ2.out, by rw [← List.append_assoc]; exact Ho4.out, Hf4.out⟩
            case measure => simp [intOf]; omega
          · have hex : (decide ((j : Int) < (len2 : Int)) && (decide ((j : Int) < 8) && decide ((0 : Int) < (m : Int)))) = false := by
              by_cases h1 : j < len2
              · by_cases h2 : j < 8
                · have h3 : ¬ 0 < m := fun h3 => hgo ⟨h1, h2, h3⟩
                  rw [decide_eq_false (show ¬ (0 : Int) < (m : Int) by omega)]; simp
                · rw [decide_eq_false (show ¬ (j : Int) < 8 by omega)]; simp
              · rw [decide_eq_false (show ¬ (j : Int) < (len2 : Int) by omega)]; simp
            have hM1 : ∀ s ∈ A, s ∈ (A.drop kk ++ A.take kk) ++ Z := fun s hs => by
              rw [← List.take_append_drop kk A] at hs
              rw [List.mem_append, List.mem_append]
              rcases List.mem_append.1 hs with h | h
              · exact .inl (.inr h)
              · exact .inl (.inl h)
            have hM2 : ∀ s ∈ (A.drop kk ++ A.take kk) ++ Z, s ∈ A := fun s hs => by
              rcases List.mem_append.1 hs with h | h
              · rcases List.mem_append.1 h with h | h
                · exact List.mem_of_mem_drop h
                · exact List.mem_of_mem_take h
              · exact hZA s h
            obtain ⟨M, hM⟩ : ∃ M, M = (A.drop kk ++ A.take kk) ++ Z := ⟨_, rfl⟩
            rw [← hM] at hoZ hP hM1 hM2
            have hfM := late_fnd HoA.out hM1 hM2
            have hgM : ∀ s ∈ M, GoodS s := fun s hs => HgA.out s (hM2 s hs)
            have hlM : M.length ≤ 30 := by rw [← hP]; omega
            have hlA : A.length ≤ 16 := by rw [← Hm.out]; omega
            obtain ⟨C, hC⟩ : ∃ C, C = A.foldl takeL [] := ⟨_, rfl⟩
            obtain ⟨D, hD⟩ : ∃ C, C = M.foldl takeL [] := ⟨_, rfl⟩
            have hoC : Once C := by rw [hC]; exact once_col A
            have hgC : ∀ s ∈ C, GoodS s := by rw [hC]; exact col_good HgA.out
            have hlC : C.length ≤ 16 := by rw [hC]; have := col_len A []; simp only [List.length_nil] at this; omega
            have hoD : Once D := by rw [hD]; exact once_col M
            have hgD : ∀ s ∈ D, GoodS s := by rw [hD]; exact col_good hgM
            have hlD : D.length ≤ 30 := by rw [hD]; have := col_len M []; simp only [List.length_nil] at this; omega
            have hCD : ∀ k, fndS C k = fndS D k := fun k => by rw [hC, hD, show A.foldl takeL [] = colL A from rfl, show M.foldl takeL [] = colL M from rfl, fnd_col, fnd_col]; exact (hfM k).symm
            have hTr := tree_congr hoC hoD hCD R
            have hWh : (missL C R).isEmpty = (missL D R).isEmpty := by rw [whole_all hoC, whole_all hoD, hTr]
            have hTl := treeL_len hgD R
            have ht1 := fun W b O (h : ColIs W b C A.length O) => tree_is b A.length C O R W h hoC hgC (by omega) HwfR.out
            have ht2 := fun W b O (h : ColIs W b D M.length O) => tree_is b M.length D O R W h hoD hgD (by omega) HwfR.out
            have hw1 := fun W b O (h : ColIs W b C A.length O) => whole_is b A.length C O R W h hgC (by omega) HwfR.out
            have hw2 := fun W b O (h : ColIs W b D M.length O) => whole_is b M.length D O R W h hgD (by omega) HwfR.out
            rw [hTr] at ht1
            rw [hWh] at hw1
            obtain ⟨T, hT⟩ : ∃ T, T = treeL D R := ⟨_, rfl⟩
            rw [← hT] at ht1 ht2 hTl
            obtain ⟨eb, heb⟩ : ∃ e, e = (missL D R).isEmpty := ⟨_, rfl⟩
            rw [← heb] at hw1 hw2
            have hTn : T.length ≤ 100000 := by omega
            have hk1 := fun W (hW : Frm noB wb W) => taken_any _ _ A W ((Ho.out.keep hf2).keep hW) (by omega) (fun s hs => by have := goods_size (HgA.out s hs); omega)
            have hk2 := fun W (hW : Frm noB wb W) => taken_any _ _ M W (hoZ.keep hW) (by omega) (fun s hs => by have := goods_size (hgM s hs); omega)
            rw [← hC, ← Hm.out] at hk1
            rw [← hD] at hk2
            rw [← hP] at hk2
            rw [← Hm.out] at ht1 hw1
            rw [← hP] at ht2 hw2
            have Hfwb := Lib.hid (((Hfu1.out.trans Hf.out)).trans hf2)
            have Hgwb := Lib.hid (Frm.refl noB wb)
            have hebb : (eb == eb) = true := by simp
            have HZl := Lib.hid hZl
            have HZA := Lib.hid hZA
            have HoZ := Lib.hid hoZ
            have Hf2 := Lib.hid hf2
            have HP := Lib.hid hP
            have HPl := Lib.hid hPl
            have HM1 := Lib.hid hM1
            have HM2 := Lib.hid hM2
            have HM := Lib.hid hM
            have HfM := Lib.hid hfM
            have HgM := Lib.hid hgM
            have HlM := Lib.hid hlM
            have HlA := Lib.hid hlA
            have HC := Lib.hid hC
            have HD := Lib.hid hD
            have HoC := Lib.hid hoC
            have HgC := Lib.hid hgC
            have HlC := Lib.hid hlC
            have HoD := Lib.hid hoD
            have HgD := Lib.hid hgD
            have HlD := Lib.hid hlD
            have HCD := Lib.hid hCD
            have HTr := Lib.hid hTr
            have HWh := Lib.hid hWh
            have HTl := Lib.hid hTl
            have Ht1 := Lib.hid ht1
            have Ht2 := Lib.hid ht2
            have Hw1 := Lib.hid hw1
            have Hw2 := Lib.hid hw2
            have HT := Lib.hid hT
            have HTn := Lib.hid hTn
            have Hk1 := Lib.hid hk1
            have Hk2 := Lib.hid hk2
            have Heb := Lib.hid heb
            have Hgo := Lib.hid hgo
            clear hZl hZA hoZ hf2 hP hPl hM1 hM2 hM hfM hgM hlM hlA hC hD hoC hgC hlC hoD hgD hlD hCD hTr hWh hTl ht1 ht2 hw1 hw2 hT hTn hk1 hk2 heb hgo
            by_cases g1 : j < len2
            · by_cases g2 : j < 8
              · have g3 : ¬ 0 < m := fun h3 => Hgo.out ⟨g1, g2, h3⟩
                have j3 : ¬ (0 : Int) < (m : Int) := by omega
                have j2 : (j : Int) < 8 := by omega
                have j1 : (j : Int) < (len2 : Int) := by omega
                go_wp2_with (first
                  | (go_at_call 22; (with_reducible refine (Hk1.out _ Hgwb.out).mono ?_); rintro e u3 ⟨b1, O1, rfl, hc, hf, _⟩; have Hc3 := Lib.hid hc; have Hg3 := Lib.hid hf; clear hc hf)
                  | (go_at_call 22; (with_reducible refine (Hk2.out _ Hg3.out).mono ?_); rintro e u4 ⟨b2, O2, rfl, hc, hf, _⟩; have Hc4 := Lib.hid hc; have Hc3b := Lib.hid (Hc3.out.keep hf); have Hg4 := Lib.hid (Hg3.out.trans hf); clear hc hf)
                  | (go_at_call 21; (with_reducible refine (Hca.out _).mono ?_); rintro e w' ⟨rfl, rfl⟩; obtain ⟨u5, hu5⟩ : ∃ W : World, W = u4.alloc (.cells #[.int .i64 1, .int .i64 2, .int .i64 11] 3) := ⟨_, rfl⟩; have hpc := pick_cell u4 kq Hkq3.out; have hkq9 := Hkq3.out; have hlz : u4.heap.size < u5.heap.size := (by rw [hu5]; simp); have hfx : Frm noB u4 u5 := (by rw [hu5]; exact (Frm.refl noB u4).alloc _); rw [← hu5, ← HR.out] at hpc; rw [← hu5]; have Hu5 := Lib.hid hu5; have Hc3c := Lib.hid (Hc3b.out.keep hfx); have Hc4b := Lib.hid (Hc4.out.keep hfx); have Hg5 := Lib.hid (Hg4.out.trans hfx); clear hu5 hfx)
                  | (go_at_call 14; (with_reducible refine (Ht1.out _ _ _ Hc3c.out).mono ?_); rintro e u6 ⟨v6, rfl, ho, hf⟩; have Ho6 := Lib.hid ho; have Hc3d := Lib.hid (Hc3c.out.keep hf); have Hc4c := Lib.hid (Hc4b.out.keep hf); have Hg6 := Lib.hid (Hg5.out.trans hf); clear ho hf)
                  | (go_at_call 14; (with_reducible refine (Ht2.out _ _ _ Hc4c.out).mono ?_); rintro e u7 ⟨v7, rfl, ho, hf⟩; have Ho7 := Lib.hid ho; have Ho6b := Lib.hid (Ho6.out.keep hf); have Hc3e := Lib.hid (Hc3d.out.keep hf); have Hc4d := Lib.hid (Hc4c.out.keep hf); have Hg7 := Lib.hid (Hg6.out.trans hf); clear ho hf)
                  | (go_at_call 23; (with_reducible refine (same_eq _ _ _ _ T _ Ho6b.out Ho7.out HTn.out).mono ?_); rintro e u8 ⟨rfl, hf⟩; have Hc3f := Lib.hid (Hc3e.out.keep hf); have Hc4e := Lib.hid (Hc4d.out.keep hf); have Hg8 := Lib.hid (Hg7.out.trans hf); clear hf)
                  | (go_at_call 17; (with_reducible refine (Hw1.out _ _ _ Hc3f.out).mono ?_); rintro e u9 ⟨rfl, hf⟩; have Hc4f := Lib.hid (Hc4e.out.keep hf); have Hg9 := Lib.hid (Hg8.out.trans hf); clear hf)
                  | (go_at_call 17; (with_reducible refine (Hw2.out _ _ _ Hc4f.out).mono ?_); rintro e u10 ⟨rfl, hf⟩; have Hg10 := Lib.hid (Hg9.out.trans hf); clear hf)
                  | (go_at_call 20; (with_reducible refine (clives_any _).mono ?_); rintro e u11 ⟨rfl, hf9⟩; have Hfu11 := Lib.hid (Hfwb.out.trans (Hg10.out.trans hf9)); clear hf9))
                go_ret
                exact ⟨rfl, Hfu11.out.below (Nat.le_refl _) (fun _ _ h => h)⟩
              · have j2 : ¬ (j : Int) < 8 := by omega
                have j1 : (j : Int) < (len2 : Int) := by omega
                go_wp2_with (first
                  | (go_at_call 22; (with_reducible refine (Hk1.out _ Hgwb.out).mono ?_); rintro e u3 ⟨b1, O1, rfl, hc, hf, _⟩; have Hc3 := Lib.hid hc; have Hg3 := Lib.hid hf; clear hc hf)
                  | (go_at_call 22; (with_reducible refine (Hk2.out _ Hg3.out).mono ?_); rintro e u4 ⟨b2, O2, rfl, hc, hf, _⟩; have Hc4 := Lib.hid hc; have Hc3b := Lib.hid (Hc3.out.keep hf); have Hg4 := Lib.hid (Hg3.out.trans hf); clear hc hf)
                  | (go_at_call 21; (with_reducible refine (Hca.out _).mono ?_); rintro e w' ⟨rfl, rfl⟩; obtain ⟨u5, hu5⟩ : ∃ W : World, W = u4.alloc (.cells #[.int .i64 1, .int .i64 2, .int .i64 11] 3) := ⟨_, rfl⟩; have hpc := pick_cell u4 kq Hkq3.out; have hkq9 := Hkq3.out; have hlz : u4.heap.size < u5.heap.size := (by rw [hu5]; simp); have hfx : Frm noB u4 u5 := (by rw [hu5]; exact (Frm.refl noB u4).alloc _); rw [← hu5, ← HR.out] at hpc; rw [← hu5]; have Hu5 := Lib.hid hu5; have Hc3c := Lib.hid (Hc3b.out.keep hfx); have Hc4b := Lib.hid (Hc4.out.keep hfx); have Hg5 := Lib.hid (Hg4.out.trans hfx); clear hu5 hfx)
                  | (go_at_call 14; (with_reducible refine (Ht1.out _ _ _ Hc3c.out).mono ?_); rintro e u6 ⟨v6, rfl, ho, hf⟩; have Ho6 := Lib.hid ho; have Hc3d := Lib.hid (Hc3c.out.keep hf); have Hc4c := Lib.hid (Hc4b.out.keep hf); have Hg6 := Lib.hid (Hg5.out.trans hf); clear ho hf)
                  | (go_at_call 14; (with_reducible refine (Ht2.out _ _ _ Hc4c.out).mono ?_); rintro e u7 ⟨v7, rfl, ho, hf⟩; have Ho7 := Lib.hid ho; have Ho6b := Lib.hid (Ho6.out.keep hf); have Hc3e := Lib.hid (Hc3d.out.keep hf); have Hc4d := Lib.hid (Hc4c.out.keep hf); have Hg7 := Lib.hid (Hg6.out.trans hf); clear ho hf)
                  | (go_at_call 23; (with_reducible refine (same_eq _ _ _ _ T _ Ho6b.out Ho7.out HTn.out).mono ?_); rintro e u8 ⟨rfl, hf⟩; have Hc3f := Lib.hid (Hc3e.out.keep hf); have Hc4e := Lib.hid (Hc4d.out.keep hf); have Hg8 := Lib.hid (Hg7.out.trans hf); clear hf)
                  | (go_at_call 17; (with_reducible refine (Hw1.out _ _ _ Hc3f.out).mono ?_); rintro e u9 ⟨rfl, hf⟩; have Hc4f := Lib.hid (Hc4e.out.keep hf); have Hg9 := Lib.hid (Hg8.out.trans hf); clear hf)
                  | (go_at_call 17; (with_reducible refine (Hw2.out _ _ _ Hc4f.out).mono ?_); rintro e u10 ⟨rfl, hf⟩; have Hg10 := Lib.hid (Hg9.out.trans hf); clear hf)
                  | (go_at_call 20; (with_reducible refine (clives_any _).mono ?_); rintro e u11 ⟨rfl, hf9⟩; have Hfu11 := Lib.hid (Hfwb.out.trans (Hg10.out.trans hf9)); clear hf9))
                go_ret
                exact ⟨rfl, Hfu11.out.below (Nat.le_refl _) (fun _ _ h => h)⟩
            · have j1 : ¬ (j : Int) < (len2 : Int) := by omega
              go_wp2_with (first
                | (go_at_call 22; (with_reducible refine (Hk1.out _ Hgwb.out).mono ?_); rintro e u3 ⟨b1, O1, rfl, hc, hf, _⟩; have Hc3 := Lib.hid hc; have Hg3 := Lib.hid hf; clear hc hf)
                | (go_at_call 22; (with_reducible refine (Hk2.out _ Hg3.out).mono ?_); rintro e u4 ⟨b2, O2, rfl, hc, hf, _⟩; have Hc4 := Lib.hid hc; have Hc3b := Lib.hid (Hc3.out.keep hf); have Hg4 := Lib.hid (Hg3.out.trans hf); clear hc hf)
                | (go_at_call 21; (with_reducible refine (Hca.out _).mono ?_); rintro e w' ⟨rfl, rfl⟩; obtain ⟨u5, hu5⟩ : ∃ W : World, W = u4.alloc (.cells #[.int .i64 1, .int .i64 2, .int .i64 11] 3) := ⟨_, rfl⟩; have hpc := pick_cell u4 kq Hkq3.out; have hkq9 := Hkq3.out; have hlz : u4.heap.size < u5.heap.size := (by rw [hu5]; simp); have hfx : Frm noB u4 u5 := (by rw [hu5]; exact (Frm.refl noB u4).alloc _); rw [← hu5, ← HR.out] at hpc; rw [← hu5]; have Hu5 := Lib.hid hu5; have Hc3c := Lib.hid (Hc3b.out.keep hfx); have Hc4b := Lib.hid (Hc4.out.keep hfx); have Hg5 := Lib.hid (Hg4.out.trans hfx); clear hu5 hfx)
                | (go_at_call 14; (with_reducible refine (Ht1.out _ _ _ Hc3c.out).mono ?_); rintro e u6 ⟨v6, rfl, ho, hf⟩; have Ho6 := Lib.hid ho; have Hc3d := Lib.hid (Hc3c.out.keep hf); have Hc4c := Lib.hid (Hc4b.out.keep hf); have Hg6 := Lib.hid (Hg5.out.trans hf); clear ho hf)
                | (go_at_call 14; (with_reducible refine (Ht2.out _ _ _ Hc4c.out).mono ?_); rintro e u7 ⟨v7, rfl, ho, hf⟩; have Ho7 := Lib.hid ho; have Ho6b := Lib.hid (Ho6.out.keep hf); have Hc3e := Lib.hid (Hc3d.out.keep hf); have Hc4d := Lib.hid (Hc4c.out.keep hf); have Hg7 := Lib.hid (Hg6.out.trans hf); clear ho hf)
                | (go_at_call 23; (with_reducible refine (same_eq _ _ _ _ T _ Ho6b.out Ho7.out HTn.out).mono ?_); rintro e u8 ⟨rfl, hf⟩; have Hc3f := Lib.hid (Hc3e.out.keep hf); have Hc4e := Lib.hid (Hc4d.out.keep hf); have Hg8 := Lib.hid (Hg7.out.trans hf); clear hf)
                | (go_at_call 17; (with_reducible refine (Hw1.out _ _ _ Hc3f.out).mono ?_); rintro e u9 ⟨rfl, hf⟩; have Hc4f := Lib.hid (Hc4e.out.keep hf); have Hg9 := Lib.hid (Hg8.out.trans hf); clear hf)
                | (go_at_call 17; (with_reducible refine (Hw2.out _ _ _ Hc4f.out).mono ?_); rintro e u10 ⟨rfl, hf⟩; have Hg10 := Lib.hid (Hg9.out.trans hf); clear hf)
                | (go_at_call 20; (with_reducible refine (clives_any _).mono ?_); rintro e u11 ⟨rfl, hf9⟩; have Hfu11 := Lib.hid (Hfwb.out.trans (Hg10.out.trans hf9)); clear hf9))
              go_ret
              exact ⟨rfl, Hfu11.out.below (Nat.le_refl _) (fun _ _ h => h)⟩
end Go.Proofs.YtpgcfeplcibhoaaDoor
