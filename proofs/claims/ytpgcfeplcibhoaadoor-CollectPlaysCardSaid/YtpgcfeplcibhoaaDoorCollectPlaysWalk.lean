/- The walk of the statement CollectPlays. (Printed by gencol7.py.) -/
import Derived.Test.YtpgcfeplcibhoaaDoorColForestP
import Derived.Test.YtpgcfeplcibhoaaDoorColPrint
import Derived.Test.YtpgcfeplcibhoaaDoorColRSpans
import Derived.Test.YtpgcfeplcibhoaaDoorColLives
import Derived.Test.YtpgcfeplcibhoaaDoorColWithin
import Derived.Test.YtpgcfeplcibhoaaDoorColRTree
import Derived.Test.YtpgcfeplcibhoaaDoorColRTake
import Derived.Test.YtpgcfeplcibhoaaDoorColRPrint
import Derived.Test.YtpgcfeplcibhoaaDoorTraceUp
import Derived.Test.YtpgcfeplcibhoaaDoorIntsL
import Derived.Deep.RegionLaw
import Derived.Deep.RegionHeld3
import Derived.Deep.DeepCutAuto
import Derived.StillTailTactics
import Derived.RegionTactic
set_option linter.unusedVariables false
set_option linter.unusedSimpArgs false
namespace Go.Proofs.YtpgcfeplcibhoaaDoor
open Go.RowKit

def rq4 (a : Int) (k : Nat) : Int := if k = 0 then 1 else if k = 1 then 2 else if k = 2 then 11 else a
theorem rq4_wf {a : Int} (h : (Lit.int .i64 a).wf = true) (k : Nat) : (Lit.int .i64 (rq4 a k)).wf = true := by
  unfold rq4
  split
  · exact WalkArith.wf_i64 (by omega)
  · split
    · exact WalkArith.wf_i64 (by omega)
    · split
      · exact WalkArith.wf_i64 (by omega)
      · exact h
theorem rq4_cell {w : World} {B : Nat} {a : Int} (h : Blk w B #[.int .i64 1, .int .i64 2, .int .i64 11, .int .i64 a] 3) (k : Nat) (hk : k < 4) : w.cell? ⟨B, k, none⟩ = some (.int .i64 (rq4 a k)) := by
  rw [h.cell k]
  have : k = 0 ∨ k = 1 ∨ k = 2 ∨ k = 3 := by omega
  rcases this with rfl | rfl | rfl | rfl <;> rfl
theorem all_snoc {α : Type} {L : List α} {j : Nat} {x : α} (hj : L[j]? = some x) (f : α → Bool) : (L.take (j + 1)).all f = ((L.take j).all f && f x) := by
  rw [List.take_add_one, hj, List.all_append]; simp
set_option maxRecDepth 100000 in
set_option maxHeartbeats 8000000 in
theorem collectPlays_walk (a0 : Option Addr) (len0 cap0 : Nat) (z0 : List Int) (a1 : Int) (w : World) (w0 : IsRow .i64 w a0 len0 cap0 z0) (w1 : (Lit.int .i64 a1).wf = true) :
    Calls Tryd.prog 3 #[.slice a0 len0 cap0, .int .i64 a1] w fun e w' => e = .returned (.bool true) ∧ Below w.heap.size w w' := by
  obtain ⟨xs, hxs⟩ := w0.list
  have hgs := goods30 xs
  have hls := spans30_len xs
  have hspc := fun W (hW : Frm noB w W) => rspans_any a0 len0 cap0 xs W (hxs.keep hW)
  obtain ⟨L, hL⟩ : ∃ L, L = spans30 xs := ⟨_, rfl⟩
  rw [← hL] at hgs hls
  simp only [← hL] at hspc
  have Hxs := Lib.hid hxs
  have Hgs := Lib.hid hgs
  have Hls := Lib.hid hls
  have Hspc := Lib.hid hspc
  have Hw1 := Lib.hid w1
  clear hxs hgs hls hspc w1
  clear w0 hL
  go_enter Tryd.func3, Tryd.ntmps3
  go_upto_region 4 with (first
    | (go_at_call 10; (with_reducible refine (cnew_any _).mono ?_); rintro e u1 ⟨b, O0, rfl, hc, hf, hO⟩; have Hc1 := Lib.hid hc; have Hf1 := Lib.hid hf; have HO1 := Lib.hid hO; clear hc hf hO)
    | (go_at_call 11; (with_reducible refine (Hspc.out _ Hf1.out).mono ?_); rintro e u2 ⟨v1, rfl, ho, hf⟩; have Ho2 := Lib.hid ho; have Hc2 := Lib.hid (Hc1.out.keep hf); have Hf2 := Lib.hid (Hf1.out.trans hf); clear ho hf))
  obtain ⟨ta, tc, htv, _, htg⟩ := Ho2.out.shape
  obtain ⟨n, hn⟩ : ∃ n, n = L.length := ⟨_, rfl⟩
  rw [← hn] at htv htg
  subst htv
  have hn3 : n ≤ 16 := by rw [hn]; exact Hls.out
  have hO2 : ∀ i, O0 i → (w.heap.size ≤ i ∧ i < u1.heap.size) ∨ u2.heap.size ≤ i := fun i hi => .inl ⟨HO1.out i hi, Hc1.out.lt i hi⟩
  have Htg := Lib.hid htg
  have Hn := Lib.hid hn
  have HO2 := Lib.hid hO2
  clear htg hn hO2
  go_wp2_with fail
  go_loopw [4, 6, 8, 9, 10] (fun r o i p q wr => ∃ (k : Nat) (O : Nat → Prop), k ≤ n ∧ r = .bool false ∧ i = .int .i64 k ∧ Own spnE wr 0 30 o ((L.take k).foldl takeL []) ∧ ColIs wr b ((L.take k).foldl takeL []) k O ∧ (∀ i, O i → (w.heap.size ≤ i ∧ i < u1.heap.size) ∨ u2.heap.size ≤ i) ∧ (∀ g, o.ownBlock = some g → ¬ O g) ∧ Own spnE wr u1.heap.size 30 (.slice ta n tc) L ∧ Frm noB w wr ∧ u2.heap.size ≤ wr.heap.size) (fun _ _ i _ _ _ => n - (intOf i).toNat)
  case atStart => exact ⟨0, O0, by omega, rfl, rfl, Own.nil _ _ _ _, Hc2.out, HO2.out, fun g hg => by simp [Value.ownBlock] at hg, Ho2.out, Hf2.out, Nat.le_refl _⟩
  case round =>
    obtain ⟨k, O, hk, rfl, rfl, ho, hc, hO, hap, hv, hf, hz⟩ := hrel
    obtain ⟨C, hC⟩ : ∃ C, C = (L.take k).foldl takeL [] := ⟨_, rfl⟩
    rw [← hC] at ho hc
    have hCl : C.length ≤ 16 := by rw [hC]; have := col_len (L.take k) []; rw [List.length_take] at this; simp only [List.length_nil] at this; have := Hls.out; omega
    by_cases hlt : k < n
    · obtain ⟨x, hx⟩ := get_of_lt (l := L) (j := k) (by rw [← Hn.out]; exact hlt)
      obtain ⟨g, rfl, hgl0, hgl⟩ := Htg.out (by omega)
      have hgx := Hgs.out x (List.mem_of_getElem? hx)
      have hxs9 := goods_size hgx
      have hsn : (L.take (k + 1)).foldl takeL [] = takeL C x := by rw [List.take_add_one, hx, List.foldl_append, ← hC]; rfl
      have hrt := fun v (h : Own spnE wr 0 30 v C) => rtake_any 0 v C x.name x.serv x.frm x.til x.kids x.well wr h (by omega) (Nat.zero_le _)
      have htk := fun W (h : ColIs W b C k O) => ctake_any b k C O x W h (by omega) (by omega) (by omega)
      obtain ⟨c0, c1, c2, c3, c4, c5⟩ := spn_cells hv hx
      have hgw : g < wr.heap.size := Nat.lt_of_lt_of_le hgl hz
      obtain ⟨x0, x1, x2, x3, x4, x5⟩ := x
      simp only at c0 c1 c2 c3 c4 c5 hrt
      simp only [spnV] at htk
      rw [← hsn] at hrt htk
      obtain ⟨inb, hinb⟩ : ∃ b, b = !isInB C ⟨x0, x1, x2, x3, x4, x5⟩ := ⟨_, rfl⟩
      rw [← hinb] at hrt htk
      have hclt := hc.lt
      obtain ⟨oa, oc, ov, _, _⟩ := ho.shape
      obtain ⟨N, hN⟩ : ∃ N, N = C.length := ⟨_, rfl⟩
      rw [← hN] at ov
      subst ov
      have hnb : (inb != inb) = false := by cases inb <;> rfl
      have Ho := Lib.hid ho
      have Hc := Lib.hid hc
      have HO := Lib.hid hO
      have Hap := Lib.hid hap
      have Hv := Lib.hid hv
      have Hf := Lib.hid hf
      have Hx := Lib.hid hx
      have Hgx := Lib.hid hgx
      have Hsn := Lib.hid hsn
      have Hrt := Lib.hid hrt
      have Htk := Lib.hid htk
      have HC := Lib.hid hC
      have Hclt := Lib.hid hclt
      have Hinb := Lib.hid hinb
      have HN := Lib.hid hN
      clear ho hc hO hap hv hf hx hgx hsn hrt htk hC hclt hinb hN
      go_upto_region 8 with (go_at_call 12; (with_reducible refine (Hrt.out _ Ho.out).mono ?_); rintro e w2 ⟨v', rfl, ho2, hf2, hb2⟩; have Hor := Lib.hid ho2; have Hf12 := Lib.hid hf2; have Hcr := Lib.hid (Hc.out.keep hf2); have Hvv := Lib.hid (Hv.out.keep hf2); have Hapr := Lib.hid (show ∀ q, v'.ownBlock = some q → ¬ O q from fun q hq => by rcases hb2 with e | ⟨g', e, h1⟩; (exact Hap.out q (by rw [← e]; exact hq)); (rw [e] at hq; cases hq; exact fun ho9 => by have := Hclt.out _ ho9; omega)); clear ho2 hf2 hb2)
      clear c0 c1 c2 c3 c4 c5
      obtain ⟨d0, d1, d2, d3, d4, d5⟩ := spn_cells Hvv.out Hx.out
      have hgw2 : g < w2.heap.size := Nat.lt_of_lt_of_le hgw Hf12.out.size
      go_wp2_with (go_at_call 13; (with_reducible refine (Htk.out _ Hcr.out).mono ?_); rintro e w3 ⟨rfl, O', hc3, hf3, hO3⟩; have Hc4 := Lib.hid hc3; have Ho4 := Lib.hid (Hor.out.frm hf3 (fun q hq e => Hapr.out q hq e)); have Hap4 := Lib.hid (show ∀ q, v'.ownBlock = some q → ¬ O' q from fun q hq ho9 => by rcases hO3 q ho9 with e | e; (exact Hapr.out q hq e); (have := (Hor.out.lt q hq).2; omega)); have HO4 := Lib.hid (show ∀ i, O' i → (w.heap.size ≤ i ∧ i < u1.heap.size) ∨ u2.heap.size ≤ i from fun i hi => by rcases hO3 i hi with e | e; (exact HO.out i e); (right; have := Hf12.out.size; omega)); have Hv4 := Lib.hid (Hvv.out.frm hf3 (fun q hq e => by have e1 := HO.out q e; have e2 : q = g := (by simpa [Value.ownBlock] using hq.symm); omega)); have Hf4 := Lib.hid ((Hf.out.trans Hf12.out).new hf3 (fun i hi e => by have e1 := HO.out i e; have := Hf2.out.size; omega)); have Hz4 := Lib.hid (Nat.le_trans hz (Nat.le_trans Hf12.out.size hf3.size)); clear hc3 hf3 hO3)
      go_roundw
      case rel => exact ⟨k + 1, O', by omega, rfl, by go_num, Ho4.out, Hc4.out, HO4.out, Hap4.out, Hv4.out, Hf4.out, Hz4.out⟩
      case measure => simp [intOf]; omega
    · obtain rfl : k = n := by omega
      rw [List.take_of_length_le (by rw [← Hn.out]; exact Nat.le_refl _)] at hC
      have hoC : Once C := by rw [hC]; exact once_col L
      have hgC : ∀ s ∈ C, GoodS s := by rw [hC]; exact col_good Hgs.out
      obtain ⟨ue, hue⟩ : ∃ W : World, W = wr.alloc (.cells #[.int .i64 1, .int .i64 2, .int .i64 11, .int .i64 a1] 3) := ⟨_, rfl⟩
      have hfe : Frm noB wr ue := by rw [hue]; exact (Frm.refl noB wr).alloc _
      have hbe : Blk ue wr.heap.size #[.int .i64 1, .int .i64 2, .int .i64 11, .int .i64 a1] 3 := by rw [hue]; exact Blk.made wr _ _
      have hoe := ho.keep hfe
      have hce := hc.keep hfe
      have hfw := hf.trans hfe
      obtain ⟨oa, oc, ov, _, _⟩ := ho.shape
      obtain ⟨N, hN⟩ : ∃ N, N = C.length := ⟨_, rfl⟩
      rw [← hN] at ov
      subst ov
      obtain ⟨Bq, hBq⟩ : ∃ B, B = wr.heap.size := ⟨_, rfl⟩
      rw [← hBq] at hbe
      have hBl := hbe.lt
      have Ho := Lib.hid ho
      have Hc := Lib.hid hc
      have HO := Lib.hid hO
      have Hap := Lib.hid hap
      have Hv := Lib.hid hv
      have Hf := Lib.hid hf
      have HC := Lib.hid hC
      have HoC := Lib.hid hoC
      have HgC := Lib.hid hgC
      have Hue := Lib.hid hue
      have Hfe := Lib.hid hfe
      have Hbe := Lib.hid hbe
      have Hoe := Lib.hid hoe
      have Hce := Lib.hid hce
      have Hfw := Lib.hid hfw
      have HN := Lib.hid hN
      have HCl := Lib.hid hCl
      clear ho hc hO hap hv hf hC hoC hgC hue hfe hbe hoe hce hfw hN hCl
      go_upto_region 12 with fail
      rw [← Hue.out, ← hBq]
      have HBq := Lib.hid hBq
      have HBl := Lib.hid hBl
      clear hBq hBl
      go_wp2_with fail
      go_loopw [4, 12, 13, 14, 15, 16] (fun r i p q s t W => ∃ j : Nat, j ≤ 4 ∧ r = .bool false ∧ i = .int .i64 j ∧ Frm noB ue W) (fun _ i _ _ _ _ _ => 4 - (intOf i).toNat)
      case atStart => exact ⟨0, by omega, rfl, rfl, Frm.refl _ _⟩
      case round =>
        obtain ⟨wb, hwb⟩ : ∃ W : World, W = wr := ⟨_, rfl⟩
        subst hwb
        obtain ⟨j, hj, rfl, rfl, hf2⟩ := hrel
        by_cases hj4 : j < 4
        · have hrw := rq4_wf Hw1.out j
          have hrc := fun W (hW : Frm noB ue W) => rq4_cell (Hbe.out.frm hW (fun h => h)) j hj4
          obtain ⟨R, hR⟩ : ∃ R, R = rq4 a1 j := ⟨_, rfl⟩
          rw [← hR] at hrw
          simp only [← hR] at hrc
          have hBw := fun W (hW : Frm noB ue W) => (show Bq < W.heap.size from Nat.lt_of_lt_of_le HBl.out hW.size)
          have htr := fun W (hW : Frm noB ue W) => tree_is b k C O R W (Hce.out.keep hW) HoC.out HgC.out (by have := HCl.out; omega) hrw
          have hwh := fun W (hW : Frm noB ue W) => whole_is b k C O R W (Hce.out.keep hW) HgC.out (by have := HCl.out; omega) hrw
          have hrtr := fun W (hW : Frm noB ue W) => rtree_any 0 _ C R W (Hoe.out.keep hW) (by have := HCl.out; omega) HgC.out
          simp only [refT_tree HoC.out HgC.out R] at hrtr
          have hgT := tree_good HoC.out HgC.out R
          have hTl := treeL_len HgC.out R
          have hwa := whole_all HoC.out R
          rw [hwa] at hwh
          obtain ⟨T, hT⟩ : ∃ T, T = treeL C R := ⟨_, rfl⟩
          simp only [← hT] at htr hrtr hwh hgT hTl
          have hTn : T.length ≤ 300 := by have := HCl.out; omega
          have hcp := fun v W B (h : Own nodE W B 49 v T) => cprint_any B v T W h (by omega) hgT
          have hrp := fun v W B (h : Own nodE W B 37 v T) => rprint_any B v T W h (by omega) hgT
          obtain ⟨P, hP⟩ : ∃ P, P = bs (prN T) := ⟨_, rfl⟩
          simp only [← hP] at hcp hrp
          have hstp : (P.toList == P.toList) = true := str_yes rfl
          have hstp2 : (P.toList != P.toList) = false := by rw [bne, hstp]; rfl
          have c0 := hrc wb hf2
          have hbw := hBw wb hf2
          have Hf20 := Lib.hid hf2
          have Hf2 := Lib.hid hf2
          have Hrw := Lib.hid hrw
          have Hrc := Lib.hid hrc
          have HR := Lib.hid hR
          have HBw := Lib.hid hBw
          have Htr := Lib.hid htr
          have Hwh := Lib.hid hwh
          have Hrtr := Lib.hid hrtr
          have HgT := Lib.hid hgT
          have HTl := Lib.hid hTl
          have Hwa := Lib.hid hwa
          have HT := Lib.hid hT
          have HTn := Lib.hid hTn
          have Hcp := Lib.hid hcp
          have Hrp := Lib.hid hrp
          have HP := Lib.hid hP
          clear hf2 hrw hrc hR hBw htr hwh hrtr hgT hTl hwa hT hTn hcp hrp hP
          go_upto_region 16 with (go_at_call 14; (with_reducible refine (Htr.out _ Hf20.out).mono ?_); rintro e u21 ⟨v21, rfl, ho, hf⟩; have Ho21a := Lib.hid ho; have Hf21a := Lib.hid hf; have Hf21 := Lib.hid (Hf20.out.trans hf); clear ho hf)
          clear c0 hbw
          have c0 := Hrc.out _ Hf21.out
          have hbw := HBw.out _ Hf21.out
          go_upto_region 17 with (go_at_call 15; (with_reducible refine (Hrtr.out _ Hf21.out).mono ?_); rintro e u22 ⟨v22, rfl, ho, hf⟩; have Ho22 := Lib.hid ho; have Ho21 := Lib.hid (Ho21a.out.keep hf); have Hf22 := Lib.hid (Hf21.out.trans hf); clear ho hf)
          clear c0 hbw
          obtain ⟨na, nc, hnv, _, hng⟩ := Ho22.out.shape
          obtain ⟨m, hm⟩ : ∃ m, m = T.length := ⟨_, rfl⟩
          rw [← hm] at hnv hng
          subst hnv
          have hm3 : m ≤ 300 := by rw [hm]; exact HTn.out
          have Hng := Lib.hid hng
          have Hm := Lib.hid hm
          clear hng hm
          go_wp2_with fail
          go_loop [15, 16] (fun wv q => ∃ z : Nat, z ≤ m ∧ q = .int .i64 z ∧ wv = .bool ((T.take z).all fun x => !x.miss)) (fun _ q => m - (intOf q).toNat)
          case atStart => exact ⟨0, by omega, rfl, rfl⟩
          case round =>
            obtain ⟨z, hz9, rfl, rfl⟩ := hrel
            by_cases hzm : z < m
            · obtain ⟨y, hy⟩ := get_of_lt (l := T) (j := z) (by rw [← Hm.out]; exact hzm)
              obtain ⟨g, rfl, _, hgl⟩ := Hng.out (by omega)
              have c1 := (nod_cells Ho22.out hy).2.1
              have hs1 := all_snoc hy (fun x => !x.miss)
              obtain ⟨al, hal⟩ : ∃ b, b = ((T.take z).all fun x => !x.miss) := ⟨_, rfl⟩
              rw [← hal] at hs1 ⊢
              obtain ⟨ym, hym⟩ : ∃ b, b = y.miss := ⟨_, rfl⟩
              rw [← hym] at hs1 c1
              have Hs1 := Lib.hid hs1
              have Hal := Lib.hid hal
              have Hy := Lib.hid hy
              have Hym := Lib.hid hym
              clear hs1 hal hy hym
              cases al <;> cases ym
              all_goals
                go_wp2_with fail
                go_round
                case rel => exact ⟨z + 1, by omega, by go_num, by rw [Hs1.out]; rfl⟩
                case measure => simp [intOf]; omega
            · obtain rfl : z = m := by omega
              rw [List.take_of_length_le (by rw [← Hm.out]; exact Nat.le_refl _)]
              obtain ⟨al, hal⟩ : ∃ b, b = (T.all fun x => !x.miss) := ⟨_, rfl⟩
              have hwh := Hwh.out
              rw [← hal] at hwh ⊢
              have hnb : (al != al) = false := by cases al <;> rfl
              have c0 := Hrc.out _ Hf22.out
              have hbw := HBw.out _ Hf22.out
              have hlk := fun v => like_eq u21.heap.size u21.heap.size v v T u22
              clear hlk
              obtain ⟨pa, pc, pv, _, _⟩ := Ho21.out.shape
              rw [← Hm.out] at pv
              subst pv
              have hrc2 := fun W (hW : Frm noB ue W) => Hrc.out W hW
              have Hwh := Lib.hid hwh
              have Hal := Lib.hid hal
              clear hwh hal
              go_wp2_with (first
                | (go_at_call 16; (with_reducible refine (like_eq _ _ _ _ T _ Ho21.out Ho22.out (by have := HTn.out; omega)).mono ?_); rintro e u23 ⟨rfl, hf⟩; have Hf23 := Lib.hid (Hf22.out.trans hf); have Ho23a := Lib.hid (Ho21.out.keep hf); have Ho23b := Lib.hid (Ho22.out.keep hf); have c3 := Hrc.out _ Hf23.out; have hbw3 := HBw.out _ Hf23.out; clear hf)
                | (go_at_call 17; (with_reducible refine (Hwh.out _ Hf23.out).mono ?_); rintro e u24 ⟨rfl, hf⟩; have Hf24 := Lib.hid (Hf23.out.trans hf); have Ho24a := Lib.hid (Ho23a.out.keep hf); have Ho24b := Lib.hid (Ho23b.out.keep hf); clear hf)
                | (go_at_call 18; (with_reducible refine (Hcp.out _ _ _ Ho24a.out).mono ?_); rintro e u25 ⟨rfl, hf⟩; have Hf25 := Lib.hid (Hf24.out.trans hf); have Ho25b := Lib.hid (Ho24b.out.keep hf); clear hf)
                | (go_at_call 19; (with_reducible refine (Hrp.out _ _ _ Ho25b.out).mono ?_); rintro e u26 ⟨rfl, hf⟩; have Hf26 := Lib.hid (Hf25.out.trans hf); clear hf))
              go_roundw
              case rel => exact ⟨j + 1, by omega, rfl, by go_num, Hf26.out⟩
              case measure => simp [intOf]; omega
        · obtain rfl : j = 4 := by omega
          have Hfx := Lib.hid (Hfw.out.trans hf2)
          go_wp2_with (go_at_call 20; (with_reducible refine (clives_any _).mono ?_); rintro e u9 ⟨rfl, hf9⟩; have Hfu9 := Lib.hid (Hfx.out.trans hf9); clear hf9)
          go_ret
          exact ⟨rfl, Hfu9.out.below (Nat.le_refl _) (fun _ _ h => h)⟩
end Go.Proofs.YtpgcfeplcibhoaaDoor
