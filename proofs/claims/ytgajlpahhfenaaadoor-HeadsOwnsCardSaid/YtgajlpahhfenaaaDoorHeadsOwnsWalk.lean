/- The walk of the statement HeadsOwns. -/
import Derived.Test.YtgajlpahhfenaaaDoorHeadHV
import Derived.Outline
set_option linter.unusedVariables false
namespace Go.Proofs.YtgajlpahhfenaaaDoor
open Go.RowKit

theorem dropL_nil (l : List Hd) : dropL l [] = l := by
  unfold dropL hasT
  simp
theorem row_blk {w : World} {base n c : Nat} {a : Option Addr} {T : TypeId} {l : List Hd} (h : Own hdE w base T (.slice a n c) l) : 0 < n → ∃ g cur, a = some ⟨g, 0, none⟩ ∧ Blk w g cur T ∧ n * 2 ≤ cur.size := fun h0 => by
  rcases h.2 with ⟨h1, hz⟩ | ⟨g, cap, cur, hv, hb, hg, hnc, hcm, hcs, _⟩
  · simp only [Value.slice.injEq] at h1; omega
  · simp only [Value.slice.injEq] at hv
    obtain ⟨rfl, rfl, rfl⟩ := hv
    exact ⟨g, cur, rfl, hg, by have : cur.size = c * 2 := hcs; rw [this]; exact Nat.mul_le_mul_right 2 hnc⟩
set_option maxRecDepth 100000 in
set_option maxHeartbeats 4000000 in
theorem headsOwns_walk (a0 : Option Addr) (len0 cap0 : Nat) (z0 : List Int) (a1 : Int) (w : World) (w0 : IsRow .i64 w a0 len0 cap0 z0) (w1 : (Lit.int .i64 a1).wf = true) :
    Calls Tryd.prog 7 #[.slice a0 len0 cap0, .int .i64 a1] w fun e w' => e = .returned (.bool true) ∧ Below w.heap.size w w' := by
  obtain ⟨xs, h0⟩ := w0.list
  have b1 := wf_i64 w1
  have hg := GoodL.gen (xs.take 12)
  have hgl : (genH (xs.take 12)).length ≤ 1000 := by have := hg.len; omega
  have hra := rowB_self (genH (xs.take 12))
  have H0 := Lib.hid h0
  have Hb1 := Lib.hid b1
  have Hg := Lib.hid hg
  have Hgl := Lib.hid hgl
  clear h0 b1 hg hgl
  clear w0 w1
  go_enter Tryd.func7, Tryd.ntmps7
  go_wp2_with fail
  with_reducible refine (heads_any a0 len0 cap0 xs _ H0.out).mono ?_
  rintro e x1 ⟨va, rfl, ha, hf1⟩
  have hheads := fun w h => heads_hv a0 len0 cap0 xs w h
  generalize genH (xs.take 12) = L at *
  have Ha := Lib.hid ha
  have Hf1 := Lib.hid hf1
  have Hheads := Lib.hid hheads
  have Hra := Lib.hid hra
  clear ha hf1 hheads hra
  go_wp2_with fail
  with_reducible refine (one_hv a1 _ Hb1.out).mono ?_
  rintro e x2 ⟨rfl, hf2⟩
  have ha2 := Ha.out.keep hf2
  have hf2 := Hf1.out.trans hf2
  generalize oneZ a1 = h at *
  obtain ⟨nm, vl⟩ := h
  simp only at *
  have hone := HV.one x2 ⟨nm, vl⟩
  have fa2 := (Frm.refl noB x2).alloc (.cells #[.string nm, .string vl] 25)
  have ha3 := ha2.keep fa2
  have hf3 := hf2.trans fa2
  simp only at hone
  obtain ⟨va1, va2, rfl, hard⟩ := ha3.rd
  have hasp := ha3.cap.2.2
  obtain ⟨_, _, hoe, hord, hxx⟩ := hone.shape
  clear hxx
  simp only [Value.slice.injEq] at hoe
  obtain ⟨rfl, hxx, rfl⟩ := hoe
  clear hxx
  obtain ⟨nL, hnL⟩ : ∃ n, n = L.length := ⟨_, rfl⟩
  rw [← hnL] at ha3 ha2 hard ⊢
  have hset := fun c2 => hset_any va1 nL va2 L _ 1 c2 [⟨nm, vl⟩] _ hard hasp (by have := Hgl.out; omega) Hg.out.nd hord
  have Ha2 := Lib.hid ha2
  have Hf2 := Lib.hid hf2
  have Hone := Lib.hid hone
  have Hfa2 := Lib.hid fa2
  have Ha3 := Lib.hid ha3
  have Hf3 := Lib.hid hf3
  have Hard := Lib.hid hard
  have Hasp := Lib.hid hasp
  have Hord := Lib.hid hord
  have HnL := Lib.hid hnL
  have Hset := Lib.hid hset
  clear ha2 hf2 hone fa2 ha3 hf3 hard hasp hord hnL hset
  go_wp2_with fail
  refine (Hset.out _).mono ?_
  rintro e x3 ⟨vb, rfl, hb, hf4⟩
  have ha4 := Ha3.out.keep hf4
  have hf4 := Hf3.out.trans hf4
  have hard4 := ha4.rdS
  have hao := fun j h => (Ha3.out.lt j h).2
  have hab : ∀ j, vb.ownBlock = some j → ∀ k, (Value.slice va1 nL va2).ownBlock = some k → k < j := fun j hj k hk => by
    have h1 := (hb.lt j hj).1
    have h2 := hao k hk
    simp at h1 h2
    omega
  have hwb : ∀ j, vb.ownBlock = some j → w.heap.size ≤ j := fun j hj => by
    have h1 := (hb.lt j hj).1
    have h2 := Hf2.out.size
    simp at h1
    omega
  have Hb := Lib.hid hb
  have Ha4 := Lib.hid ha4
  have Hf4 := Lib.hid hf4
  have Hard4 := Lib.hid hard4
  have Hao := Lib.hid hao
  have Hab := Lib.hid hab
  have Hwb := Lib.hid hwb
  clear hb ha4 hf4 hard4 hao hab hwb
  go_wp2_with fail
  refine (hdrop_any va1 nL va2 L none 0 0 [] _ Hard4.out (by have := Hgl.out; have := HnL.out; omega) (Rd.nil _ _)).mono ?_
  rintro e x4 ⟨vc, rfl, hc, hf5⟩
  have ha5 := Ha4.out.keep hf5
  have hb5 := Hb.out.keep hf5
  have hf5 := Hf4.out.trans hf5
  have hbc : ∀ j, vc.ownBlock = some j → ∀ k, vb.ownBlock = some k → k < j := fun j hj k hk => by
    have h1 := (hc.lt j hj).1
    have h2 := (Hb.out.lt k hk).2
    omega
  have hac : ∀ j, vc.ownBlock = some j → ∀ k, (Value.slice va1 nL va2).ownBlock = some k → k < j := fun j hj k hk => by
    have h1 := (hc.lt j hj).1
    have h2 := (Ha4.out.lt k hk).2
    omega
  have hwc : ∀ j, vc.ownBlock = some j → w.heap.size ≤ j := fun j hj => by
    have h1 := (hc.lt j hj).1
    have h2 := Hf4.out.size
    omega
  have hab := Hab.out
  have hwb := Hwb.out
  clear Hab Hwb
  obtain ⟨vb1, vb2, rfl, hxx⟩ := hb5.shape
  clear hxx
  obtain ⟨nvb, hnvb⟩ : ∃ n, n = (setAll L [⟨nm, vl⟩]).length := ⟨_, rfl⟩
  rw [← hnvb] at hb5 hab hwb hbc ⊢
  have hbb := row_blk hb5
  have hnb := hb5.cap
  obtain ⟨vc1, vc2, rfl, hxx⟩ := hc.shape
  clear hxx
  obtain ⟨nvc, hnvc⟩ : ∃ n, n = (dropL L []).length := ⟨_, rfl⟩
  rw [← hnvc] at hc hbc hac hwc ⊢
  have hnb1 : nvb ≤ 9223372036854775807 := by omega
  have hnc1 : nvc ≤ 9223372036854775807 := by have := hc.cap; omega
  have Ha5 := Lib.hid ha5
  have Hb5 := Lib.hid hb5
  have Hc := Lib.hid hc
  have Hf5 := Lib.hid hf5
  have Hab := Lib.hid hab
  have Hwb := Lib.hid hwb
  have Hbc := Lib.hid hbc
  have Hac := Lib.hid hac
  have Hwc := Lib.hid hwc
  have Hbb := Lib.hid hbb
  have Hnvb := Lib.hid hnvb
  have Hnvc := Lib.hid hnvc
  have Hnb := Lib.hid hnb
  clear ha5 hb5 hc hf5 hab hwb hbc hac hwc hbb hnvb hnvc hnb
  go_wp2_with fail
  go_loopw [8] (fun i wy => ∃ j : Nat, j ≤ nvb ∧ i = .int .i64 j ∧ Frm (fun i => some i = (Value.slice vb1 nvb vb2).ownBlock) x4 wy ∧ (0 < nvb → ∃ g cur, vb1 = some ⟨g, 0, none⟩ ∧ Blk wy g cur 25 ∧ nvb * 2 ≤ cur.size)) (fun i _ => nvb - (intOf i).toNat)
  case atStart => exact ⟨0, by omega, rfl, Frm.refl _ _, Hbb.out⟩
  case round =>
    obtain ⟨j, hj, rfl, hf, hbk⟩ := hrel
    by_cases hlt : j < nvb
    · obtain ⟨g, cur, rfl, hB, hcur⟩ := hbk (by omega)
      have hgl := hB.lt
      obtain ⟨u, hu⟩ : ∃ u, cur[j * 2 + 1]? = some u := ⟨_, Array.getElem?_eq_getElem (by omega)⟩
      have c0 := (hB.cell (j * 2 + 1)).trans hu
      have z0 := hB.free (j * 2 + 1)
      have hf' := hf.setCell (p := ⟨g, j * 2 + 1, none⟩) rfl (.string ⟨#[116, 117, 114, 110, 101, 100]⟩)
      have hB' := hB.set (j * 2 + 1) (.string ⟨#[116, 117, 114, 110, 101, 100]⟩)
      have Hf := Lib.hid hf
      have HB := Lib.hid hB
      have Hf' := Lib.hid hf'
      have HB' := Lib.hid hB'
      have Hu := Lib.hid hu
      have Hcur := Lib.hid hcur
      clear hf hB hf' hB' hu hcur
      clear hbk
      go_wp2_with fail
      go_roundw
      case rel => exact ⟨j + 1, by omega, by go_num, Hf'.out, fun _ => ⟨g, _, rfl, HB'.out, by rw [Array.size_setIfInBounds]; exact Hcur.out⟩⟩
      case measure => simp [intOf]; omega
    · obtain rfl : j = nvb := by omega
      have ha6 := Ha5.out.frm hf (fun k hk hh => Nat.lt_irrefl _ (Hab.out k hh.symm k hk))
      have hc6 := Hc.out.frm hf (fun k hk hh => Nat.lt_irrefl _ (Hbc.out k hk k hh.symm))
      have hf6 := Hf5.out.new hf (fun i hi hh => by have := Hwb.out i hh.symm; omega)
      have hcb := row_blk hc6
      have Hf := Lib.hid hf
      have Ha6 := Lib.hid ha6
      have Hc6 := Lib.hid hc6
      have Hf6 := Lib.hid hf6
      have Hcb := Lib.hid hcb
      clear hf ha6 hc6 hf6 hcb
      clear hbk
      go_wp2_with fail
      go_loopw [9] (fun i wy => ∃ j : Nat, j ≤ nvc ∧ i = .int .i64 j ∧ Frm (fun i => some i = (Value.slice vc1 nvc vc2).ownBlock) wr wy ∧ (0 < nvc → ∃ g cur, vc1 = some ⟨g, 0, none⟩ ∧ Blk wy g cur 25 ∧ nvc * 2 ≤ cur.size)) (fun i _ => nvc - (intOf i).toNat)
      case atStart => exact ⟨0, by omega, rfl, Frm.refl _ _, Hcb.out⟩
      case round =>
        obtain ⟨j, hj, rfl, hf, hbk⟩ := hrel
        by_cases hlt : j < nvc
        · obtain ⟨g, cur, rfl, hB, hcur⟩ := hbk (by omega)
          have hgl := hB.lt
          obtain ⟨u, hu⟩ : ∃ u, cur[j * 2]? = some u := ⟨_, Array.getElem?_eq_getElem (by omega)⟩
          have c0 := (hB.cell (j * 2)).trans hu
          have z0 := hB.free (j * 2)
          have hf' := hf.setCell (p := ⟨g, j * 2, none⟩) rfl (.string ⟨#[116, 117, 114, 110, 101, 100]⟩)
          have hB' := hB.set (j * 2) (.string ⟨#[116, 117, 114, 110, 101, 100]⟩)
          have Hf := Lib.hid hf
          have HB := Lib.hid hB
          have Hf' := Lib.hid hf'
          have HB' := Lib.hid hB'
          have Hu := Lib.hid hu
          have Hcur := Lib.hid hcur
          clear hf hB hf' hB' hu hcur
          clear hbk
          go_wp2_with fail
          go_roundw
          case rel => exact ⟨j + 1, by omega, by go_num, Hf'.out, fun _ => ⟨g, _, rfl, HB'.out, by rw [Array.size_setIfInBounds]; exact Hcur.out⟩⟩
          case measure => simp [intOf]; omega
        · have ha7 := Ha6.out.frm hf (fun k hk hh => Nat.lt_irrefl _ (Hac.out k hh.symm k hk))
          have hf7 := Hf6.out.new hf (fun i hi hh => by have := Hwc.out i hh.symm; omega)
          have h0' := H0.out.keep hf7
          have Hf := Lib.hid hf
          have Ha7 := Lib.hid ha7
          have Hf7 := Lib.hid hf7
          have H0' := Lib.hid h0'
          clear hf ha7 hf7 h0'
          clear hbk
          go_wp2_with fail
          refine (Hheads.out _ H0'.out).mono ?_
          rintro e y1 ⟨vd, rfl, hd, hg1⟩
          have ha8 : HV y1 (.slice va1 nL va2) L := ⟨_, Ha7.out.keep hg1⟩
          have hf8 := Hf7.out.trans hg1
          have Hd := Lib.hid hd
          have Ha8 := Lib.hid ha8
          have Hf8 := Lib.hid hf8
          clear hd ha8 hf8
          clear hg1
          go_wp2_with fail
          refine (row_hv _ vd L L _ Ha8.out Hd.out).mono ?_
          rintro e y2 ⟨rfl, hg2⟩
          rw [Hra.out]
          have hf9 := Hf8.out.trans hg2
          have Hf9 := Lib.hid hf9
          clear hf9
          clear hg2
          go_wp2_with fail
          refine (hlives_any _).mono ?_
          rintro e y3 ⟨rfl, hg3⟩
          have hf10 := Hf9.out.trans hg3
          have Hf10 := Lib.hid hf10
          clear hf10
          clear hg3
          go_wp2_with fail
          go_ret
          exact ⟨rfl, Hf10.out.below (Nat.le_refl _) (fun _ _ h => h)⟩
end Go.Proofs.YtgajlpahhfenaaaDoor
