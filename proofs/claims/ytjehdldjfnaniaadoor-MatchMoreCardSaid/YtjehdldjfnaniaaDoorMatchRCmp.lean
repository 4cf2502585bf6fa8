/- Cmp of the reference of layer 5. -/
import Derived.Test.YtjehdldjfnaniaaDoorMatchCmp2
import Derived.Test.YtjehdldjfnaniaaDoorParts

import Derived.Outline
set_option linter.unusedVariables false
set_option linter.unusedSimpArgs false
namespace Go.Proofs.YtjehdldjfnaniaaDoor
open Go.RowKit

/-- How many parts Parts tells. -/
def pn (s : ByteArray) : Nat := if isPathL s.data.toList = true then (partsL s.data.toList).length else 0
theorem PartsIs.shape {s : ByteArray} {w w' : World} {e : Ending} (h : PartsIs s w e w') : ∃ a c, e = .returned (.tuple #[.slice a (pn s) c, .bool (isPathL s.data.toList)]) ∧ Frm noB w w' := by
  obtain ⟨v, rfl, ho, hf⟩ := h
  obtain ⟨a, c, rfl, _⟩ := ho.shape
  refine ⟨a, c, ?_, hf⟩
  unfold pn
  cases isPathL s.data.toList <;> simp
set_option maxRecDepth 100000 in
set_option maxHeartbeats 4000000 in
theorem rcmp_any (mp1 : ByteArray) (ex1 : Bool) (a1 : Option Addr) (n1 c1 : Nat) (mp2 : ByteArray) (ex2 : Bool) (a2 : Option Addr) (n2 c2 : Nat) (w : World) (hs1 : mp1.size ≤ 1000000) (hs2 : mp2.size ≤ 1000000) :
    Calls Tryd.prog 10 #[.agg #[.string mp1, .bool ex1, .slice a1 n1 c1], .agg #[.string mp2, .bool ex2, .slice a2 n2 c2]] w fun e w' => e = .returned (.int .i64 (cmpR (rk0 ex1) (pn mp1) n1 (rk0 ex2) (pn mp2) n2)) ∧ Frm noB w w' := by
  have hM1 := Blk.made w #[.string mp1, .bool ex1, .slice a1 n1 c1] 25
  have hM2 := blk_new (w.alloc (.cells #[.string mp1, .bool ex1, .slice a1 n1 c1] 25)) #[.string mp2, .bool ex2, .slice a2 n2 c2] 25 (B := w.heap.size + 1) (by simp)
  have hM1b := hM1.alloc (.cells #[.string mp2, .bool ex2, .slice a2 n2 c2] 25)
  have hp1 := fun w => (parts5_any mp1 w hs1).mono fun e w' h => h.shape
  have hp2 := fun w => (parts5_any mp2 w hs2).mono fun e w' h => h.shape
  generalize hw2 : (w.alloc (.cells #[.string mp1, .bool ex1, .slice a1 n1 c1] 25)).alloc (.cells #[.string mp2, .bool ex2, .slice a2 n2 c2] 25) = W2 at *
  have fw : Frm noB w W2 := by rw [← hw2]; exact ((Frm.refl noB w).alloc _).alloc _
  obtain ⟨x0, hx0⟩ : ∃ x, x = rk0 ex1 := ⟨_, rfl⟩
  obtain ⟨z0, hz0⟩ : ∃ x, x = rk0 ex2 := ⟨_, rfl⟩
  rw [← hx0, ← hz0]
  generalize pn mp1 = x1 at *
  generalize pn mp2 = z1 at *
  generalize isPathL mp1.data.toList = i1 at *
  generalize isPathL mp2.data.toList = i2 at *
  have hres : cmpR x0 x1 n1 z0 z1 n2 = if cmpI z0 x0 = 0 then (if cmpI z1 x1 = 0 then cmpI n2 n1 else cmpI z1 x1) else cmpI z0 x0 := rfl
  generalize cmpR x0 x1 n1 z0 z1 n2 = R at *
  have HM1 := Lib.hid hM1
  have HM2 := Lib.hid hM2
  have HM1b := Lib.hid hM1b
  have Hp1 := Lib.hid hp1
  have Hp2 := Lib.hid hp2
  have Hw2 := Lib.hid hw2
  have Hfw := Lib.hid fw
  have Hx0 := Lib.hid hx0
  have Hz0 := Lib.hid hz0
  have Hres := Lib.hid hres
  clear hM1 hM2 hM1b hp1 hp2 hw2 fw hx0 hz0 hres
  go_enter Tryd.func10, Tryd.ntmps10
  have m0 := (HM1b.out.cell 0).trans (show _ = some (Value.string mp1) from rfl)
  go_upto_region 1 with fail
  rw [Hw2.out]
  go_wp2_with fail
  refine (Hp1.out _).mono ?_
  rintro e y1 ⟨p1, q1, rfl, hg1⟩
  clear m0
  have m0 := ((HM2.out.frm hg1 (fun h => h)).cell 0).trans (show _ = some (Value.string mp2) from rfl)
  have hf1 := Hfw.out.trans hg1
  have Hg1 := Lib.hid hg1
  have Hf1 := Lib.hid hf1
  clear hg1 hf1
  go_wp2_with fail
  refine (Hp2.out _).mono ?_
  rintro e y2 ⟨p2, q2, rfl, hg2⟩
  clear m0
  have hA := (HM1b.out.frm Hg1.out (fun h => h)).frm hg2 (fun h => h)
  have hB := (HM2.out.frm Hg1.out (fun h => h)).frm hg2 (fun h => h)
  have m2 := (hA.cell 2).trans (show _ = some (Value.slice a1 n1 c1) from rfl)
  have r2 := (hB.cell 2).trans (show _ = some (Value.slice a2 n2 c2) from rfl)
  have hx := Blk.made y2 #[.int .i64 0, .int .i64 (x1 : Int), .int .i64 (n1 : Int)] 3
  have hx2 := hx.alloc (.cells #[.int .i64 0, .int .i64 (z1 : Int), .int .i64 (n2 : Int)] 3)
  have hy := blk_new (y2.alloc (.cells #[.int .i64 0, .int .i64 (x1 : Int), .int .i64 (n1 : Int)] 3)) #[.int .i64 0, .int .i64 (z1 : Int), .int .i64 (n2 : Int)] 3 (B := y2.heap.size + 1) (by simp)
  have hA2 := (hA.alloc (.cells #[.int .i64 0, .int .i64 (x1 : Int), .int .i64 (n1 : Int)] 3)).alloc (.cells #[.int .i64 0, .int .i64 (z1 : Int), .int .i64 (n2 : Int)] 3)
  have hB2 := (hB.alloc (.cells #[.int .i64 0, .int .i64 (x1 : Int), .int .i64 (n1 : Int)] 3)).alloc (.cells #[.int .i64 0, .int .i64 (z1 : Int), .int .i64 (n2 : Int)] 3)
  have hf2 := (((Hf1.out.trans hg2).alloc (.cells #[.int .i64 0, .int .i64 (x1 : Int), .int .i64 (n1 : Int)] 3)).alloc (.cells #[.int .i64 0, .int .i64 (z1 : Int), .int .i64 (n2 : Int)] 3))
  have hwy := Nat.le_trans Hf1.out.size hg2.size
  have hy1 : w.heap.size + 1 < y2.heap.size := by have := hB.lt; omega
  have HA := Lib.hid hA
  have HB := Lib.hid hB
  have Hx := Lib.hid hx
  have Hx2 := Lib.hid hx2
  have Hy := Lib.hid hy
  have HA2 := Lib.hid hA2
  have HB2 := Lib.hid hB2
  have Hf2 := Lib.hid hf2
  have Hg2 := Lib.hid hg2
  have Hwy := Lib.hid hwy
  clear hA hB hx hx2 hy hA2 hB2 hf2 hg2 hwy
  go_upto_region 5 with fail
  clear m2 r2
  generalize (y2.alloc (.cells #[.int .i64 0, .int .i64 (x1 : Int), .int .i64 (n1 : Int)] 3)).alloc (.cells #[.int .i64 0, .int .i64 (z1 : Int), .int .i64 (n2 : Int)] 3) = W5 at *
  have e1 := (HA2.out.cell 1).trans (show _ = some (Value.bool ex1) from rfl)
  have f1 := (HB2.out.cell 1).trans (show _ = some (Value.bool ex2) from rfl)
  have hy := Hy.out
  have hx2 := Hx2.out
  go_upto_if 37 with fail
  go_cut [38] (fun u wx => Blk wx y2.heap.size #[.int .i64 x0, .int .i64 (x1 : Int), .int .i64 (n1 : Int)] 3 ∧ Frm (oneB y2.heap.size) W5 wx)
  case first =>
    have y0 := hx2.free 0
    have yl := hx2.lt
    have g0 := (hx2.cell 0).trans (show _ = some (Value.int .i64 0) from rfl)
    have hset := hx2.set 0 (.int .i64 1)
    rw [show (#[.int .i64 0, .int .i64 (x1 : Int), .int .i64 (n1 : Int)] : Array Value).setIfInBounds 0 (.int .i64 1) = #[.int .i64 1, .int .i64 (x1 : Int), .int .i64 (n1 : Int)] from rfl] at hset
    have Hset := Lib.hid hset
    have Hx2 := Lib.hid hx2
    have Hy := Lib.hid hy
    clear hset hx2 hy
    cases ex1
    · go_wp2_with fail
      go_meet
      exact ⟨by rw [Hx0.out]; exact Hx2.out, Frm.refl _ _⟩
    · go_wp2_with fail
      go_meet
      exact ⟨by rw [Hx0.out]; exact Hset.out, (Frm.refl _ _).setOne 0 _⟩
  case rest =>
    obtain ⟨hX, hfX⟩ := hcut
    have hY := hy.frm hfX (fun e => by have e2 := (show _ = _ from e); omega)
    have hne : ∀ k, k = w.heap.size + 1 → ¬ oneB y2.heap.size k := fun k hk e => by have e2 := (show _ = _ from e); omega
    have f1 := ((HB2.out.frm hfX (hne _ rfl)).cell 1).trans (show _ = some (Value.bool ex2) from rfl)
    have hfw := Hf2.out.new hfX (fun i hi e => by have e2 := (show _ = _ from e); have := Hwy.out; omega)
    have Hne := Lib.hid hne
    clear hne
    clear e1 hx2 hy
    go_upto_if 41 with fail
    go_cut [42] (fun u wx => Blk wx (y2.heap.size + 1) #[.int .i64 z0, .int .i64 (z1 : Int), .int .i64 (n2 : Int)] 3 ∧ Blk wx y2.heap.size #[.int .i64 x0, .int .i64 (x1 : Int), .int .i64 (n1 : Int)] 3 ∧ Frm noB w wx)
    case first =>
      have y0 := hY.free 0
      have yl := hY.lt
      have g0 := (hY.cell 0).trans (show _ = some (Value.int .i64 0) from rfl)
      have hset := hY.set 0 (.int .i64 1)
      have hsx := hX.set_ne (a := ⟨y2.heap.size + 1, 0, none⟩) (by simp) (.int .i64 1)
      have hsf := hfw.setNew (p := ⟨y2.heap.size + 1, 0, none⟩) (by have := Hwy.out; simp; omega) (.int .i64 1)
      rw [show (#[.int .i64 0, .int .i64 (z1 : Int), .int .i64 (n2 : Int)] : Array Value).setIfInBounds 0 (.int .i64 1) = #[.int .i64 1, .int .i64 (z1 : Int), .int .i64 (n2 : Int)] from rfl] at hset
      have Hset := Lib.hid hset
      have HX := Lib.hid hX
      have HY := Lib.hid hY
      have Hsx := Lib.hid hsx
      have Hsf := Lib.hid hsf
      have Hfw := Lib.hid hfw
      have HfX := Lib.hid hfX
      clear hset hX hY hsx hsf hfw hfX
      cases ex2
      · go_wp2_with fail
        go_meet
        exact ⟨by rw [Hz0.out]; exact HY.out, HX.out, Hfw.out⟩
      · go_wp2_with fail
        go_meet
        exact ⟨by rw [Hz0.out]; exact Hset.out, Hsx.out, Hsf.out⟩
    case rest =>
      obtain ⟨hY3, hX3, hf3⟩ := hcut
      clear f1 hX hfX hY hfw
      have HY3 := Lib.hid hY3
      have HX3 := Lib.hid hX3
      have Hf3 := Lib.hid hf3
      clear hY3 hX3 hf3
      go_wp2_with fail
      go_loopw [11] (fun i wr => CmpAt (cmpI z0 x0) (cmpI z1 x1) (cmpI n2 n1) i ∧ Blk wr (y2.heap.size + 1) #[.int .i64 z0, .int .i64 (z1 : Int), .int .i64 (n2 : Int)] 3 ∧ Blk wr y2.heap.size #[.int .i64 x0, .int .i64 (x1 : Int), .int .i64 (n1 : Int)] 3 ∧ Frm noB w wr) (fun i _ => 3 - (intOf i).toNat)
      case atStart => exact ⟨.inl rfl, HY3.out, HX3.out, Hf3.out⟩
      case round =>
        obtain ⟨hrel, hY, hX, hf⟩ := hrel
        obtain ⟨w5, hw5⟩ : ∃ W, W = wr := ⟨_, rfl⟩
        subst hw5
        have e0 := (hX.cell 0).trans (show _ = some (Value.int .i64 x0) from rfl)
        have e1 := (hX.cell 1).trans (show _ = some (Value.int .i64 (x1 : Int)) from rfl)
        have e2 := (hX.cell 2).trans (show _ = some (Value.int .i64 (n1 : Int)) from rfl)
        have f0 := (hY.cell 0).trans (show _ = some (Value.int .i64 z0) from rfl)
        have f1 := (hY.cell 1).trans (show _ = some (Value.int .i64 (z1 : Int)) from rfl)
        have f2 := (hY.cell 2).trans (show _ = some (Value.int .i64 (n2 : Int)) from rfl)
        have HX := Lib.hid hX
        have HY := Lib.hid hY
        have Hf := Lib.hid hf
        clear hX hY hf
        rcases hrel with rfl | ⟨rfl, h0⟩ | ⟨rfl, h0, h1⟩ | ⟨rfl, h0, h1, h2⟩
        · skip
          by_cases c1 : z0 < x0
          · have hd : cmpI z0 x0 = -1 := by unfold cmpI; rw [if_pos c1]
            have t1 : decide (z0 < x0) = true := decide_eq_true c1
            skip
            have Hd := Lib.hid hd
            have Hc1 := Lib.hid c1
            clear hd c1
            go_wp2_with fail
            go_quiet (fail)
            go_wp2_with fail
            go_ret
            exact ⟨by rw [Hres.out, if_neg (by rw [Hd.out]; decide), Hd.out]; rfl, (Hf.out.drewN _)⟩
          · by_cases c2 : x0 < z0
            · have hd : cmpI z0 x0 = 1 := by unfold cmpI; rw [if_neg c1, if_pos c2]
              have t1 : decide (z0 < x0) = false := decide_eq_false c1
              have t2 : decide (x0 < z0) = true := decide_eq_true c2
              skip
              skip
              have Hd := Lib.hid hd
              have Hc1 := Lib.hid c1
              have Hc2 := Lib.hid c2
              clear hd c1 c2
              go_wp2_with fail
              go_quiet (fail)
              go_wp2_with fail
              go_quiet (fail)
              go_wp2_with fail
              go_ret
              exact ⟨by rw [Hres.out, if_neg (by rw [Hd.out]; decide), Hd.out]; rfl, ((Hf.out.drewN _).drewN _)⟩
            · have hd : cmpI z0 x0 = 0 := by unfold cmpI; rw [if_neg c1, if_neg c2]
              have t1 : decide (z0 < x0) = false := decide_eq_false c1
              have t2 : decide (x0 < z0) = false := decide_eq_false c2
              skip
              skip
              have Hd := Lib.hid hd
              have Hc1 := Lib.hid c1
              have Hc2 := Lib.hid c2
              clear hd c1 c2
              go_wp2_with fail
              go_quiet (fail)
              go_wp2_with fail
              go_quiet (fail)
              go_wp2_with fail
              go_roundw
              case rel => exact ⟨.inr (.inl ⟨rfl, Hd.out⟩), HY.out.frm (S := noB) ((Frm.refl noB _).drewN _) (fun h => h), HX.out.frm (S := noB) ((Frm.refl noB _).drewN _) (fun h => h), Hf.out.drewN _⟩
              case measure => simp [intOf]
        · have H0 := Lib.hid h0
          clear h0
          by_cases c1 : (z1 : Int) < (x1 : Int)
          · have hd : cmpI (z1 : Int) (x1 : Int) = -1 := by unfold cmpI; rw [if_pos c1]
            have t1 : decide ((z1 : Int) < (x1 : Int)) = true := decide_eq_true c1
            have t2 : decide (z1 < x1) = true := decide_eq_true (by omega)
            have Hd := Lib.hid hd
            have Hc1 := Lib.hid c1
            clear hd c1
            go_wp2_with fail
            go_quiet (fail)
            go_wp2_with fail
            go_ret
            exact ⟨by rw [Hres.out, if_pos H0.out, if_neg (by rw [Hd.out]; decide), Hd.out]; rfl, (Hf.out.drewN _)⟩
          · by_cases c2 : (x1 : Int) < (z1 : Int)
            · have hd : cmpI (z1 : Int) (x1 : Int) = 1 := by unfold cmpI; rw [if_neg c1, if_pos c2]
              have t1 : decide ((z1 : Int) < (x1 : Int)) = false := decide_eq_false c1
              have t2 : decide ((x1 : Int) < (z1 : Int)) = true := decide_eq_true c2
              have t3 : decide (z1 < x1) = false := decide_eq_false (by omega)
              have t4 : decide (x1 < z1) = true := decide_eq_true (by omega)
              have Hd := Lib.hid hd
              have Hc1 := Lib.hid c1
              have Hc2 := Lib.hid c2
              clear hd c1 c2
              go_wp2_with fail
              go_quiet (fail)
              go_wp2_with fail
              go_quiet (fail)
              go_wp2_with fail
              go_ret
              exact ⟨by rw [Hres.out, if_pos H0.out, if_neg (by rw [Hd.out]; decide), Hd.out]; rfl, ((Hf.out.drewN _).drewN _)⟩
            · have hd : cmpI (z1 : Int) (x1 : Int) = 0 := by unfold cmpI; rw [if_neg c1, if_neg c2]
              have t1 : decide ((z1 : Int) < (x1 : Int)) = false := decide_eq_false c1
              have t2 : decide ((x1 : Int) < (z1 : Int)) = false := decide_eq_false c2
              have t3 : decide (z1 < x1) = false := decide_eq_false (by omega)
              have t4 : decide (x1 < z1) = false := decide_eq_false (by omega)
              have Hd := Lib.hid hd
              have Hc1 := Lib.hid c1
              have Hc2 := Lib.hid c2
              clear hd c1 c2
              go_wp2_with fail
              go_quiet (fail)
              go_wp2_with fail
              go_quiet (fail)
              go_wp2_with fail
              go_roundw
              case rel => exact ⟨.inr (.inr (.inl ⟨rfl, H0.out, Hd.out⟩)), HY.out.frm (S := noB) ((Frm.refl noB _).drewN _) (fun h => h), HX.out.frm (S := noB) ((Frm.refl noB _).drewN _) (fun h => h), Hf.out.drewN _⟩
              case measure => simp [intOf]
        · have H0 := Lib.hid h0
          have H1 := Lib.hid h1
          clear h0 h1
          by_cases c1 : (n2 : Int) < (n1 : Int)
          · have hd : cmpI (n2 : Int) (n1 : Int) = -1 := by unfold cmpI; rw [if_pos c1]
            have t1 : decide ((n2 : Int) < (n1 : Int)) = true := decide_eq_true c1
            have t2 : decide (n2 < n1) = true := decide_eq_true (by omega)
            have Hd := Lib.hid hd
            have Hc1 := Lib.hid c1
            clear hd c1
            go_wp2_with fail
            go_quiet (fail)
            go_wp2_with fail
            go_ret
            exact ⟨by rw [Hres.out, if_pos H0.out, if_pos H1.out, Hd.out]; rfl, (Hf.out.drewN _)⟩
          · by_cases c2 : (n1 : Int) < (n2 : Int)
            · have hd : cmpI (n2 : Int) (n1 : Int) = 1 := by unfold cmpI; rw [if_neg c1, if_pos c2]
              have t1 : decide ((n2 : Int) < (n1 : Int)) = false := decide_eq_false c1
              have t2 : decide ((n1 : Int) < (n2 : Int)) = true := decide_eq_true c2
              have t3 : decide (n2 < n1) = false := decide_eq_false (by omega)
              have t4 : decide (n1 < n2) = true := decide_eq_true (by omega)
              have Hd := Lib.hid hd
              have Hc1 := Lib.hid c1
              have Hc2 := Lib.hid c2
              clear hd c1 c2
              go_wp2_with fail
              go_quiet (fail)
              go_wp2_with fail
              go_quiet (fail)
              go_wp2_with fail
              go_ret
              exact ⟨by rw [Hres.out, if_pos H0.out, if_pos H1.out, Hd.out]; rfl, ((Hf.out.drewN _).drewN _)⟩
            · have hd : cmpI (n2 : Int) (n1 : Int) = 0 := by unfold cmpI; rw [if_neg c1, if_neg c2]
              have t1 : decide ((n2 : Int) < (n1 : Int)) = false := decide_eq_false c1
              have t2 : decide ((n1 : Int) < (n2 : Int)) = false := decide_eq_false c2
              have t3 : decide (n2 < n1) = false := decide_eq_false (by omega)
              have t4 : decide (n1 < n2) = false := decide_eq_false (by omega)
              have Hd := Lib.hid hd
              have Hc1 := Lib.hid c1
              have Hc2 := Lib.hid c2
              clear hd c1 c2
              go_wp2_with fail
              go_quiet (fail)
              go_wp2_with fail
              go_quiet (fail)
              go_wp2_with fail
              go_roundw
              case rel => exact ⟨.inr (.inr (.inr ⟨rfl, H0.out, H1.out, Hd.out⟩)), HY.out.frm (S := noB) ((Frm.refl noB _).drewN _) (fun h => h), HX.out.frm (S := noB) ((Frm.refl noB _).drewN _) (fun h => h), Hf.out.drewN _⟩
              case measure => simp [intOf]
        · have hr : R = 0 := by rw [Hres.out, if_pos h0, if_pos h1, h2]
          have Hr := Lib.hid hr
          have H0 := Lib.hid h0
          have H1 := Lib.hid h1
          have H2 := Lib.hid h2
          clear hr h0 h1 h2
          go_wp2_with fail
          go_ret
          exact ⟨by rw [Hr.out]; rfl, Hf.out⟩
end Go.Proofs.YtjehdldjfnaniaaDoor
