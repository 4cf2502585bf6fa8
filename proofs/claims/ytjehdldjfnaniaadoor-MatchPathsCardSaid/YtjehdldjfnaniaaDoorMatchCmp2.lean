/- Cmp of matches. -/
import Derived.Test.YtjehdldjfnaniaaDoorMatchCmp
import Derived.Test.YtjehdldjfnaniaaDoorTakeD

import Derived.Outline
set_option linter.unusedVariables false
set_option linter.unusedSimpArgs false
namespace Go.Proofs.YtjehdldjfnaniaaDoor
open Go.RowKit

theorem info_3int : (Tryd.prog.info? 50).map (·.size) = some 3 := by kernel_rfl
def cmpR (x0 x1 x2 y0 y1 y2 : Int) : Int := if cmpI y0 x0 = 0 then (if cmpI y1 x1 = 0 then cmpI y2 x2 else cmpI y1 x1) else cmpI y0 x0
theorem ne_of_ge {b B x : Nat} (h : x ≤ B) (hb : b < x) (e : oneB B b) : False := Nat.lt_irrefl b (Nat.lt_of_lt_of_le hb ((show b = B from e) ▸ h))
def CmpAt (d0 d1 d2 : Int) (i : Value) : Prop := i = .int .i64 0 ∨ (i = .int .i64 1 ∧ d0 = 0) ∨ (i = .int .i64 2 ∧ d0 = 0 ∧ d1 = 0) ∨ (i = .int .i64 3 ∧ d0 = 0 ∧ d1 = 0 ∧ d2 = 0)
set_option maxRecDepth 100000 in
set_option maxHeartbeats 4000000 in
theorem cmp_any (mp1 : ByteArray) (ex1 : Bool) (a1 : Option Addr) (n1 c1 : Nat) (mp2 : ByteArray) (ex2 : Bool) (a2 : Option Addr) (n2 c2 : Nat) (w : World) :
    Calls Tryd.prog 9 #[.agg #[.string mp1, .bool ex1, .slice a1 n1 c1], .agg #[.string mp2, .bool ex2, .slice a2 n2 c2]] w fun e w' => e = .returned (.int .i64 (cmpR (rk0 ex1) (rk1 mp1) n1 (rk0 ex2) (rk1 mp2) n2)) ∧ Frm noB w w' := by
  have hM1 := Blk.made w #[.string mp1, .bool ex1, .slice a1 n1 c1] 25
  have hM2 := blk_new (w.alloc (.cells #[.string mp1, .bool ex1, .slice a1 n1 c1] 25)) #[.string mp2, .bool ex2, .slice a2 n2 c2] 25 (B := w.heap.size + 1) (by simp)
  have hM1b := hM1.alloc (.cells #[.string mp2, .bool ex2, .slice a2 n2 c2] 25)
  have hra1 := fun w => rank_any mp1 ex1 a1 n1 c1 w
  have hra2 := fun w => rank_any mp2 ex2 a2 n2 c2 w
  unfold rankC at hra1 hra2
  generalize hw2 : (w.alloc (.cells #[.string mp1, .bool ex1, .slice a1 n1 c1] 25)).alloc (.cells #[.string mp2, .bool ex2, .slice a2 n2 c2] 25) = W2 at *
  have fw : Frm noB w W2 := by rw [← hw2]; exact ((Frm.refl noB w).alloc _).alloc _
  have sw : w.heap.size + 2 ≤ W2.heap.size := by rw [← hw2]; simp
  obtain ⟨x0, hx0⟩ : ∃ x, x = rk0 ex1 := ⟨_, rfl⟩
  obtain ⟨x1, hx1⟩ : ∃ x, x = rk1 mp1 := ⟨_, rfl⟩
  obtain ⟨z0, hz0⟩ : ∃ x, x = rk0 ex2 := ⟨_, rfl⟩
  obtain ⟨z1, hz1⟩ : ∃ x, x = rk1 mp2 := ⟨_, rfl⟩
  rw [← hx0, ← hx1] at hra1 ⊢
  rw [← hz0, ← hz1] at hra2 ⊢
  have hres : cmpR x0 x1 n1 z0 z1 n2 = if cmpI z0 x0 = 0 then (if cmpI z1 x1 = 0 then cmpI n2 n1 else cmpI z1 x1) else cmpI z0 x0 := rfl
  generalize cmpR x0 x1 n1 z0 z1 n2 = R at *
  have Hres := Lib.hid hres
  have HM1 := Lib.hid hM1
  have HM2 := Lib.hid hM2
  have HM1b := Lib.hid hM1b
  have Hra1 := Lib.hid hra1
  have Hra2 := Lib.hid hra2
  have Hw2 := Lib.hid hw2
  have Hfw := Lib.hid fw
  have Hsw := Lib.hid sw
  have Hx0 := Lib.hid hx0
  have Hx1 := Lib.hid hx1
  have Hz0 := Lib.hid hz0
  have Hz1 := Lib.hid hz1
  clear hres hM1 hM2 hM1b hra1 hra2 hw2 fw sw hx0 hx1 hz0 hz1
  go_enter Tryd.func9, Tryd.ntmps9
  go_upto_region 1 with fail
  rw [Hw2.out]
  go_cut [5, 6] (fun s t wx => ∃ B5 B6 : Nat, s = .pointer (some ⟨B5, 0, none⟩) ∧ t = .pointer (some ⟨B6, 0, none⟩) ∧ Blk wx B5 #[.int .i64 x0, .int .i64 x1, .int .i64 (n1 : Int)] 50 ∧ Blk wx B6 #[.int .i64 z0, .int .i64 z1, .int .i64 (n2 : Int)] 50 ∧ Frm noB w wx)
  case first =>
    have q1 := HM1b.out
    have q2 := HM2.out
    have sw := Hsw.out
    refine wp_region_noPanic ?_
    refine wp_region_held_drew (S := fun X => Blk X w.heap.size #[.string mp1, .bool ex1, .slice a1 n1 c1] 25 ∧ Blk X (w.heap.size + 1) #[.string mp2, .bool ex2, .slice a2 n2 c2] 25 ∧ W2.heap.size ≤ X.heap.size) (by kernel_rfl) ?_ (fun hHeld => ?_)
    · first | exact ⟨q1, q2, Nat.le_refl _⟩ | assumption | (refine ⟨?_, ?_, ?_⟩ <;> (first | omega | (simp <;> omega) | (repeat (first | assumption | ((with_reducible refine blk_new _ _ _ ?_); (first | (with_reducible rfl) | (simp; done))) | (with_reducible refine Blk.drew ?_) | (with_reducible refine Blk.alloc ?_ _) | (with_reducible refine Blk.frm ?_ (by assumption) (fun h => h))))))
    refine takeD (i := 0) (some 10) (v := ?_) rfl rfl (by kernel_rfl) (by kernel_rfl) (by kernel_rfl) (fun _ _ _ h => h) (Or.inl ⟨by kernel_rfl, ?_⟩) (by assumption) ?_
    rotate_left
    · (intro w hSw; (try dsimp only at hSw); have hQ0 := (hSw.1.cell 0).trans (show _ = some (Value.string mp1) from rfl); have hQ1 := (hSw.1.cell 1).trans (show _ = some (Value.bool ex1) from rfl); have hQ2 := (hSw.1.cell 2).trans (show _ = some (Value.slice a1 n1 c1) from rfl); have hR0 := (hSw.2.1.cell 0).trans (show _ = some (Value.string mp2) from rfl); have hR1 := (hSw.2.1.cell 1).trans (show _ = some (Value.bool ex2) from rfl); have hR2 := (hSw.2.1.cell 2).trans (show _ = some (Value.slice a2 n2 c2) from rfl); go_simp; try (with_reducible rfl))
    (try dsimp only [Act.put]); try simp only [Act.put, List.setIfInBounds_toArray, List.set_cons_zero, List.set_cons_succ]
    refine takeD (i := 2) (some 12) (v := ?_) rfl rfl (by kernel_rfl) (by kernel_rfl) (by kernel_rfl) (fun _ _ _ h => h) (Or.inl ⟨by kernel_rfl, ?_⟩) (by assumption) ?_
    rotate_left
    · (intro w hSw; (try dsimp only at hSw); have hQ0 := (hSw.1.cell 0).trans (show _ = some (Value.string mp1) from rfl); have hQ1 := (hSw.1.cell 1).trans (show _ = some (Value.bool ex1) from rfl); have hQ2 := (hSw.1.cell 2).trans (show _ = some (Value.slice a1 n1 c1) from rfl); have hR0 := (hSw.2.1.cell 0).trans (show _ = some (Value.string mp2) from rfl); have hR1 := (hSw.2.1.cell 1).trans (show _ = some (Value.bool ex2) from rfl); have hR2 := (hSw.2.1.cell 2).trans (show _ = some (Value.slice a2 n2 c2) from rfl); go_simp; try (with_reducible rfl))
    (try dsimp only [Act.put]); try simp only [Act.put, List.setIfInBounds_toArray, List.set_cons_zero, List.set_cons_succ]
    refine wpAnyH_ready (rs := [1, 4, 5]) (by kernel_rfl) (by simp) ?_
    refine AllReadyH.cons rfl (fun K hK => ?_) ?_
    · go_simp
      refine (Hra1.out _).mono ?_
      rintro e y1 ⟨rfl, hg1⟩
      have s1 := hg1.size
      try simp at s1
      go_wp2_with fail
      refine hK.out _ _ ?_ (fun hHeld => ?_)
      · first | exact ⟨q1, q2, Nat.le_refl _⟩ | assumption | (refine ⟨?_, ?_, ?_⟩ <;> (first | omega | (simp <;> omega) | (repeat (first | assumption | ((with_reducible refine blk_new _ _ _ ?_); (first | (with_reducible rfl) | (simp; done))) | (with_reducible refine Blk.drew ?_) | (with_reducible refine Blk.alloc ?_ _) | (with_reducible refine Blk.frm ?_ (by assumption) (fun h => h))))))
      clear hK K
      (try dsimp only [Act.put]); try simp only [Act.put, List.setIfInBounds_toArray, List.set_cons_zero, List.set_cons_succ]
      refine wpAnyH_ready (rs := [3, 4, 5]) (by kernel_rfl) (by simp) ?_
      refine AllReadyH.cons rfl (fun K hK => ?_) ?_
      · go_simp
        refine (Hra2.out _).mono ?_
        rintro e y2 ⟨rfl, hg2⟩
        have s2 := hg2.size
        try simp at s2
        go_wp2_with fail
        refine hK.out _ _ ?_ (fun hHeld => ?_)
        · first | exact ⟨q1, q2, Nat.le_refl _⟩ | assumption | (refine ⟨?_, ?_, ?_⟩ <;> (first | omega | (simp <;> omega) | (repeat (first | assumption | ((with_reducible refine blk_new _ _ _ ?_); (first | (with_reducible rfl) | (simp; done))) | (with_reducible refine Blk.drew ?_) | (with_reducible refine Blk.alloc ?_ _) | (with_reducible refine Blk.frm ?_ (by assumption) (fun h => h))))))
        clear hK K
        (try dsimp only [Act.put]); try simp only [Act.put, List.setIfInBounds_toArray, List.set_cons_zero, List.set_cons_succ]
        refine wpAnyH_ready (rs := [4, 5]) (by kernel_rfl) (by simp) ?_
        refine AllReadyH.cons rfl (fun K hK => ?_) ?_
        · go_simp
          refine hK.out _ _ ?_ (fun hHeld => ?_)
          · first | exact ⟨q1, q2, Nat.le_refl _⟩ | assumption | (refine ⟨?_, ?_, ?_⟩ <;> (first | omega | (simp <;> omega) | (repeat (first | assumption | ((with_reducible refine blk_new _ _ _ ?_); (first | (with_reducible rfl) | (simp; done))) | (with_reducible refine Blk.drew ?_) | (with_reducible refine Blk.alloc ?_ _) | (with_reducible refine Blk.frm ?_ (by assumption) (fun h => h))))))
          clear hK K
          (try dsimp only [Act.put]); try simp only [Act.put, List.setIfInBounds_toArray, List.set_cons_zero, List.set_cons_succ]
          refine wpAnyH_ready (rs := [5]) (by kernel_rfl) (by simp) ?_
          refine AllReadyH.cons rfl (fun K hK => ?_) ?_
          · go_simp
            refine hK.out _ _ ?_ (fun hHeld => ?_)
            · first | exact ⟨q1, q2, Nat.le_refl _⟩ | assumption | (refine ⟨?_, ?_, ?_⟩ <;> (first | omega | (simp <;> omega) | (repeat (first | assumption | ((with_reducible refine blk_new _ _ _ ?_); (first | (with_reducible rfl) | (simp; done))) | (with_reducible refine Blk.drew ?_) | (with_reducible refine Blk.alloc ?_ _) | (with_reducible refine Blk.frm ?_ (by assumption) (fun h => h))))))
            clear hK K
            (try dsimp only [Act.put]); try simp only [Act.put, List.setIfInBounds_toArray, List.set_cons_zero, List.set_cons_succ]
            refine wpAnyH_ready (rs := [6]) (by kernel_rfl) (by simp) ?_
            refine AllReadyH.cons rfl (fun K hK => ?_) ?_
            · rw [if_pos (by rfl)]
              refine wp_store_blk 50 _ _ (by rfl) _ (by rfl) #[.int .i64 0, .int .i64 0, .int .i64 0] 50 ?_ _ (by rfl) (by exact info_3int) (by rfl) (by kernel_rfl) (fun wz hBwz hfwz => ?_)
              · (repeat (first | assumption | ((with_reducible refine blk_new _ _ _ ?_); (first | (with_reducible rfl) | (simp; done))) | (with_reducible refine Blk.drew ?_) | (with_reducible refine Blk.alloc ?_ _) | (with_reducible refine Blk.frm ?_ (by assumption) (fun h => h))))
              obtain ⟨t1, t2, t3⟩ := hHeld
              have hS1 := t1.frm hfwz (fun e => ne_of_ge (x := w.heap.size + 2) (by first | omega | (simp <;> omega)) (by omega) e)
              have hS2 := t2.frm hfwz (fun e => ne_of_ge (x := w.heap.size + 2) (by first | omega | (simp <;> omega)) (by omega) e)
              have hS3 := Nat.le_trans t3 hfwz.size
              have hSS := And.intro hS1 (And.intro hS2 hS3)
              refine hK.out _ _ ?_ (fun hHeld => ?_)
              · first | exact ⟨q1, q2, Nat.le_refl _⟩ | assumption | (refine ⟨?_, ?_, ?_⟩ <;> (first | omega | (simp <;> omega) | (repeat (first | assumption | ((with_reducible refine blk_new _ _ _ ?_); (first | (with_reducible rfl) | (simp; done))) | (with_reducible refine Blk.drew ?_) | (with_reducible refine Blk.alloc ?_ _) | (with_reducible refine Blk.frm ?_ (by assumption) (fun h => h))))))
              clear hK K
              (try dsimp only [Act.put]); try simp only [Act.put, List.setIfInBounds_toArray, List.set_cons_zero, List.set_cons_succ]
              refine wpAnyH_ready (rs := [7]) (by kernel_rfl) (by simp) ?_
              refine AllReadyH.cons rfl (fun K hK => ?_) ?_
              · rw [if_pos (by rfl)]
                refine wp_store_blk 50 _ _ (by rfl) _ (by rfl) #[.int .i64 0, .int .i64 0, .int .i64 0] 50 ?_ _ (by rfl) (by exact info_3int) (by rfl) (by kernel_rfl) (fun wv hBwv hfwv => ?_)
                · refine Blk.frm ?_ hfwz (fun e => ?_)
                  · (repeat (first | assumption | ((with_reducible refine blk_new _ _ _ ?_); (first | (with_reducible rfl) | (simp; done))) | (with_reducible refine Blk.drew ?_) | (with_reducible refine Blk.alloc ?_ _) | (with_reducible refine Blk.frm ?_ (by assumption) (fun h => h))))
                  · have e2 := (show _ = _ from e)
                    first | omega | (simp at e2; omega)
                have hS4 := hS1.frm hfwv (fun e => ne_of_ge (x := w.heap.size + 2) (by first | omega | (simp <;> omega)) (by omega) e)
                have hS5 := hS2.frm hfwv (fun e => ne_of_ge (x := w.heap.size + 2) (by first | omega | (simp <;> omega)) (by omega) e)
                have hS6 := Nat.le_trans hS3 hfwv.size
                have hSS2 := And.intro hS4 (And.intro hS5 hS6)
                have hB5 := hBwz.frm hfwv (fun e => by have e2 := (show _ = _ from e); first | omega | (simp at e2; omega))
                have hF1 : Frm noB W2 wz := by
                  refine Frm.new ?_ hfwz (fun i hi e => ?_)
                  · (repeat (first | (with_reducible exact Frm.refl _ _) | assumption | (with_reducible refine Frm.alloc ?_ _) | (with_reducible refine Frm.drew ?_) | (with_reducible refine Frm.trans ?_ (by assumption))))
                  · have e2 := (show _ = _ from e)
                    first | omega | (simp at e2; omega)
                have hF2 : Frm noB W2 wv := by
                  refine Frm.new hF1 hfwv (fun i hi e => ?_)
                  have e2 := (show _ = _ from e)
                  first | omega | (simp at e2; omega)
                refine hK.out _ _ ?_ (fun hHeld => ?_)
                · first | exact ⟨q1, q2, Nat.le_refl _⟩ | assumption | (refine ⟨?_, ?_, ?_⟩ <;> (first | omega | (simp <;> omega) | (repeat (first | assumption | ((with_reducible refine blk_new _ _ _ ?_); (first | (with_reducible rfl) | (simp; done))) | (with_reducible refine Blk.drew ?_) | (with_reducible refine Blk.alloc ?_ _) | (with_reducible refine Blk.frm ?_ (by assumption) (fun h => h))))))
                clear hK K
                (try dsimp only [Act.put]); try simp only [Act.put, List.setIfInBounds_toArray, List.set_cons_zero, List.set_cons_succ]
                refine wpAnyH_done (by kernel_rfl) ?_ _
                refine NoPanic.normal ?_
                go_wp2_with fail
                go_meet
                exact ⟨_, _, rfl, rfl, hB5, hBwv, Hfw.out.trans hF2⟩
              exact AllReadyH.nil
            exact AllReadyH.nil
          exact AllReadyH.nil
        refine AllReadyH.cons rfl (fun K hK => ?_) ?_
        · go_simp
          refine hK.out _ _ ?_ (fun hHeld => ?_)
          · first | exact ⟨q1, q2, Nat.le_refl _⟩ | assumption | (refine ⟨?_, ?_, ?_⟩ <;> (first | omega | (simp <;> omega) | (repeat (first | assumption | ((with_reducible refine blk_new _ _ _ ?_); (first | (with_reducible rfl) | (simp; done))) | (with_reducible refine Blk.drew ?_) | (with_reducible refine Blk.alloc ?_ _) | (with_reducible refine Blk.frm ?_ (by assumption) (fun h => h))))))
          clear hK K
          (try dsimp only [Act.put]); try simp only [Act.put, List.setIfInBounds_toArray, List.set_cons_zero, List.set_cons_succ]
          refine wpAnyH_ready (rs := [4]) (by kernel_rfl) (by simp) ?_
          refine AllReadyH.cons rfl (fun K hK => ?_) ?_
          · go_simp
            refine hK.out _ _ ?_ (fun hHeld => ?_)
            · first | exact ⟨q1, q2, Nat.le_refl _⟩ | assumption | (refine ⟨?_, ?_, ?_⟩ <;> (first | omega | (simp <;> omega) | (repeat (first | assumption | ((with_reducible refine blk_new _ _ _ ?_); (first | (with_reducible rfl) | (simp; done))) | (with_reducible refine Blk.drew ?_) | (with_reducible refine Blk.alloc ?_ _) | (with_reducible refine Blk.frm ?_ (by assumption) (fun h => h))))))
            clear hK K
            (try dsimp only [Act.put]); try simp only [Act.put, List.setIfInBounds_toArray, List.set_cons_zero, List.set_cons_succ]
            refine wpAnyH_ready (rs := [6]) (by kernel_rfl) (by simp) ?_
            refine AllReadyH.cons rfl (fun K hK => ?_) ?_
            · rw [if_pos (by rfl)]
              refine wp_store_blk 50 _ _ (by rfl) _ (by rfl) #[.int .i64 0, .int .i64 0, .int .i64 0] 50 ?_ _ (by rfl) (by exact info_3int) (by rfl) (by kernel_rfl) (fun wz hBwz hfwz => ?_)
              · (repeat (first | assumption | ((with_reducible refine blk_new _ _ _ ?_); (first | (with_reducible rfl) | (simp; done))) | (with_reducible refine Blk.drew ?_) | (with_reducible refine Blk.alloc ?_ _) | (with_reducible refine Blk.frm ?_ (by assumption) (fun h => h))))
              obtain ⟨t1, t2, t3⟩ := hHeld
              have hS1 := t1.frm hfwz (fun e => ne_of_ge (x := w.heap.size + 2) (by first | omega | (simp <;> omega)) (by omega) e)
              have hS2 := t2.frm hfwz (fun e => ne_of_ge (x := w.heap.size + 2) (by first | omega | (simp <;> omega)) (by omega) e)
              have hS3 := Nat.le_trans t3 hfwz.size
              have hSS := And.intro hS1 (And.intro hS2 hS3)
              refine hK.out _ _ ?_ (fun hHeld => ?_)
              · first | exact ⟨q1, q2, Nat.le_refl _⟩ | assumption | (refine ⟨?_, ?_, ?_⟩ <;> (first | omega | (simp <;> omega) | (repeat (first | assumption | ((with_reducible refine blk_new _ _ _ ?_); (first | (with_reducible rfl) | (simp; done))) | (with_reducible refine Blk.drew ?_) | (with_reducible refine Blk.alloc ?_ _) | (with_reducible refine Blk.frm ?_ (by assumption) (fun h => h))))))
              clear hK K
              (try dsimp only [Act.put]); try simp only [Act.put, List.setIfInBounds_toArray, List.set_cons_zero, List.set_cons_succ]
              refine wpAnyH_ready (rs := [7]) (by kernel_rfl) (by simp) ?_
              refine AllReadyH.cons rfl (fun K hK => ?_) ?_
              · rw [if_pos (by rfl)]
                refine wp_store_blk 50 _ _ (by rfl) _ (by rfl) #[.int .i64 0, .int .i64 0, .int .i64 0] 50 ?_ _ (by rfl) (by exact info_3int) (by rfl) (by kernel_rfl) (fun wv hBwv hfwv => ?_)
                · refine Blk.frm ?_ hfwz (fun e => ?_)
                  · (repeat (first | assumption | ((with_reducible refine blk_new _ _ _ ?_); (first | (with_reducible rfl) | (simp; done))) | (with_reducible refine Blk.drew ?_) | (with_reducible refine Blk.alloc ?_ _) | (with_reducible refine Blk.frm ?_ (by assumption) (fun h => h))))
                  · have e2 := (show _ = _ from e)
                    first | omega | (simp at e2; omega)
                have hS4 := hS1.frm hfwv (fun e => ne_of_ge (x := w.heap.size + 2) (by first | omega | (simp <;> omega)) (by omega) e)
                have hS5 := hS2.frm hfwv (fun e => ne_of_ge (x := w.heap.size + 2) (by first | omega | (simp <;> omega)) (by omega) e)
                have hS6 := Nat.le_trans hS3 hfwv.size
                have hSS2 := And.intro hS4 (And.intro hS5 hS6)
                have hB5 := hBwz.frm hfwv (fun e => by have e2 := (show _ = _ from e); first | omega | (simp at e2; omega))
                have hF1 : Frm noB W2 wz := by
                  refine Frm.new ?_ hfwz (fun i hi e => ?_)
                  · (repeat (first | (with_reducible exact Frm.refl _ _) | assumption | (with_reducible refine Frm.alloc ?_ _) | (with_reducible refine Frm.drew ?_) | (with_reducible refine Frm.trans ?_ (by assumption))))
                  · have e2 := (show _ = _ from e)
                    first | omega | (simp at e2; omega)
                have hF2 : Frm noB W2 wv := by
                  refine Frm.new hF1 hfwv (fun i hi e => ?_)
                  have e2 := (show _ = _ from e)
                  first | omega | (simp at e2; omega)
                refine hK.out _ _ ?_ (fun hHeld => ?_)
                · first | exact ⟨q1, q2, Nat.le_refl _⟩ | assumption | (refine ⟨?_, ?_, ?_⟩ <;> (first | omega | (simp <;> omega) | (repeat (first | assumption | ((with_reducible refine blk_new _ _ _ ?_); (first | (with_reducible rfl) | (simp; done))) | (with_reducible refine Blk.drew ?_) | (with_reducible refine Blk.alloc ?_ _) | (with_reducible refine Blk.frm ?_ (by assumption) (fun h => h))))))
                clear hK K
                (try dsimp only [Act.put]); try simp only [Act.put, List.setIfInBounds_toArray, List.set_cons_zero, List.set_cons_succ]
                refine wpAnyH_done (by kernel_rfl) ?_ _
                refine NoPanic.normal ?_
                go_wp2_with fail
                go_meet
                exact ⟨_, _, rfl, rfl, hB5, hBwv, Hfw.out.trans hF2⟩
              exact AllReadyH.nil
            exact AllReadyH.nil
          exact AllReadyH.nil
        exact AllReadyH.nil
      refine AllReadyH.cons rfl (fun K hK => ?_) ?_
      · go_simp
        refine hK.out _ _ ?_ (fun hHeld => ?_)
        · first | exact ⟨q1, q2, Nat.le_refl _⟩ | assumption | (refine ⟨?_, ?_, ?_⟩ <;> (first | omega | (simp <;> omega) | (repeat (first | assumption | ((with_reducible refine blk_new _ _ _ ?_); (first | (with_reducible rfl) | (simp; done))) | (with_reducible refine Blk.drew ?_) | (with_reducible refine Blk.alloc ?_ _) | (with_reducible refine Blk.frm ?_ (by assumption) (fun h => h))))))
        clear hK K
        (try dsimp only [Act.put]); try simp only [Act.put, List.setIfInBounds_toArray, List.set_cons_zero, List.set_cons_succ]
        refine wpAnyH_ready (rs := [3, 5]) (by kernel_rfl) (by simp) ?_
        refine AllReadyH.cons rfl (fun K hK => ?_) ?_
        · go_simp
          refine (Hra2.out _).mono ?_
          rintro e y2 ⟨rfl, hg2⟩
          have s2 := hg2.size
          try simp at s2
          go_wp2_with fail
          refine hK.out _ _ ?_ (fun hHeld => ?_)
          · first | exact ⟨q1, q2, Nat.le_refl _⟩ | assumption | (refine ⟨?_, ?_, ?_⟩ <;> (first | omega | (simp <;> omega) | (repeat (first | assumption | ((with_reducible refine blk_new _ _ _ ?_); (first | (with_reducible rfl) | (simp; done))) | (with_reducible refine Blk.drew ?_) | (with_reducible refine Blk.alloc ?_ _) | (with_reducible refine Blk.frm ?_ (by assumption) (fun h => h))))))
          clear hK K
          (try dsimp only [Act.put]); try simp only [Act.put, List.setIfInBounds_toArray, List.set_cons_zero, List.set_cons_succ]
          refine wpAnyH_ready (rs := [5]) (by kernel_rfl) (by simp) ?_
          refine AllReadyH.cons rfl (fun K hK => ?_) ?_
          · go_simp
            refine hK.out _ _ ?_ (fun hHeld => ?_)
            · first | exact ⟨q1, q2, Nat.le_refl _⟩ | assumption | (refine ⟨?_, ?_, ?_⟩ <;> (first | omega | (simp <;> omega) | (repeat (first | assumption | ((with_reducible refine blk_new _ _ _ ?_); (first | (with_reducible rfl) | (simp; done))) | (with_reducible refine Blk.drew ?_) | (with_reducible refine Blk.alloc ?_ _) | (with_reducible refine Blk.frm ?_ (by assumption) (fun h => h))))))
            clear hK K
            (try dsimp only [Act.put]); try simp only [Act.put, List.setIfInBounds_toArray, List.set_cons_zero, List.set_cons_succ]
            refine wpAnyH_ready (rs := [6]) (by kernel_rfl) (by simp) ?_
            refine AllReadyH.cons rfl (fun K hK => ?_) ?_
            · rw [if_pos (by rfl)]
              refine wp_store_blk 50 _ _ (by rfl) _ (by rfl) #[.int .i64 0, .int .i64 0, .int .i64 0] 50 ?_ _ (by rfl) (by exact info_3int) (by rfl) (by kernel_rfl) (fun wz hBwz hfwz => ?_)
              · (repeat (first | assumption | ((with_reducible refine blk_new _ _ _ ?_); (first | (with_reducible rfl) | (simp; done))) | (with_reducible refine Blk.drew ?_) | (with_reducible refine Blk.alloc ?_ _) | (with_reducible refine Blk.frm ?_ (by assumption) (fun h => h))))
              obtain ⟨t1, t2, t3⟩ := hHeld
              have hS1 := t1.frm hfwz (fun e => ne_of_ge (x := w.heap.size + 2) (by first | omega | (simp <;> omega)) (by omega) e)
              have hS2 := t2.frm hfwz (fun e => ne_of_ge (x := w.heap.size + 2) (by first | omega | (simp <;> omega)) (by omega) e)
              have hS3 := Nat.le_trans t3 hfwz.size
              have hSS := And.intro hS1 (And.intro hS2 hS3)
              refine hK.out _ _ ?_ (fun hHeld => ?_)
              · first | exact ⟨q1, q2, Nat.le_refl _⟩ | assumption | (refine ⟨?_, ?_, ?_⟩ <;> (first | omega | (simp <;> omega) | (repeat (first | assumption | ((with_reducible refine blk_new _ _ _ ?_); (first | (with_reducible rfl) | (simp; done))) | (with_reducible refine Blk.drew ?_) | (with_reducible refine Blk.alloc ?_ _) | (with_reducible refine Blk.frm ?_ (by assumption) (fun h => h))))))
              clear hK K
              (try dsimp only [Act.put]); try simp only [Act.put, List.setIfInBounds_toArray, List.set_cons_zero, List.set_cons_succ]
              refine wpAnyH_ready (rs := [7]) (by kernel_rfl) (by simp) ?_
              refine AllReadyH.cons rfl (fun K hK => ?_) ?_
              · rw [if_pos (by rfl)]
                refine wp_store_blk 50 _ _ (by rfl) _ (by rfl) #[.int .i64 0, .int .i64 0, .int .i64 0] 50 ?_ _ (by rfl) (by exact info_3int) (by rfl) (by kernel_rfl) (fun wv hBwv hfwv => ?_)
                · refine Blk.frm ?_ hfwz (fun e => ?_)
                  · (repeat (first | assumption | ((with_reducible refine blk_new _ _ _ ?_); (first | (with_reducible rfl) | (simp; done))) | (with_reducible refine Blk.drew ?_) | (with_reducible refine Blk.alloc ?_ _) | (with_reducible refine Blk.frm ?_ (by assumption) (fun h => h))))
                  · have e2 := (show _ = _ from e)
                    first | omega | (simp at e2; omega)
                have hS4 := hS1.frm hfwv (fun e => ne_of_ge (x := w.heap.size + 2) (by first | omega | (simp <;> omega)) (by omega) e)
                have hS5 := hS2.frm hfwv (fun e => ne_of_ge (x := w.heap.size + 2) (by first | omega | (simp <;> omega)) (by omega) e)
                have hS6 := Nat.le_trans hS3 hfwv.size
                have hSS2 := And.intro hS4 (And.intro hS5 hS6)
                have hB5 := hBwz.frm hfwv (fun e => by have e2 := (show _ = _ from e); first | omega | (simp at e2; omega))
                have hF1 : Frm noB W2 wz := by
                  refine Frm.new ?_ hfwz (fun i hi e => ?_)
                  · (repeat (first | (with_reducible exact Frm.refl _ _) | assumption | (with_reducible refine Frm.alloc ?_ _) | (with_reducible refine Frm.drew ?_) | (with_reducible refine Frm.trans ?_ (by assumption))))
                  · have e2 := (show _ = _ from e)
                    first | omega | (simp at e2; omega)
                have hF2 : Frm noB W2 wv := by
                  refine Frm.new hF1 hfwv (fun i hi e => ?_)
                  have e2 := (show _ = _ from e)
                  first | omega | (simp at e2; omega)
                refine hK.out _ _ ?_ (fun hHeld => ?_)
                · first | exact ⟨q1, q2, Nat.le_refl _⟩ | assumption | (refine ⟨?_, ?_, ?_⟩ <;> (first | omega | (simp <;> omega) | (repeat (first | assumption | ((with_reducible refine blk_new _ _ _ ?_); (first | (with_reducible rfl) | (simp; done))) | (with_reducible refine Blk.drew ?_) | (with_reducible refine Blk.alloc ?_ _) | (with_reducible refine Blk.frm ?_ (by assumption) (fun h => h))))))
                clear hK K
                (try dsimp only [Act.put]); try simp only [Act.put, List.setIfInBounds_toArray, List.set_cons_zero, List.set_cons_succ]
                refine wpAnyH_done (by kernel_rfl) ?_ _
                refine NoPanic.normal ?_
                go_wp2_with fail
                go_meet
                exact ⟨_, _, rfl, rfl, hB5, hBwv, Hfw.out.trans hF2⟩
              exact AllReadyH.nil
            exact AllReadyH.nil
          exact AllReadyH.nil
        refine AllReadyH.cons rfl (fun K hK => ?_) ?_
        · go_simp
          refine hK.out _ _ ?_ (fun hHeld => ?_)
          · first | exact ⟨q1, q2, Nat.le_refl _⟩ | assumption | (refine ⟨?_, ?_, ?_⟩ <;> (first | omega | (simp <;> omega) | (repeat (first | assumption | ((with_reducible refine blk_new _ _ _ ?_); (first | (with_reducible rfl) | (simp; done))) | (with_reducible refine Blk.drew ?_) | (with_reducible refine Blk.alloc ?_ _) | (with_reducible refine Blk.frm ?_ (by assumption) (fun h => h))))))
          clear hK K
          (try dsimp only [Act.put]); try simp only [Act.put, List.setIfInBounds_toArray, List.set_cons_zero, List.set_cons_succ]
          refine wpAnyH_ready (rs := [3]) (by kernel_rfl) (by simp) ?_
          refine AllReadyH.cons rfl (fun K hK => ?_) ?_
          · go_simp
            refine (Hra2.out _).mono ?_
            rintro e y2 ⟨rfl, hg2⟩
            have s2 := hg2.size
            try simp at s2
            go_wp2_with fail
            refine hK.out _ _ ?_ (fun hHeld => ?_)
            · first | exact ⟨q1, q2, Nat.le_refl _⟩ | assumption | (refine ⟨?_, ?_, ?_⟩ <;> (first | omega | (simp <;> omega) | (repeat (first | assumption | ((with_reducible refine blk_new _ _ _ ?_); (first | (with_reducible rfl) | (simp; done))) | (with_reducible refine Blk.drew ?_) | (with_reducible refine Blk.alloc ?_ _) | (with_reducible refine Blk.frm ?_ (by assumption) (fun h => h))))))
            clear hK K
            (try dsimp only [Act.put]); try simp only [Act.put, List.setIfInBounds_toArray, List.set_cons_zero, List.set_cons_succ]
            refine wpAnyH_ready (rs := [6]) (by kernel_rfl) (by simp) ?_
            refine AllReadyH.cons rfl (fun K hK => ?_) ?_
            · rw [if_pos (by rfl)]
              refine wp_store_blk 50 _ _ (by rfl) _ (by rfl) #[.int .i64 0, .int .i64 0, .int .i64 0] 50 ?_ _ (by rfl) (by exact info_3int) (by rfl) (by kernel_rfl) (fun wz hBwz hfwz => ?_)
              · (repeat (first | assumption | ((with_reducible refine blk_new _ _ _ ?_); (first | (with_reducible rfl) | (simp; done))) | (with_reducible refine Blk.drew ?_) | (with_reducible refine Blk.alloc ?_ _) | (with_reducible refine Blk.frm ?_ (by assumption) (fun h => h))))
              obtain ⟨t1, t2, t3⟩ := hHeld
              have hS1 := t1.frm hfwz (fun e => ne_of_ge (x := w.heap.size + 2) (by first | omega | (simp <;> omega)) (by omega) e)
              have hS2 := t2.frm hfwz (fun e => ne_of_ge (x := w.heap.size + 2) (by first | omega | (simp <;> omega)) (by omega) e)
              have hS3 := Nat.le_trans t3 hfwz.size
              have hSS := And.intro hS1 (And.intro hS2 hS3)
              refine hK.out _ _ ?_ (fun hHeld => ?_)
              · first | exact ⟨q1, q2, Nat.le_refl _⟩ | assumption | (refine ⟨?_, ?_, ?_⟩ <;> (first | omega | (simp <;> omega) | (repeat (first | assumption | ((with_reducible refine blk_new _ _ _ ?_); (first | (with_reducible rfl) | (simp; done))) | (with_reducible refine Blk.drew ?_) | (with_reducible refine Blk.alloc ?_ _) | (with_reducible refine Blk.frm ?_ (by assumption) (fun h => h))))))
              clear hK K
              (try dsimp only [Act.put]); try simp only [Act.put, List.setIfInBounds_toArray, List.set_cons_zero, List.set_cons_succ]
              refine wpAnyH_ready (rs := [7]) (by kernel_rfl) (by simp) ?_
              refine AllReadyH.cons rfl (fun K hK => ?_) ?_
              · rw [if_pos (by rfl)]
                refine wp_store_blk 50 _ _ (by rfl) _ (by rfl) #[.int .i64 0, .int .i64 0, .int .i64 0] 50 ?_ _ (by rfl) (by exact info_3int) (by rfl) (by kernel_rfl) (fun wv hBwv hfwv => ?_)
                · refine Blk.frm ?_ hfwz (fun e => ?_)
                  · (repeat (first | assumption | ((with_reducible refine blk_new _ _ _ ?_); (first | (with_reducible rfl) | (simp; done))) | (with_reducible refine Blk.drew ?_) | (with_reducible refine Blk.alloc ?_ _) | (with_reducible refine Blk.frm ?_ (by assumption) (fun h => h))))
                  · have e2 := (show _ = _ from e)
                    first | omega | (simp at e2; omega)
                have hS4 := hS1.frm hfwv (fun e => ne_of_ge (x := w.heap.size + 2) (by first | omega | (simp <;> omega)) (by omega) e)
                have hS5 := hS2.frm hfwv (fun e => ne_of_ge (x := w.heap.size + 2) (by first | omega | (simp <;> omega)) (by omega) e)
                have hS6 := Nat.le_trans hS3 hfwv.size
                have hSS2 := And.intro hS4 (And.intro hS5 hS6)
                have hB5 := hBwz.frm hfwv (fun e => by have e2 := (show _ = _ from e); first | omega | (simp at e2; omega))
                have hF1 : Frm noB W2 wz := by
                  refine Frm.new ?_ hfwz (fun i hi e => ?_)
                  · (repeat (first | (with_reducible exact Frm.refl _ _) | assumption | (with_reducible refine Frm.alloc ?_ _) | (with_reducible refine Frm.drew ?_) | (with_reducible refine Frm.trans ?_ (by assumption))))
                  · have e2 := (show _ = _ from e)
                    first | omega | (simp at e2; omega)
                have hF2 : Frm noB W2 wv := by
                  refine Frm.new hF1 hfwv (fun i hi e => ?_)
                  have e2 := (show _ = _ from e)
                  first | omega | (simp at e2; omega)
                refine hK.out _ _ ?_ (fun hHeld => ?_)
                · first | exact ⟨q1, q2, Nat.le_refl _⟩ | assumption | (refine ⟨?_, ?_, ?_⟩ <;> (first | omega | (simp <;> omega) | (repeat (first | assumption | ((with_reducible refine blk_new _ _ _ ?_); (first | (with_reducible rfl) | (simp; done))) | (with_reducible refine Blk.drew ?_) | (with_reducible refine Blk.alloc ?_ _) | (with_reducible refine Blk.frm ?_ (by assumption) (fun h => h))))))
                clear hK K
                (try dsimp only [Act.put]); try simp only [Act.put, List.setIfInBounds_toArray, List.set_cons_zero, List.set_cons_succ]
                refine wpAnyH_done (by kernel_rfl) ?_ _
                refine NoPanic.normal ?_
                go_wp2_with fail
                go_meet
                exact ⟨_, _, rfl, rfl, hB5, hBwv, Hfw.out.trans hF2⟩
              exact AllReadyH.nil
            exact AllReadyH.nil
          exact AllReadyH.nil
        exact AllReadyH.nil
      refine AllReadyH.cons rfl (fun K hK => ?_) ?_
      · go_simp
        refine hK.out _ _ ?_ (fun hHeld => ?_)
        · first | exact ⟨q1, q2, Nat.le_refl _⟩ | assumption | (refine ⟨?_, ?_, ?_⟩ <;> (first | omega | (simp <;> omega) | (repeat (first | assumption | ((with_reducible refine blk_new _ _ _ ?_); (first | (with_reducible rfl) | (simp; done))) | (with_reducible refine Blk.drew ?_) | (with_reducible refine Blk.alloc ?_ _) | (with_reducible refine Blk.frm ?_ (by assumption) (fun h => h))))))
        clear hK K
        (try dsimp only [Act.put]); try simp only [Act.put, List.setIfInBounds_toArray, List.set_cons_zero, List.set_cons_succ]
        refine wpAnyH_ready (rs := [3, 4]) (by kernel_rfl) (by simp) ?_
        refine AllReadyH.cons rfl (fun K hK => ?_) ?_
        · go_simp
          refine (Hra2.out _).mono ?_
          rintro e y2 ⟨rfl, hg2⟩
          have s2 := hg2.size
          try simp at s2
          go_wp2_with fail
          refine hK.out _ _ ?_ (fun hHeld => ?_)
          · first | exact ⟨q1, q2, Nat.le_refl _⟩ | assumption | (refine ⟨?_, ?_, ?_⟩ <;> (first | omega | (simp <;> omega) | (repeat (first | assumption | ((with_reducible refine blk_new _ _ _ ?_); (first | (with_reducible rfl) | (simp; done))) | (with_reducible refine Blk.drew ?_) | (with_reducible refine Blk.alloc ?_ _) | (with_reducible refine Blk.frm ?_ (by assumption) (fun h => h))))))
          clear hK K
          (try dsimp only [Act.put]); try simp only [Act.put, List.setIfInBounds_toArray, List.set_cons_zero, List.set_cons_succ]
          refine wpAnyH_ready (rs := [4]) (by kernel_rfl) (by simp) ?_
          refine AllReadyH.cons rfl (fun K hK => ?_) ?_
          · go_simp
            refine hK.out _ _ ?_ (fun hHeld => ?_)
            · first | exact ⟨q1, q2, Nat.le_refl _⟩ | assumption | (refine ⟨?_, ?_, ?_⟩ <;> (first | omega | (simp <;> omega) | (repeat (first | assumption | ((with_reducible refine blk_new _ _ _ ?_); (first | (with_reducible rfl) | (simp; done))) | (with_reducible refine Blk.drew ?_) | (with_reducible refine Blk.alloc ?_ _) | (with_reducible refine Blk.frm ?_ (by assumption) (fun h => h))))))
            clear hK K
            (try dsimp only [Act.put]); try simp only [Act.put, List.setIfInBounds_toArray, List.set_cons_zero, List.set_cons_succ]
            refine wpAnyH_ready (rs := [6]) (by kernel_rfl) (by simp) ?_
            refine AllReadyH.cons rfl (fun K hK => ?_) ?_
            · rw [if_pos (by rfl)]
              refine wp_store_blk 50 _ _ (by rfl) _ (by rfl) #[.int .i64 0, .int .i64 0, .int .i64 0] 50 ?_ _ (by rfl) (by exact info_3int) (by rfl) (by kernel_rfl) (fun wz hBwz hfwz => ?_)
              · (repeat (first | assumption | ((with_reducible refine blk_new _ _ _ ?_); (first | (with_reducible rfl) | (simp; done))) | (with_reducible refine Blk.drew ?_) | (with_reducible refine Blk.alloc ?_ _) | (with_reducible refine Blk.frm ?_ (by assumption) (fun h => h))))
              obtain ⟨t1, t2, t3⟩ := hHeld
              have hS1 := t1.frm hfwz (fun e => ne_of_ge (x := w.heap.size + 2) (by first | omega | (simp <;> omega)) (by omega) e)
              have hS2 := t2.frm hfwz (fun e => ne_of_ge (x := w.heap.size + 2) (by first | omega | (simp <;> omega)) (by omega) e)
              have hS3 := Nat.le_trans t3 hfwz.size
              have hSS := And.intro hS1 (And.intro hS2 hS3)
              refine hK.out _ _ ?_ (fun hHeld => ?_)
              · first | exact ⟨q1, q2, Nat.le_refl _⟩ | assumption | (refine ⟨?_, ?_, ?_⟩ <;> (first | omega | (simp <;> omega) | (repeat (first | assumption | ((with_reducible refine blk_new _ _ _ ?_); (first | (with_reducible rfl) | (simp; done))) | (with_reducible refine Blk.drew ?_) | (with_reducible refine Blk.alloc ?_ _) | (with_reducible refine Blk.frm ?_ (by assumption) (fun h => h))))))
              clear hK K
              (try dsimp only [Act.put]); try simp only [Act.put, List.setIfInBounds_toArray, List.set_cons_zero, List.set_cons_succ]
              refine wpAnyH_ready (rs := [7]) (by kernel_rfl) (by simp) ?_
              refine AllReadyH.cons rfl (fun K hK => ?_) ?_
              · rw [if_pos (by rfl)]
                refine wp_store_blk 50 _ _ (by rfl) _ (by rfl) #[.int .i64 0, .int .i64 0, .int .i64 0] 50 ?_ _ (by rfl) (by exact info_3int) (by rfl) (by kernel_rfl) (fun wv hBwv hfwv => ?_)
                · refine Blk.frm ?_ hfwz (fun e => ?_)
                  · (repeat (first | assumption | ((with_reducible refine blk_new _ _ _ ?_); (first | (with_reducible rfl) | (simp; done))) | (with_reducible refine Blk.drew ?_) | (with_reducible refine Blk.alloc ?_ _) | (with_reducible refine Blk.frm ?_ (by assumption) (fun h => h))))
                  · have e2 := (show _ = _ from e)
                    first | omega | (simp at e2; omega)
                have hS4 := hS1.frm hfwv (fun e => ne_of_ge (x := w.heap.size + 2) (by first | omega | (simp <;> omega)) (by omega) e)
                have hS5 := hS2.frm hfwv (fun e => ne_of_ge (x := w.heap.size + 2) (by first | omega | (simp <;> omega)) (by omega) e)
                have hS6 := Nat.le_trans hS3 hfwv.size
                have hSS2 := And.intro hS4 (And.intro hS5 hS6)
                have hB5 := hBwz.frm hfwv (fun e => by have e2 := (show _ = _ from e); first | omega | (simp at e2; omega))
                have hF1 : Frm noB W2 wz := by
                  refine Frm.new ?_ hfwz (fun i hi e => ?_)
                  · (repeat (first | (with_reducible exact Frm.refl _ _) | assumption | (with_reducible refine Frm.alloc ?_ _) | (with_reducible refine Frm.drew ?_) | (with_reducible refine Frm.trans ?_ (by assumption))))
                  · have e2 := (show _ = _ from e)
                    first | omega | (simp at e2; omega)
                have hF2 : Frm noB W2 wv := by
                  refine Frm.new hF1 hfwv (fun i hi e => ?_)
                  have e2 := (show _ = _ from e)
                  first | omega | (simp at e2; omega)
                refine hK.out _ _ ?_ (fun hHeld => ?_)
                · first | exact ⟨q1, q2, Nat.le_refl _⟩ | assumption | (refine ⟨?_, ?_, ?_⟩ <;> (first | omega | (simp <;> omega) | (repeat (first | assumption | ((with_reducible refine blk_new _ _ _ ?_); (first | (with_reducible rfl) | (simp; done))) | (with_reducible refine Blk.drew ?_) | (with_reducible refine Blk.alloc ?_ _) | (with_reducible refine Blk.frm ?_ (by assumption) (fun h => h))))))
                clear hK K
                (try dsimp only [Act.put]); try simp only [Act.put, List.setIfInBounds_toArray, List.set_cons_zero, List.set_cons_succ]
                refine wpAnyH_done (by kernel_rfl) ?_ _
                refine NoPanic.normal ?_
                go_wp2_with fail
                go_meet
                exact ⟨_, _, rfl, rfl, hB5, hBwv, Hfw.out.trans hF2⟩
              exact AllReadyH.nil
            exact AllReadyH.nil
          exact AllReadyH.nil
        refine AllReadyH.cons rfl (fun K hK => ?_) ?_
        · go_simp
          refine hK.out _ _ ?_ (fun hHeld => ?_)
          · first | exact ⟨q1, q2, Nat.le_refl _⟩ | assumption | (refine ⟨?_, ?_, ?_⟩ <;> (first | omega | (simp <;> omega) | (repeat (first | assumption | ((with_reducible refine blk_new _ _ _ ?_); (first | (with_reducible rfl) | (simp; done))) | (with_reducible refine Blk.drew ?_) | (with_reducible refine Blk.alloc ?_ _) | (with_reducible refine Blk.frm ?_ (by assumption) (fun h => h))))))
          clear hK K
          (try dsimp only [Act.put]); try simp only [Act.put, List.setIfInBounds_toArray, List.set_cons_zero, List.set_cons_succ]
          refine wpAnyH_ready (rs := [3]) (by kernel_rfl) (by simp) ?_
          refine AllReadyH.cons rfl (fun K hK => ?_) ?_
          · go_simp
            refine (Hra2.out _).mono ?_
            rintro e y2 ⟨rfl, hg2⟩
            have s2 := hg2.size
            try simp at s2
            go_wp2_with fail
            refine hK.out _ _ ?_ (fun hHeld => ?_)
            · first | exact ⟨q1, q2, Nat.le_refl _⟩ | assumption | (refine ⟨?_, ?_, ?_⟩ <;> (first | omega | (simp <;> omega) | (repeat (first | assumption | ((with_reducible refine blk_new _ _ _ ?_); (first | (with_reducible rfl) | (simp; done))) | (with_reducible refine Blk.drew ?_) | (with_reducible refine Blk.alloc ?_ _) | (with_reducible refine Blk.frm ?_ (by assumption) (fun h => h))))))
            clear hK K
            (try dsimp only [Act.put]); try simp only [Act.put, List.setIfInBounds_toArray, List.set_cons_zero, List.set_cons_succ]
            refine wpAnyH_ready (rs := [6]) (by kernel_rfl) (by simp) ?_
            refine AllReadyH.cons rfl (fun K hK => ?_) ?_
            · rw [if_pos (by rfl)]
              refine wp_store_blk 50 _ _ (by rfl) _ (by rfl) #[.int .i64 0, .int .i64 0, .int .i64 0] 50 ?_ _ (by rfl) (by exact info_3int) (by rfl) (by kernel_rfl) (fun wz hBwz hfwz => ?_)
              · (repeat (first | assumption | ((with_reducible refine blk_new _ _ _ ?_); (first | (with_reducible rfl) | (simp; done))) | (with_reducible refine Blk.drew ?_) | (with_reducible refine Blk.alloc ?_ _) | (with_reducible refine Blk.frm ?_ (by assumption) (fun h => h))))
              obtain ⟨t1, t2, t3⟩ := hHeld
              have hS1 := t1.frm hfwz (fun e => ne_of_ge (x := w.heap.size + 2) (by first | omega | (simp <;> omega)) (by omega) e)
              have hS2 := t2.frm hfwz (fun e => ne_of_ge (x := w.heap.size + 2) (by first | omega | (simp <;> omega)) (by omega) e)
              have hS3 := Nat.le_trans t3 hfwz.size
              have hSS := And.intro hS1 (And.intro hS2 hS3)
              refine hK.out _ _ ?_ (fun hHeld => ?_)
              · first | exact ⟨q1, q2, Nat.le_refl _⟩ | assumption | (refine ⟨?_, ?_, ?_⟩ <;> (first | omega | (simp <;> omega) | (repeat (first | assumption | ((with_reducible refine blk_new _ _ _ ?_); (first | (with_reducible rfl) | (simp; done))) | (with_reducible refine Blk.drew ?_) | (with_reducible refine Blk.alloc ?_ _) | (with_reducible refine Blk.frm ?_ (by assumption) (fun h => h))))))
              clear hK K
              (try dsimp only [Act.put]); try simp only [Act.put, List.setIfInBounds_toArray, List.set_cons_zero, List.set_cons_succ]
              refine wpAnyH_ready (rs := [7]) (by kernel_rfl) (by simp) ?_
              refine AllReadyH.cons rfl (fun K hK => ?_) ?_
              · rw [if_pos (by rfl)]
                refine wp_store_blk 50 _ _ (by rfl) _ (by rfl) #[.int .i64 0, .int .i64 0, .int .i64 0] 50 ?_ _ (by rfl) (by exact info_3int) (by rfl) (by kernel_rfl) (fun wv hBwv hfwv => ?_)
                · refine Blk.frm ?_ hfwz (fun e => ?_)
                  · (repeat (first | assumption | ((with_reducible refine blk_new _ _ _ ?_); (first | (with_reducible rfl) | (simp; done))) | (with_reducible refine Blk.drew ?_) | (with_reducible refine Blk.alloc ?_ _) | (with_reducible refine Blk.frm ?_ (by assumption) (fun h => h))))
                  · have e2 := (show _ = _ from e)
                    first | omega | (simp at e2; omega)
                have hS4 := hS1.frm hfwv (fun e => ne_of_ge (x := w.heap.size + 2) (by first | omega | (simp <;> omega)) (by omega) e)
                have hS5 := hS2.frm hfwv (fun e => ne_of_ge (x := w.heap.size + 2) (by first | omega | (simp <;> omega)) (by omega) e)
                have hS6 := Nat.le_trans hS3 hfwv.size
                have hSS2 := And.intro hS4 (And.intro hS5 hS6)
                have hB5 := hBwz.frm hfwv (fun e => by have e2 := (show _ = _ from e); first | omega | (simp at e2; omega))
                have hF1 : Frm noB W2 wz := by
                  refine Frm.new ?_ hfwz (fun i hi e => ?_)
                  · (repeat (first | (with_reducible exact Frm.refl _ _) | assumption | (with_reducible refine Frm.alloc ?_ _) | (with_reducible refine Frm.drew ?_) | (with_reducible refine Frm.trans ?_ (by assumption))))
                  · have e2 := (show _ = _ from e)
                    first | omega | (simp at e2; omega)
                have hF2 : Frm noB W2 wv := by
                  refine Frm.new hF1 hfwv (fun i hi e => ?_)
                  have e2 := (show _ = _ from e)
                  first | omega | (simp at e2; omega)
                refine hK.out _ _ ?_ (fun hHeld => ?_)
                · first | exact ⟨q1, q2, Nat.le_refl _⟩ | assumption | (refine ⟨?_, ?_, ?_⟩ <;> (first | omega | (simp <;> omega) | (repeat (first | assumption | ((with_reducible refine blk_new _ _ _ ?_); (first | (with_reducible rfl) | (simp; done))) | (with_reducible refine Blk.drew ?_) | (with_reducible refine Blk.alloc ?_ _) | (with_reducible refine Blk.frm ?_ (by assumption) (fun h => h))))))
                clear hK K
                (try dsimp only [Act.put]); try simp only [Act.put, List.setIfInBounds_toArray, List.set_cons_zero, List.set_cons_succ]
                refine wpAnyH_done (by kernel_rfl) ?_ _
                refine NoPanic.normal ?_
                go_wp2_with fail
                go_meet
                exact ⟨_, _, rfl, rfl, hB5, hBwv, Hfw.out.trans hF2⟩
              exact AllReadyH.nil
            exact AllReadyH.nil
          exact AllReadyH.nil
        exact AllReadyH.nil
      exact AllReadyH.nil
    refine AllReadyH.cons rfl (fun K hK => ?_) ?_
    · go_simp
      refine hK.out _ _ ?_ (fun hHeld => ?_)
      · first | exact ⟨q1, q2, Nat.le_refl _⟩ | assumption | (refine ⟨?_, ?_, ?_⟩ <;> (first | omega | (simp <;> omega) | (repeat (first | assumption | ((with_reducible refine blk_new _ _ _ ?_); (first | (with_reducible rfl) | (simp; done))) | (with_reducible refine Blk.drew ?_) | (with_reducible refine Blk.alloc ?_ _) | (with_reducible refine Blk.frm ?_ (by assumption) (fun h => h))))))
      clear hK K
      (try dsimp only [Act.put]); try simp only [Act.put, List.setIfInBounds_toArray, List.set_cons_zero, List.set_cons_succ]
      refine wpAnyH_ready (rs := [1, 5]) (by kernel_rfl) (by simp) ?_
      refine AllReadyH.cons rfl (fun K hK => ?_) ?_
      · go_simp
        refine (Hra1.out _).mono ?_
        rintro e y1 ⟨rfl, hg1⟩
        have s1 := hg1.size
        try simp at s1
        go_wp2_with fail
        refine hK.out _ _ ?_ (fun hHeld => ?_)
        · first | exact ⟨q1, q2, Nat.le_refl _⟩ | assumption | (refine ⟨?_, ?_, ?_⟩ <;> (first | omega | (simp <;> omega) | (repeat (first | assumption | ((with_reducible refine blk_new _ _ _ ?_); (first | (with_reducible rfl) | (simp; done))) | (with_reducible refine Blk.drew ?_) | (with_reducible refine Blk.alloc ?_ _) | (with_reducible refine Blk.frm ?_ (by assumption) (fun h => h))))))
        clear hK K
        (try dsimp only [Act.put]); try simp only [Act.put, List.setIfInBounds_toArray, List.set_cons_zero, List.set_cons_succ]
        refine wpAnyH_ready (rs := [3, 5]) (by kernel_rfl) (by simp) ?_
        refine AllReadyH.cons rfl (fun K hK => ?_) ?_
        · go_simp
          refine (Hra2.out _).mono ?_
          rintro e y2 ⟨rfl, hg2⟩
          have s2 := hg2.size
          try simp at s2
          go_wp2_with fail
          refine hK.out _ _ ?_ (fun hHeld => ?_)
          · first | exact ⟨q1, q2, Nat.le_refl _⟩ | assumption | (refine ⟨?_, ?_, ?_⟩ <;> (first | omega | (simp <;> omega) | (repeat (first | assumption | ((with_reducible refine blk_new _ _ _ ?_); (first | (with_reducible rfl) | (simp; done))) | (with_reducible refine Blk.drew ?_) | (with_reducible refine Blk.alloc ?_ _) | (with_reducible refine Blk.frm ?_ (by assumption) (fun h => h))))))
          clear hK K
          (try dsimp only [Act.put]); try simp only [Act.put, List.setIfInBounds_toArray, List.set_cons_zero, List.set_cons_succ]
          refine wpAnyH_ready (rs := [5]) (by kernel_rfl) (by simp) ?_
          refine AllReadyH.cons rfl (fun K hK => ?_) ?_
          · go_simp
            refine hK.out _ _ ?_ (fun hHeld => ?_)
            · first | exact ⟨q1, q2, Nat.le_refl _⟩ | assumption | (refine ⟨?_, ?_, ?_⟩ <;> (first | omega | (simp <;> omega) | (repeat (first | assumption | ((with_reducible refine blk_new _ _ _ ?_); (first | (with_reducible rfl) | (simp; done))) | (with_reducible refine Blk.drew ?_) | (with_reducible refine Blk.alloc ?_ _) | (with_reducible refine Blk.frm ?_ (by assumption) (fun h => h))))))
            clear hK K
            (try dsimp only [Act.put]); try simp only [Act.put, List.setIfInBounds_toArray, List.set_cons_zero, List.set_cons_succ]
            refine wpAnyH_ready (rs := [6]) (by kernel_rfl) (by simp) ?_
            refine AllReadyH.cons rfl (fun K hK => ?_) ?_
            · rw [if_pos (by rfl)]
              refine wp_store_blk 50 _ _ (by rfl) _ (by rfl) #[.int .i64 0, .int .i64 0, .int .i64 0] 50 ?_ _ (by rfl) (by exact info_3int) (by rfl) (by kernel_rfl) (fun wz hBwz hfwz => ?_)
              · (repeat (first | assumption | ((with_reducible refine blk_new _ _ _ ?_); (first | (with_reducible rfl) | (simp; done))) | (with_reducible refine Blk.drew ?_) | (with_reducible refine Blk.alloc ?_ _) | (with_reducible refine Blk.frm ?_ (by assumption) (fun h => h))))
              obtain ⟨t1, t2, t3⟩ := hHeld
              have hS1 := t1.frm hfwz (fun e => ne_of_ge (x := w.heap.size + 2) (by first | omega | (simp <;> omega)) (by omega) e)
              have hS2 := t2.frm hfwz (fun e => ne_of_ge (x := w.heap.size + 2) (by first | omega | (simp <;> omega)) (by omega) e)
              have hS3 := Nat.le_trans t3 hfwz.size
              have hSS := And.intro hS1 (And.intro hS2 hS3)
              refine hK.out _ _ ?_ (fun hHeld => ?_)
              · first | exact ⟨q1, q2, Nat.le_refl _⟩ | assumption | (refine ⟨?_, ?_, ?_⟩ <;> (first | omega | (simp <;> omega) | (repeat (first | assumption | ((with_reducible refine blk_new _ _ _ ?_); (first | (with_reducible rfl) | (simp; done))) | (with_reducible refine Blk.drew ?_) | (with_reducible refine Blk.alloc ?_ _) | (with_reducible refine Blk.frm ?_ (by assumption) (fun h => h))))))
              clear hK K
              (try dsimp only [Act.put]); try simp only [Act.put, List.setIfInBounds_toArray, List.set_cons_zero, List.set_cons_succ]
              refine wpAnyH_ready (rs := [7]) (by kernel_rfl) (by simp) ?_
              refine AllReadyH.cons rfl (fun K hK => ?_) ?_
              · rw [if_pos (by rfl)]
                refine wp_store_blk 50 _ _ (by rfl) _ (by rfl) #[.int .i64 0, .int .i64 0, .int .i64 0] 50 ?_ _ (by rfl) (by exact info_3int) (by rfl) (by kernel_rfl) (fun wv hBwv hfwv => ?_)
                · refine Blk.frm ?_ hfwz (fun e => ?_)
                  · (repeat (first | assumption | ((with_reducible refine blk_new _ _ _ ?_); (first | (with_reducible rfl) | (simp; done))) | (with_reducible refine Blk.drew ?_) | (with_reducible refine Blk.alloc ?_ _) | (with_reducible refine Blk.frm ?_ (by assumption) (fun h => h))))
                  · have e2 := (show _ = _ from e)
                    first | omega | (simp at e2; omega)
                have hS4 := hS1.frm hfwv (fun e => ne_of_ge (x := w.heap.size + 2) (by first | omega | (simp <;> omega)) (by omega) e)
                have hS5 := hS2.frm hfwv (fun e => ne_of_ge (x := w.heap.size + 2) (by first | omega | (simp <;> omega)) (by omega) e)
                have hS6 := Nat.le_trans hS3 hfwv.size
                have hSS2 := And.intro hS4 (And.intro hS5 hS6)
                have hB5 := hBwz.frm hfwv (fun e => by have e2 := (show _ = _ from e); first | omega | (simp at e2; omega))
                have hF1 : Frm noB W2 wz := by
                  refine Frm.new ?_ hfwz (fun i hi e => ?_)
                  · (repeat (first | (with_reducible exact Frm.refl _ _) | assumption | (with_reducible refine Frm.alloc ?_ _) | (with_reducible refine Frm.drew ?_) | (with_reducible refine Frm.trans ?_ (by assumption))))
                  · have e2 := (show _ = _ from e)
                    first | omega | (simp at e2; omega)
                have hF2 : Frm noB W2 wv := by
                  refine Frm.new hF1 hfwv (fun i hi e => ?_)
                  have e2 := (show _ = _ from e)
                  first | omega | (simp at e2; omega)
                refine hK.out _ _ ?_ (fun hHeld => ?_)
                · first | exact ⟨q1, q2, Nat.le_refl _⟩ | assumption | (refine ⟨?_, ?_, ?_⟩ <;> (first | omega | (simp <;> omega) | (repeat (first | assumption | ((with_reducible refine blk_new _ _ _ ?_); (first | (with_reducible rfl) | (simp; done))) | (with_reducible refine Blk.drew ?_) | (with_reducible refine Blk.alloc ?_ _) | (with_reducible refine Blk.frm ?_ (by assumption) (fun h => h))))))
                clear hK K
                (try dsimp only [Act.put]); try simp only [Act.put, List.setIfInBounds_toArray, List.set_cons_zero, List.set_cons_succ]
                refine wpAnyH_done (by kernel_rfl) ?_ _
                refine NoPanic.normal ?_
                go_wp2_with fail
                go_meet
                exact ⟨_, _, rfl, rfl, hB5, hBwv, Hfw.out.trans hF2⟩
              exact AllReadyH.nil
            exact AllReadyH.nil
          exact AllReadyH.nil
        refine AllReadyH.cons rfl (fun K hK => ?_) ?_
        · go_simp
          refine hK.out _ _ ?_ (fun hHeld => ?_)
          · first | exact ⟨q1, q2, Nat.le_refl _⟩ | assumption | (refine ⟨?_, ?_, ?_⟩ <;> (first | omega | (simp <;> omega) | (repeat (first | assumption | ((with_reducible refine blk_new _ _ _ ?_); (first | (with_reducible rfl) | (simp; done))) | (with_reducible refine Blk.drew ?_) | (with_reducible refine Blk.alloc ?_ _) | (with_reducible refine Blk.frm ?_ (by assumption) (fun h => h))))))
          clear hK K
          (try dsimp only [Act.put]); try simp only [Act.put, List.setIfInBounds_toArray, List.set_cons_zero, List.set_cons_succ]
          refine wpAnyH_ready (rs := [3]) (by kernel_rfl) (by simp) ?_
          refine AllReadyH.cons rfl (fun K hK => ?_) ?_
          · go_simp
            refine (Hra2.out _).mono ?_
            rintro e y2 ⟨rfl, hg2⟩
            have s2 := hg2.size
            try simp at s2
            go_wp2_with fail
            refine hK.out _ _ ?_ (fun hHeld => ?_)
            · first | exact ⟨q1, q2, Nat.le_refl _⟩ | assumption | (refine ⟨?_, ?_, ?_⟩ <;> (first | omega | (simp <;> omega) | (repeat (first | assumption | ((with_reducible refine blk_new _ _ _ ?_); (first | (with_reducible rfl) | (simp; done))) | (with_reducible refine Blk.drew ?_) | (with_reducible refine Blk.alloc ?_ _) | (with_reducible refine Blk.frm ?_ (by assumption) (fun h => h))))))
            clear hK K
            (try dsimp only [Act.put]); try simp only [Act.put, List.setIfInBounds_toArray, List.set_cons_zero, List.set_cons_succ]
            refine wpAnyH_ready (rs := [6]) (by kernel_rfl) (by simp) ?_
            refine AllReadyH.cons rfl (fun K hK => ?_) ?_
            · rw [if_pos (by rfl)]
              refine wp_store_blk 50 _ _ (by rfl) _ (by rfl) #[.int .i64 0, .int .i64 0, .int .i64 0] 50 ?_ _ (by rfl) (by exact info_3int) (by rfl) (by kernel_rfl) (fun wz hBwz hfwz => ?_)
              · (repeat (first | assumption | ((with_reducible refine blk_new _ _ _ ?_); (first | (with_reducible rfl) | (simp; done))) | (with_reducible refine Blk.drew ?_) | (with_reducible refine Blk.alloc ?_ _) | (with_reducible refine Blk.frm ?_ (by assumption) (fun h => h))))
              obtain ⟨t1, t2, t3⟩ := hHeld
              have hS1 := t1.frm hfwz (fun e => ne_of_ge (x := w.heap.size + 2) (by first | omega | (simp <;> omega)) (by omega) e)
              have hS2 := t2.frm hfwz (fun e => ne_of_ge (x := w.heap.size + 2) (by first | omega | (simp <;> omega)) (by omega) e)
              have hS3 := Nat.le_trans t3 hfwz.size
              have hSS := And.intro hS1 (And.intro hS2 hS3)
              refine hK.out _ _ ?_ (fun hHeld => ?_)
              · first | exact ⟨q1, q2, Nat.le_refl _⟩ | assumption | (refine ⟨?_, ?_, ?_⟩ <;> (first | omega | (simp <;> omega) | (repeat (first | assumption | ((with_reducible refine blk_new _ _ _ ?_); (first | (with_reducible rfl) | (simp; done))) | (with_reducible refine Blk.drew ?_) | (with_reducible refine Blk.alloc ?_ _) | (with_reducible refine Blk.frm ?_ (by assumption) (fun h => h))))))
              clear hK K
              (try dsimp only [Act.put]); try simp only [Act.put, List.setIfInBounds_toArray, List.set_cons_zero, List.set_cons_succ]
              refine wpAnyH_ready (rs := [7]) (by kernel_rfl) (by simp) ?_
              refine AllReadyH.cons rfl (fun K hK => ?_) ?_
              · rw [if_pos (by rfl)]
                refine wp_store_blk 50 _ _ (by rfl) _ (by rfl) #[.int .i64 0, .int .i64 0, .int .i64 0] 50 ?_ _ (by rfl) (by exact info_3int) (by rfl) (by kernel_rfl) (fun wv hBwv hfwv => ?_)
                · refine Blk.frm ?_ hfwz (fun e => ?_)
                  · (repeat (first | assumption | ((with_reducible refine blk_new _ _ _ ?_); (first | (with_reducible rfl) | (simp; done))) | (with_reducible refine Blk.drew ?_) | (with_reducible refine Blk.alloc ?_ _) | (with_reducible refine Blk.frm ?_ (by assumption) (fun h => h))))
                  · have e2 := (show _ = _ from e)
                    first | omega | (simp at e2; omega)
                have hS4 := hS1.frm hfwv (fun e => ne_of_ge (x := w.heap.size + 2) (by first | omega | (simp <;> omega)) (by omega) e)
                have hS5 := hS2.frm hfwv (fun e => ne_of_ge (x := w.heap.size + 2) (by first | omega | (simp <;> omega)) (by omega) e)
                have hS6 := Nat.le_trans hS3 hfwv.size
                have hSS2 := And.intro hS4 (And.intro hS5 hS6)
                have hB5 := hBwz.frm hfwv (fun e => by have e2 := (show _ = _ from e); first | omega | (simp at e2; omega))
                have hF1 : Frm noB W2 wz := by
                  refine Frm.new ?_ hfwz (fun i hi e => ?_)
                  · (repeat (first | (with_reducible exact Frm.refl _ _) | assumption | (with_reducible refine Frm.alloc ?_ _) | (with_reducible refine Frm.drew ?_) | (with_reducible refine Frm.trans ?_ (by assumption))))
                  · have e2 := (show _ = _ from e)
                    first | omega | (simp at e2; omega)
                have hF2 : Frm noB W2 wv := by
                  refine Frm.new hF1 hfwv (fun i hi e => ?_)
                  have e2 := (show _ = _ from e)
                  first | omega | (simp at e2; omega)
                refine hK.out _ _ ?_ (fun hHeld => ?_)
                · first | exact ⟨q1, q2, Nat.le_refl _⟩ | assumption | (refine ⟨?_, ?_, ?_⟩ <;> (first | omega | (simp <;> omega) | (repeat (first | assumption | ((with_reducible refine blk_new _ _ _ ?_); (first | (with_reducible rfl) | (simp; done))) | (with_reducible refine Blk.drew ?_) | (with_reducible refine Blk.alloc ?_ _) | (with_reducible refine Blk.frm ?_ (by assumption) (fun h => h))))))
                clear hK K
                (try dsimp only [Act.put]); try simp only [Act.put, List.setIfInBounds_toArray, List.set_cons_zero, List.set_cons_succ]
                refine wpAnyH_done (by kernel_rfl) ?_ _
                refine NoPanic.normal ?_
                go_wp2_with fail
                go_meet
                exact ⟨_, _, rfl, rfl, hB5, hBwv, Hfw.out.trans hF2⟩
              exact AllReadyH.nil
            exact AllReadyH.nil
          exact AllReadyH.nil
        exact AllReadyH.nil
      refine AllReadyH.cons rfl (fun K hK => ?_) ?_
      · go_simp
        refine hK.out _ _ ?_ (fun hHeld => ?_)
        · first | exact ⟨q1, q2, Nat.le_refl _⟩ | assumption | (refine ⟨?_, ?_, ?_⟩ <;> (first | omega | (simp <;> omega) | (repeat (first | assumption | ((with_reducible refine blk_new _ _ _ ?_); (first | (with_reducible rfl) | (simp; done))) | (with_reducible refine Blk.drew ?_) | (with_reducible refine Blk.alloc ?_ _) | (with_reducible refine Blk.frm ?_ (by assumption) (fun h => h))))))
        clear hK K
        (try dsimp only [Act.put]); try simp only [Act.put, List.setIfInBounds_toArray, List.set_cons_zero, List.set_cons_succ]
        refine wpAnyH_ready (rs := [1]) (by kernel_rfl) (by simp) ?_
        refine AllReadyH.cons rfl (fun K hK => ?_) ?_
        · go_simp
          refine (Hra1.out _).mono ?_
          rintro e y1 ⟨rfl, hg1⟩
          have s1 := hg1.size
          try simp at s1
          go_wp2_with fail
          refine hK.out _ _ ?_ (fun hHeld => ?_)
          · first | exact ⟨q1, q2, Nat.le_refl _⟩ | assumption | (refine ⟨?_, ?_, ?_⟩ <;> (first | omega | (simp <;> omega) | (repeat (first | assumption | ((with_reducible refine blk_new _ _ _ ?_); (first | (with_reducible rfl) | (simp; done))) | (with_reducible refine Blk.drew ?_) | (with_reducible refine Blk.alloc ?_ _) | (with_reducible refine Blk.frm ?_ (by assumption) (fun h => h))))))
          clear hK K
          (try dsimp only [Act.put]); try simp only [Act.put, List.setIfInBounds_toArray, List.set_cons_zero, List.set_cons_succ]
          refine wpAnyH_ready (rs := [3]) (by kernel_rfl) (by simp) ?_
          refine AllReadyH.cons rfl (fun K hK => ?_) ?_
          · go_simp
            refine (Hra2.out _).mono ?_
            rintro e y2 ⟨rfl, hg2⟩
            have s2 := hg2.size
            try simp at s2
            go_wp2_with fail
            refine hK.out _ _ ?_ (fun hHeld => ?_)
            · first | exact ⟨q1, q2, Nat.le_refl _⟩ | assumption | (refine ⟨?_, ?_, ?_⟩ <;> (first | omega | (simp <;> omega) | (repeat (first | assumption | ((with_reducible refine blk_new _ _ _ ?_); (first | (with_reducible rfl) | (simp; done))) | (with_reducible refine Blk.drew ?_) | (with_reducible refine Blk.alloc ?_ _) | (with_reducible refine Blk.frm ?_ (by assumption) (fun h => h))))))
            clear hK K
            (try dsimp only [Act.put]); try simp only [Act.put, List.setIfInBounds_toArray, List.set_cons_zero, List.set_cons_succ]
            refine wpAnyH_ready (rs := [6]) (by kernel_rfl) (by simp) ?_
            refine AllReadyH.cons rfl (fun K hK => ?_) ?_
            · rw [if_pos (by rfl)]
              refine wp_store_blk 50 _ _ (by rfl) _ (by rfl) #[.int .i64 0, .int .i64 0, .int .i64 0] 50 ?_ _ (by rfl) (by exact info_3int) (by rfl) (by kernel_rfl) (fun wz hBwz hfwz => ?_)
              · (repeat (first | assumption | ((with_reducible refine blk_new _ _ _ ?_); (first | (with_reducible rfl) | (simp; done))) | (with_reducible refine Blk.drew ?_) | (with_reducible refine Blk.alloc ?_ _) | (with_reducible refine Blk.frm ?_ (by assumption) (fun h => h))))
              obtain ⟨t1, t2, t3⟩ := hHeld
              have hS1 := t1.frm hfwz (fun e => ne_of_ge (x := w.heap.size + 2) (by first | omega | (simp <;> omega)) (by omega) e)
              have hS2 := t2.frm hfwz (fun e => ne_of_ge (x := w.heap.size + 2) (by first | omega | (simp <;> omega)) (by omega) e)
              have hS3 := Nat.le_trans t3 hfwz.size
              have hSS := And.intro hS1 (And.intro hS2 hS3)
              refine hK.out _ _ ?_ (fun hHeld => ?_)
              · first | exact ⟨q1, q2, Nat.le_refl _⟩ | assumption | (refine ⟨?_, ?_, ?_⟩ <;> (first | omega | (simp <;> omega) | (repeat (first | assumption | ((with_reducible refine blk_new _ _ _ ?_); (first | (with_reducible rfl) | (simp; done))) | (with_reducible refine Blk.drew ?_) | (with_reducible refine Blk.alloc ?_ _) | (with_reducible refine Blk.frm ?_ (by assumption) (fun h => h))))))
              clear hK K
              (try dsimp only [Act.put]); try simp only [Act.put, List.setIfInBounds_toArray, List.set_cons_zero, List.set_cons_succ]
              refine wpAnyH_ready (rs := [7]) (by kernel_rfl) (by simp) ?_
              refine AllReadyH.cons rfl (fun K hK => ?_) ?_
              · rw [if_pos (by rfl)]
                refine wp_store_blk 50 _ _ (by rfl) _ (by rfl) #[.int .i64 0, .int .i64 0, .int .i64 0] 50 ?_ _ (by rfl) (by exact info_3int) (by rfl) (by kernel_rfl) (fun wv hBwv hfwv => ?_)
                · refine Blk.frm ?_ hfwz (fun e => ?_)
                  · (repeat (first | assumption | ((with_reducible refine blk_new _ _ _ ?_); (first | (with_reducible rfl) | (simp; done))) | (with_reducible refine Blk.drew ?_) | (with_reducible refine Blk.alloc ?_ _) | (with_reducible refine Blk.frm ?_ (by assumption) (fun h => h))))
                  · have e2 := (show _ = _ from e)
                    first | omega | (simp at e2; omega)
                have hS4 := hS1.frm hfwv (fun e => ne_of_ge (x := w.heap.size + 2) (by first | omega | (simp <;> omega)) (by omega) e)
                have hS5 := hS2.frm hfwv (fun e => ne_of_ge (x := w.heap.size + 2) (by first | omega | (simp <;> omega)) (by omega) e)
                have hS6 := Nat.le_trans hS3 hfwv.size
                have hSS2 := And.intro hS4 (And.intro hS5 hS6)
                have hB5 := hBwz.frm hfwv (fun e => by have e2 := (show _ = _ from e); first | omega | (simp at e2; omega))
                have hF1 : Frm noB W2 wz := by
                  refine Frm.new ?_ hfwz (fun i hi e => ?_)
                  · (repeat (first | (with_reducible exact Frm.refl _ _) | assumption | (with_reducible refine Frm.alloc ?_ _) | (with_reducible refine Frm.drew ?_) | (with_reducible refine Frm.trans ?_ (by assumption))))
                  · have e2 := (show _ = _ from e)
                    first | omega | (simp at e2; omega)
                have hF2 : Frm noB W2 wv := by
                  refine Frm.new hF1 hfwv (fun i hi e => ?_)
                  have e2 := (show _ = _ from e)
                  first | omega | (simp at e2; omega)
                refine hK.out _ _ ?_ (fun hHeld => ?_)
                · first | exact ⟨q1, q2, Nat.le_refl _⟩ | assumption | (refine ⟨?_, ?_, ?_⟩ <;> (first | omega | (simp <;> omega) | (repeat (first | assumption | ((with_reducible refine blk_new _ _ _ ?_); (first | (with_reducible rfl) | (simp; done))) | (with_reducible refine Blk.drew ?_) | (with_reducible refine Blk.alloc ?_ _) | (with_reducible refine Blk.frm ?_ (by assumption) (fun h => h))))))
                clear hK K
                (try dsimp only [Act.put]); try simp only [Act.put, List.setIfInBounds_toArray, List.set_cons_zero, List.set_cons_succ]
                refine wpAnyH_done (by kernel_rfl) ?_ _
                refine NoPanic.normal ?_
                go_wp2_with fail
                go_meet
                exact ⟨_, _, rfl, rfl, hB5, hBwv, Hfw.out.trans hF2⟩
              exact AllReadyH.nil
            exact AllReadyH.nil
          exact AllReadyH.nil
        exact AllReadyH.nil
      exact AllReadyH.nil
    refine AllReadyH.cons rfl (fun K hK => ?_) ?_
    · go_simp
      refine hK.out _ _ ?_ (fun hHeld => ?_)
      · first | exact ⟨q1, q2, Nat.le_refl _⟩ | assumption | (refine ⟨?_, ?_, ?_⟩ <;> (first | omega | (simp <;> omega) | (repeat (first | assumption | ((with_reducible refine blk_new _ _ _ ?_); (first | (with_reducible rfl) | (simp; done))) | (with_reducible refine Blk.drew ?_) | (with_reducible refine Blk.alloc ?_ _) | (with_reducible refine Blk.frm ?_ (by assumption) (fun h => h))))))
      clear hK K
      (try dsimp only [Act.put]); try simp only [Act.put, List.setIfInBounds_toArray, List.set_cons_zero, List.set_cons_succ]
      refine wpAnyH_ready (rs := [1, 4]) (by kernel_rfl) (by simp) ?_
      refine AllReadyH.cons rfl (fun K hK => ?_) ?_
      · go_simp
        refine (Hra1.out _).mono ?_
        rintro e y1 ⟨rfl, hg1⟩
        have s1 := hg1.size
        try simp at s1
        go_wp2_with fail
        refine hK.out _ _ ?_ (fun hHeld => ?_)
        · first | exact ⟨q1, q2, Nat.le_refl _⟩ | assumption | (refine ⟨?_, ?_, ?_⟩ <;> (first | omega | (simp <;> omega) | (repeat (first | assumption | ((with_reducible refine blk_new _ _ _ ?_); (first | (with_reducible rfl) | (simp; done))) | (with_reducible refine Blk.drew ?_) | (with_reducible refine Blk.alloc ?_ _) | (with_reducible refine Blk.frm ?_ (by assumption) (fun h => h))))))
        clear hK K
        (try dsimp only [Act.put]); try simp only [Act.put, List.setIfInBounds_toArray, List.set_cons_zero, List.set_cons_succ]
        refine wpAnyH_ready (rs := [3, 4]) (by kernel_rfl) (by simp) ?_
        refine AllReadyH.cons rfl (fun K hK => ?_) ?_
        · go_simp
          refine (Hra2.out _).mono ?_
          rintro e y2 ⟨rfl, hg2⟩
          have s2 := hg2.size
          try simp at s2
          go_wp2_with fail
          refine hK.out _ _ ?_ (fun hHeld => ?_)
          · first | exact ⟨q1, q2, Nat.le_refl _⟩ | assumption | (refine ⟨?_, ?_, ?_⟩ <;> (first | omega | (simp <;> omega) | (repeat (first | assumption | ((with_reducible refine blk_new _ _ _ ?_); (first | (with_reducible rfl) | (simp; done))) | (with_reducible refine Blk.drew ?_) | (with_reducible refine Blk.alloc ?_ _) | (with_reducible refine Blk.frm ?_ (by assumption) (fun h => h))))))
          clear hK K
          (try dsimp only [Act.put]); try simp only [Act.put, List.setIfInBounds_toArray, List.set_cons_zero, List.set_cons_succ]
          refine wpAnyH_ready (rs := [4]) (by kernel_rfl) (by simp) ?_
          refine AllReadyH.cons rfl (fun K hK => ?_) ?_
          · go_simp
            refine hK.out _ _ ?_ (fun hHeld => ?_)
            · first | exact ⟨q1, q2, Nat.le_refl _⟩ | assumption | (refine ⟨?_, ?_, ?_⟩ <;> (first | omega | (simp <;> omega) | (repeat (first | assumption | ((with_reducible refine blk_new _ _ _ ?_); (first | (with_reducible rfl) | (simp; done))) | (with_reducible refine Blk.drew ?_) | (with_reducible refine Blk.alloc ?_ _) | (with_reducible refine Blk.frm ?_ (by assumption) (fun h => h))))))
            clear hK K
            (try dsimp only [Act.put]); try simp only [Act.put, List.setIfInBounds_toArray, List.set_cons_zero, List.set_cons_succ]
            refine wpAnyH_ready (rs := [6]) (by kernel_rfl) (by simp) ?_
            refine AllReadyH.cons rfl (fun K hK => ?_) ?_
            · rw [if_pos (by rfl)]
              refine wp_store_blk 50 _ _ (by rfl) _ (by rfl) #[.int .i64 0, .int .i64 0, .int .i64 0] 50 ?_ _ (by rfl) (by exact info_3int) (by rfl) (by kernel_rfl) (fun wz hBwz hfwz => ?_)
              · (repeat (first | assumption | ((with_reducible refine blk_new _ _ _ ?_); (first | (with_reducible rfl) | (simp; done))) | (with_reducible refine Blk.drew ?_) | (with_reducible refine Blk.alloc ?_ _) | (with_reducible refine Blk.frm ?_ (by assumption) (fun h => h))))
              obtain ⟨t1, t2, t3⟩ := hHeld
              have hS1 := t1.frm hfwz (fun e => ne_of_ge (x := w.heap.size + 2) (by first | omega | (simp <;> omega)) (by omega) e)
              have hS2 := t2.frm hfwz (fun e => ne_of_ge (x := w.heap.size + 2) (by first | omega | (simp <;> omega)) (by omega) e)
              have hS3 := Nat.le_trans t3 hfwz.size
              have hSS := And.intro hS1 (And.intro hS2 hS3)
              refine hK.out _ _ ?_ (fun hHeld => ?_)
              · first | exact ⟨q1, q2, Nat.le_refl _⟩ | assumption | (refine ⟨?_, ?_, ?_⟩ <;> (first | omega | (simp <;> omega) | (repeat (first | assumption | ((with_reducible refine blk_new _ _ _ ?_); (first | (with_reducible rfl) | (simp; done))) | (with_reducible refine Blk.drew ?_) | (with_reducible refine Blk.alloc ?_ _) | (with_reducible refine Blk.frm ?_ (by assumption) (fun h => h))))))
              clear hK K
              (try dsimp only [Act.put]); try simp only [Act.put, List.setIfInBounds_toArray, List.set_cons_zero, List.set_cons_succ]
              refine wpAnyH_ready (rs := [7]) (by kernel_rfl) (by simp) ?_
              refine AllReadyH.cons rfl (fun K hK => ?_) ?_
              · rw [if_pos (by rfl)]
                refine wp_store_blk 50 _ _ (by rfl) _ (by rfl) #[.int .i64 0, .int .i64 0, .int .i64 0] 50 ?_ _ (by rfl) (by exact info_3int) (by rfl) (by kernel_rfl) (fun wv hBwv hfwv => ?_)
                · refine Blk.frm ?_ hfwz (fun e => ?_)
                  · (repeat (first | assumption | ((with_reducible refine blk_new _ _ _ ?_); (first | (with_reducible rfl) | (simp; done))) | (with_reducible refine Blk.drew ?_) | (with_reducible refine Blk.alloc ?_ _) | (with_reducible refine Blk.frm ?_ (by assumption) (fun h => h))))
                  · have e2 := (show _ = _ from e)
                    first | omega | (simp at e2; omega)
                have hS4 := hS1.frm hfwv (fun e => ne_of_ge (x := w.heap.size + 2) (by first | omega | (simp <;> omega)) (by omega) e)
                have hS5 := hS2.frm hfwv (fun e => ne_of_ge (x := w.heap.size + 2) (by first | omega | (simp <;> omega)) (by omega) e)
                have hS6 := Nat.le_trans hS3 hfwv.size
                have hSS2 := And.intro hS4 (And.intro hS5 hS6)
                have hB5 := hBwz.frm hfwv (fun e => by have e2 := (show _ = _ from e); first | omega | (simp at e2; omega))
                have hF1 : Frm noB W2 wz := by
                  refine Frm.new ?_ hfwz (fun i hi e => ?_)
                  · (repeat (first | (with_reducible exact Frm.refl _ _) | assumption | (with_reducible refine Frm.alloc ?_ _) | (with_reducible refine Frm.drew ?_) | (with_reducible refine Frm.trans ?_ (by assumption))))
                  · have e2 := (show _ = _ from e)
                    first | omega | (simp at e2; omega)
                have hF2 : Frm noB W2 wv := by
                  refine Frm.new hF1 hfwv (fun i hi e => ?_)
                  have e2 := (show _ = _ from e)
                  first | omega | (simp at e2; omega)
                refine hK.out _ _ ?_ (fun hHeld => ?_)
                · first | exact ⟨q1, q2, Nat.le_refl _⟩ | assumption | (refine ⟨?_, ?_, ?_⟩ <;> (first | omega | (simp <;> omega) | (repeat (first | assumption | ((with_reducible refine blk_new _ _ _ ?_); (first | (with_reducible rfl) | (simp; done))) | (with_reducible refine Blk.drew ?_) | (with_reducible refine Blk.alloc ?_ _) | (with_reducible refine Blk.frm ?_ (by assumption) (fun h => h))))))
                clear hK K
                (try dsimp only [Act.put]); try simp only [Act.put, List.setIfInBounds_toArray, List.set_cons_zero, List.set_cons_succ]
                refine wpAnyH_done (by kernel_rfl) ?_ _
                refine NoPanic.normal ?_
                go_wp2_with fail
                go_meet
                exact ⟨_, _, rfl, rfl, hB5, hBwv, Hfw.out.trans hF2⟩
              exact AllReadyH.nil
            exact AllReadyH.nil
          exact AllReadyH.nil
        refine AllReadyH.cons rfl (fun K hK => ?_) ?_
        · go_simp
          refine hK.out _ _ ?_ (fun hHeld => ?_)
          · first | exact ⟨q1, q2, Nat.le_refl _⟩ | assumption | (refine ⟨?_, ?_, ?_⟩ <;> (first | omega | (simp <;> omega) | (repeat (first | assumption | ((with_reducible refine blk_new _ _ _ ?_); (first | (with_reducible rfl) | (simp; done))) | (with_reducible refine Blk.drew ?_) | (with_reducible refine Blk.alloc ?_ _) | (with_reducible refine Blk.frm ?_ (by assumption) (fun h => h))))))
          clear hK K
          (try dsimp only [Act.put]); try simp only [Act.put, List.setIfInBounds_toArray, List.set_cons_zero, List.set_cons_succ]
          refine wpAnyH_ready (rs := [3]) (by kernel_rfl) (by simp) ?_
          refine AllReadyH.cons rfl (fun K hK => ?_) ?_
          · go_simp
            refine (Hra2.out _).mono ?_
            rintro e y2 ⟨rfl, hg2⟩
            have s2 := hg2.size
            try simp at s2
            go_wp2_with fail
            refine hK.out _ _ ?_ (fun hHeld => ?_)
            · first | exact ⟨q1, q2, Nat.le_refl _⟩ | assumption | (refine ⟨?_, ?_, ?_⟩ <;> (first | omega | (simp <;> omega) | (repeat (first | assumption | ((with_reducible refine blk_new _ _ _ ?_); (first | (with_reducible rfl) | (simp; done))) | (with_reducible refine Blk.drew ?_) | (with_reducible refine Blk.alloc ?_ _) | (with_reducible refine Blk.frm ?_ (by assumption) (fun h => h))))))
            clear hK K
            (try dsimp only [Act.put]); try simp only [Act.put, List.setIfInBounds_toArray, List.set_cons_zero, List.set_cons_succ]
            refine wpAnyH_ready (rs := [6]) (by kernel_rfl) (by simp) ?_
            refine AllReadyH.cons rfl (fun K hK => ?_) ?_
            · rw [if_pos (by rfl)]
              refine wp_store_blk 50 _ _ (by rfl) _ (by rfl) #[.int .i64 0, .int .i64 0, .int .i64 0] 50 ?_ _ (by rfl) (by exact info_3int) (by rfl) (by kernel_rfl) (fun wz hBwz hfwz => ?_)
              · (repeat (first | assumption | ((with_reducible refine blk_new _ _ _ ?_); (first | (with_reducible rfl) | (simp; done))) | (with_reducible refine Blk.drew ?_) | (with_reducible refine Blk.alloc ?_ _) | (with_reducible refine Blk.frm ?_ (by assumption) (fun h => h))))
              obtain ⟨t1, t2, t3⟩ := hHeld
              have hS1 := t1.frm hfwz (fun e => ne_of_ge (x := w.heap.size + 2) (by first | omega | (simp <;> omega)) (by omega) e)
              have hS2 := t2.frm hfwz (fun e => ne_of_ge (x := w.heap.size + 2) (by first | omega | (simp <;> omega)) (by omega) e)
              have hS3 := Nat.le_trans t3 hfwz.size
              have hSS := And.intro hS1 (And.intro hS2 hS3)
              refine hK.out _ _ ?_ (fun hHeld => ?_)
              · first | exact ⟨q1, q2, Nat.le_refl _⟩ | assumption | (refine ⟨?_, ?_, ?_⟩ <;> (first | omega | (simp <;> omega) | (repeat (first | assumption | ((with_reducible refine blk_new _ _ _ ?_); (first | (with_reducible rfl) | (simp; done))) | (with_reducible refine Blk.drew ?_) | (with_reducible refine Blk.alloc ?_ _) | (with_reducible refine Blk.frm ?_ (by assumption) (fun h => h))))))
              clear hK K
              (try dsimp only [Act.put]); try simp only [Act.put, List.setIfInBounds_toArray, List.set_cons_zero, List.set_cons_succ]
              refine wpAnyH_ready (rs := [7]) (by kernel_rfl) (by simp) ?_
              refine AllReadyH.cons rfl (fun K hK => ?_) ?_
              · rw [if_pos (by rfl)]
                refine wp_store_blk 50 _ _ (by rfl) _ (by rfl) #[.int .i64 0, .int .i64 0, .int .i64 0] 50 ?_ _ (by rfl) (by exact info_3int) (by rfl) (by kernel_rfl) (fun wv hBwv hfwv => ?_)
                · refine Blk.frm ?_ hfwz (fun e => ?_)
                  · (repeat (first | assumption | ((with_reducible refine blk_new _ _ _ ?_); (first | (with_reducible rfl) | (simp; done))) | (with_reducible refine Blk.drew ?_) | (with_reducible refine Blk.alloc ?_ _) | (with_reducible refine Blk.frm ?_ (by assumption) (fun h => h))))
                  · have e2 := (show _ = _ from e)
                    first | omega | (simp at e2; omega)
                have hS4 := hS1.frm hfwv (fun e => ne_of_ge (x := w.heap.size + 2) (by first | omega | (simp <;> omega)) (by omega) e)
                have hS5 := hS2.frm hfwv (fun e => ne_of_ge (x := w.heap.size + 2) (by first | omega | (simp <;> omega)) (by omega) e)
                have hS6 := Nat.le_trans hS3 hfwv.size
                have hSS2 := And.intro hS4 (And.intro hS5 hS6)
                have hB5 := hBwz.frm hfwv (fun e => by have e2 := (show _ = _ from e); first | omega | (simp at e2; omega))
                have hF1 : Frm noB W2 wz := by
                  refine Frm.new ?_ hfwz (fun i hi e => ?_)
                  · (repeat (first | (with_reducible exact Frm.refl _ _) | assumption | (with_reducible refine Frm.alloc ?_ _) | (with_reducible refine Frm.drew ?_) | (with_reducible refine Frm.trans ?_ (by assumption))))
                  · have e2 := (show _ = _ from e)
                    first | omega | (simp at e2; omega)
                have hF2 : Frm noB W2 wv := by
                  refine Frm.new hF1 hfwv (fun i hi e => ?_)
                  have e2 := (show _ = _ from e)
                  first | omega | (simp at e2; omega)
                refine hK.out _ _ ?_ (fun hHeld => ?_)
                · first | exact ⟨q1, q2, Nat.le_refl _⟩ | assumption | (refine ⟨?_, ?_, ?_⟩ <;> (first | omega | (simp <;> omega) | (repeat (first | assumption | ((with_reducible refine blk_new _ _ _ ?_); (first | (with_reducible rfl) | (simp; done))) | (with_reducible refine Blk.drew ?_) | (with_reducible refine Blk.alloc ?_ _) | (with_reducible refine Blk.frm ?_ (by assumption) (fun h => h))))))
                clear hK K
                (try dsimp only [Act.put]); try simp only [Act.put, List.setIfInBounds_toArray, List.set_cons_zero, List.set_cons_succ]
                refine wpAnyH_done (by kernel_rfl) ?_ _
                refine NoPanic.normal ?_
                go_wp2_with fail
                go_meet
                exact ⟨_, _, rfl, rfl, hB5, hBwv, Hfw.out.trans hF2⟩
              exact AllReadyH.nil
            exact AllReadyH.nil
          exact AllReadyH.nil
        exact AllReadyH.nil
      refine AllReadyH.cons rfl (fun K hK => ?_) ?_
      · go_simp
        refine hK.out _ _ ?_ (fun hHeld => ?_)
        · first | exact ⟨q1, q2, Nat.le_refl _⟩ | assumption | (refine ⟨?_, ?_, ?_⟩ <;> (first | omega | (simp <;> omega) | (repeat (first | assumption | ((with_reducible refine blk_new _ _ _ ?_); (first | (with_reducible rfl) | (simp; done))) | (with_reducible refine Blk.drew ?_) | (with_reducible refine Blk.alloc ?_ _) | (with_reducible refine Blk.frm ?_ (by assumption) (fun h => h))))))
        clear hK K
        (try dsimp only [Act.put]); try simp only [Act.put, List.setIfInBounds_toArray, List.set_cons_zero, List.set_cons_succ]
        refine wpAnyH_ready (rs := [1]) (by kernel_rfl) (by simp) ?_
        refine AllReadyH.cons rfl (fun K hK => ?_) ?_
        · go_simp
          refine (Hra1.out _).mono ?_
          rintro e y1 ⟨rfl, hg1⟩
          have s1 := hg1.size
          try simp at s1
          go_wp2_with fail
          refine hK.out _ _ ?_ (fun hHeld => ?_)
          · first | exact ⟨q1, q2, Nat.le_refl _⟩ | assumption | (refine ⟨?_, ?_, ?_⟩ <;> (first | omega | (simp <;> omega) | (repeat (first | assumption | ((with_reducible refine blk_new _ _ _ ?_); (first | (with_reducible rfl) | (simp; done))) | (with_reducible refine Blk.drew ?_) | (with_reducible refine Blk.alloc ?_ _) | (with_reducible refine Blk.frm ?_ (by assumption) (fun h => h))))))
          clear hK K
          (try dsimp only [Act.put]); try simp only [Act.put, List.setIfInBounds_toArray, List.set_cons_zero, List.set_cons_succ]
          refine wpAnyH_ready (rs := [3]) (by kernel_rfl) (by simp) ?_
          refine AllReadyH.cons rfl (fun K hK => ?_) ?_
          · go_simp
            refine (Hra2.out _).mono ?_
            rintro e y2 ⟨rfl, hg2⟩
            have s2 := hg2.size
            try simp at s2
            go_wp2_with fail
            refine hK.out _ _ ?_ (fun hHeld => ?_)
            · first | exact ⟨q1, q2, Nat.le_refl _⟩ | assumption | (refine ⟨?_, ?_, ?_⟩ <;> (first | omega | (simp <;> omega) | (repeat (first | assumption | ((with_reducible refine blk_new _ _ _ ?_); (first | (with_reducible rfl) | (simp; done))) | (with_reducible refine Blk.drew ?_) | (with_reducible refine Blk.alloc ?_ _) | (with_reducible refine Blk.frm ?_ (by assumption) (fun h => h))))))
            clear hK K
            (try dsimp only [Act.put]); try simp only [Act.put, List.setIfInBounds_toArray, List.set_cons_zero, List.set_cons_succ]
            refine wpAnyH_ready (rs := [6]) (by kernel_rfl) (by simp) ?_
            refine AllReadyH.cons rfl (fun K hK => ?_) ?_
            · rw [if_pos (by rfl)]
              refine wp_store_blk 50 _ _ (by rfl) _ (by rfl) #[.int .i64 0, .int .i64 0, .int .i64 0] 50 ?_ _ (by rfl) (by exact info_3int) (by rfl) (by kernel_rfl) (fun wz hBwz hfwz => ?_)
              · (repeat (first | assumption | ((with_reducible refine blk_new _ _ _ ?_); (first | (with_reducible rfl) | (simp; done))) | (with_reducible refine Blk.drew ?_) | (with_reducible refine Blk.alloc ?_ _) | (with_reducible refine Blk.frm ?_ (by assumption) (fun h => h))))
              obtain ⟨t1, t2, t3⟩ := hHeld
              have hS1 := t1.frm hfwz (fun e => ne_of_ge (x := w.heap.size + 2) (by first | omega | (simp <;> omega)) (by omega) e)
              have hS2 := t2.frm hfwz (fun e => ne_of_ge (x := w.heap.size + 2) (by first | omega | (simp <;> omega)) (by omega) e)
              have hS3 := Nat.le_trans t3 hfwz.size
              have hSS := And.intro hS1 (And.intro hS2 hS3)
              refine hK.out _ _ ?_ (fun hHeld => ?_)
              · first | exact ⟨q1, q2, Nat.le_refl _⟩ | assumption | (refine ⟨?_, ?_, ?_⟩ <;> (first | omega | (simp <;> omega) | (repeat (first | assumption | ((with_reducible refine blk_new _ _ _ ?_); (first | (with_reducible rfl) | (simp; done))) | (with_reducible refine Blk.drew ?_) | (with_reducible refine Blk.alloc ?_ _) | (with_reducible refine Blk.frm ?_ (by assumption) (fun h => h))))))
              clear hK K
              (try dsimp only [Act.put]); try simp only [Act.put, List.setIfInBounds_toArray, List.set_cons_zero, List.set_cons_succ]
              refine wpAnyH_ready (rs := [7]) (by kernel_rfl) (by simp) ?_
              refine AllReadyH.cons rfl (fun K hK => ?_) ?_
              · rw [if_pos (by rfl)]
                refine wp_store_blk 50 _ _ (by rfl) _ (by rfl) #[.int .i64 0, .int .i64 0, .int .i64 0] 50 ?_ _ (by rfl) (by exact info_3int) (by rfl) (by kernel_rfl) (fun wv hBwv hfwv => ?_)
                · refine Blk.frm ?_ hfwz (fun e => ?_)
                  · (repeat (first | assumption | ((with_reducible refine blk_new _ _ _ ?_); (first | (with_reducible rfl) | (simp; done))) | (with_reducible refine Blk.drew ?_) | (with_reducible refine Blk.alloc ?_ _) | (with_reducible refine Blk.frm ?_ (by assumption) (fun h => h))))
                  · have e2 := (show _ = _ from e)
                    first | omega | (simp at e2; omega)
                have hS4 := hS1.frm hfwv (fun e => ne_of_ge (x := w.heap.size + 2) (by first | omega | (simp <;> omega)) (by omega) e)
                have hS5 := hS2.frm hfwv (fun e => ne_of_ge (x := w.heap.size + 2) (by first | omega | (simp <;> omega)) (by omega) e)
                have hS6 := Nat.le_trans hS3 hfwv.size
                have hSS2 := And.intro hS4 (And.intro hS5 hS6)
                have hB5 := hBwz.frm hfwv (fun e => by have e2 := (show _ = _ from e); first | omega | (simp at e2; omega))
                have hF1 : Frm noB W2 wz := by
                  refine Frm.new ?_ hfwz (fun i hi e => ?_)
                  · (repeat (first | (with_reducible exact Frm.refl _ _) | assumption | (with_reducible refine Frm.alloc ?_ _) | (with_reducible refine Frm.drew ?_) | (with_reducible refine Frm.trans ?_ (by assumption))))
                  · have e2 := (show _ = _ from e)
                    first | omega | (simp at e2; omega)
                have hF2 : Frm noB W2 wv := by
                  refine Frm.new hF1 hfwv (fun i hi e => ?_)
                  have e2 := (show _ = _ from e)
                  first | omega | (simp at e2; omega)
                refine hK.out _ _ ?_ (fun hHeld => ?_)
                · first | exact ⟨q1, q2, Nat.le_refl _⟩ | assumption | (refine ⟨?_, ?_, ?_⟩ <;> (first | omega | (simp <;> omega) | (repeat (first | assumption | ((with_reducible refine blk_new _ _ _ ?_); (first | (with_reducible rfl) | (simp; done))) | (with_reducible refine Blk.drew ?_) | (with_reducible refine Blk.alloc ?_ _) | (with_reducible refine Blk.frm ?_ (by assumption) (fun h => h))))))
                clear hK K
                (try dsimp only [Act.put]); try simp only [Act.put, List.setIfInBounds_toArray, List.set_cons_zero, List.set_cons_succ]
                refine wpAnyH_done (by kernel_rfl) ?_ _
                refine NoPanic.normal ?_
                go_wp2_with fail
                go_meet
                exact ⟨_, _, rfl, rfl, hB5, hBwv, Hfw.out.trans hF2⟩
              exact AllReadyH.nil
            exact AllReadyH.nil
          exact AllReadyH.nil
        exact AllReadyH.nil
      exact AllReadyH.nil
    exact AllReadyH.nil
  case rest =>
    obtain ⟨B5, B6, rfl, rfl, hB5, hB6, hf⟩ := hcut
    have k0 := fun w => compare_any z0 x0 w
    have k1 := fun w => compare_any z1 x1 w
    have k2 := fun w => compare_any (n2 : Int) (n1 : Int) w
    have e0 := (hB5.cell 0).trans (show _ = some (Value.int .i64 x0) from rfl)
    have e1 := (hB5.cell 1).trans (show _ = some (Value.int .i64 x1) from rfl)
    have e2 := (hB5.cell 2).trans (show _ = some (Value.int .i64 (n1 : Int)) from rfl)
    have f0 := (hB6.cell 0).trans (show _ = some (Value.int .i64 z0) from rfl)
    have f1 := (hB6.cell 1).trans (show _ = some (Value.int .i64 z1) from rfl)
    have f2 := (hB6.cell 2).trans (show _ = some (Value.int .i64 (n2 : Int)) from rfl)
    have i0 : ∀ w, (Instr.index 50 (.agg #[.int .i64 x0, .int .i64 x1, .int .i64 (n1 : Int)]) (.int .i64 0)).run Tryd.prog w = .ok (.int .i64 x0) w := fun _ => by kernel_rfl
    have i1 : ∀ w, (Instr.index 50 (.agg #[.int .i64 x0, .int .i64 x1, .int .i64 (n1 : Int)]) (.int .i64 1)).run Tryd.prog w = .ok (.int .i64 x1) w := fun _ => by kernel_rfl
    have i2 : ∀ w, (Instr.index 50 (.agg #[.int .i64 x0, .int .i64 x1, .int .i64 (n1 : Int)]) (.int .i64 2)).run Tryd.prog w = .ok (.int .i64 (n1 : Int)) w := fun _ => by kernel_rfl
    have hres := Hres.out
    clear Hres
    generalize cmpI z0 x0 = d0 at *
    generalize cmpI z1 x1 = d1 at *
    generalize cmpI (n2 : Int) (n1 : Int) = d2 at *
    have HB5 := Lib.hid hB5
    have HB6 := Lib.hid hB6
    have Hf := Lib.hid hf
    have Hres := Lib.hid hres
    have Hk0 := Lib.hid k0
    have Hk1 := Lib.hid k1
    have Hk2 := Lib.hid k2
    clear hB5 hB6 hf hres k0 k1 k2
    go_wp2_with fail
    go_loop [15] (fun i => CmpAt d0 d1 d2 i) (fun i => 3 - (intOf i).toNat)
    case atStart => exact .inl rfl
    case round =>
      rcases hrel with rfl | ⟨rfl, h0⟩ | ⟨rfl, h0, h1⟩ | ⟨rfl, h0, h1, h2⟩
      · by_cases hd : d0 = 0
        · have t1 : (d0 == 0) = true := by simp; exact hd
          have Hd := Lib.hid hd
          clear hd
          go_wp2_with fail
          refine (Hk0.out _).mono ?_
          rintro e w' ⟨rfl, rfl⟩
          go_wp2_with fail
          go_round
          case rel => exact .inr (.inl ⟨rfl, Hd.out⟩)
          case measure => simp [intOf]
        · have t1 : (d0 == 0) = false := by simp; exact hd
          have hr : R = d0 := by rw [Hres.out, if_neg hd]
          have Hd := Lib.hid hd
          have Hr := Lib.hid hr
          clear hd hr
          go_wp2_with fail
          refine (Hk0.out _).mono ?_
          rintro e w' ⟨rfl, rfl⟩
          go_wp2_with fail
          go_ret
          exact ⟨by rw [Hr.out]; rfl, Hf.out⟩
      · by_cases hd : d1 = 0
        · have t1 : (d1 == 0) = true := by simp; exact hd
          have Hd := Lib.hid hd
          have H0 := Lib.hid h0
          clear hd h0
          go_wp2_with fail
          refine (Hk1.out _).mono ?_
          rintro e w' ⟨rfl, rfl⟩
          go_wp2_with fail
          go_round
          case rel => exact .inr (.inr (.inl ⟨rfl, H0.out, Hd.out⟩))
          case measure => simp [intOf]
        · have t1 : (d1 == 0) = false := by simp; exact hd
          have hr : R = d1 := by rw [Hres.out, if_pos h0, if_neg hd]
          have Hd := Lib.hid hd
          have Hr := Lib.hid hr
          have H0 := Lib.hid h0
          clear hd hr h0
          go_wp2_with fail
          refine (Hk1.out _).mono ?_
          rintro e w' ⟨rfl, rfl⟩
          go_wp2_with fail
          go_ret
          exact ⟨by rw [Hr.out]; rfl, Hf.out⟩
      · by_cases hd : d2 = 0
        · have t1 : (d2 == 0) = true := by simp; exact hd
          have Hd := Lib.hid hd
          have H0 := Lib.hid h0
          have H1 := Lib.hid h1
          clear hd h0 h1
          go_wp2_with fail
          refine (Hk2.out _).mono ?_
          rintro e w' ⟨rfl, rfl⟩
          go_wp2_with fail
          go_round
          case rel => exact .inr (.inr (.inr ⟨rfl, H0.out, H1.out, Hd.out⟩))
          case measure => simp [intOf]
        · have t1 : (d2 == 0) = false := by simp; exact hd
          have hr : R = d2 := by rw [Hres.out, if_pos h0, if_pos h1]
          have Hd := Lib.hid hd
          have Hr := Lib.hid hr
          have H0 := Lib.hid h0
          have H1 := Lib.hid h1
          clear hd hr h0 h1
          go_wp2_with fail
          refine (Hk2.out _).mono ?_
          rintro e w' ⟨rfl, rfl⟩
          go_wp2_with fail
          go_ret
          exact ⟨by rw [Hr.out]; rfl, Hf.out⟩
      · have hr : R = 0 := by rw [Hres.out, if_pos h0, if_pos h1, h2]
        have Hr := Lib.hid hr
        have H0 := Lib.hid h0
        have H1 := Lib.hid h1
        have H2 := Lib.hid h2
        clear hr h0 h1 h2
        go_wp2_with fail
        go_ret
        exact ⟨by rw [Hr.out]; rfl, Hf.out⟩
end Go.Proofs.YtjehdldjfnaniaaDoor
