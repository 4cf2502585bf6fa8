/- Which of two matches comes ahead (layer 5). -/
import Derived.Test.YtjehdldjfnaniaaDoorMatchP
import Derived.Test.YtjehdldjfnaniaaDoorStoreNew
import Derived.Deep.RegionHeld3
import Derived.Outline
set_option linter.unusedVariables false
set_option linter.unusedSimpArgs false
namespace Go.Proofs.YtjehdldjfnaniaaDoor
open Go.RowKit

def cmpI (x y : Int) : Int := if x < y then -1 else if y < x then 1 else 0
theorem nan_any (x : Int) (w : World) : Calls Tryd.prog 39 #[.int .i64 x] w fun e w' => e = .returned (.bool false) ∧ w = w' := by
  go_enter Tryd.func39, Tryd.ntmps39
  go_wp2_with fail
  go_ret
  exact ⟨rfl, rfl⟩
theorem compare_any (x y : Int) (w : World) : Calls Tryd.prog 26 #[.int .i64 x, .int .i64 y] w fun e w' => e = .returned (.int .i64 (cmpI x y)) ∧ w = w' := by
  by_cases h1 : x < y
  · have hr : cmpI x y = -1 := by unfold cmpI; rw [if_pos h1]
    rw [hr]
    clear hr
    go_enter Tryd.func26, Tryd.ntmps26
    go_wp2_with (go_at_call 39; (with_reducible refine (nan_any _ _).mono ?_); rintro e w' ⟨rfl, rfl⟩)
    go_ret
    exact ⟨rfl, rfl⟩
  · by_cases h2 : y < x
    · have hr : cmpI x y = 1 := by unfold cmpI; rw [if_neg h1, if_pos h2]
      rw [hr]
      clear hr
      go_enter Tryd.func26, Tryd.ntmps26
      go_wp2_with (go_at_call 39; (with_reducible refine (nan_any _ _).mono ?_); rintro e w' ⟨rfl, rfl⟩)
      go_ret
      exact ⟨rfl, rfl⟩
    · have hr : cmpI x y = 0 := by unfold cmpI; rw [if_neg h1, if_neg h2]
      rw [hr]
      clear hr
      go_enter Tryd.func26, Tryd.ntmps26
      go_wp2_with (go_at_call 39; (with_reducible refine (nan_any _ _).mono ?_); rintro e w' ⟨rfl, rfl⟩)
      go_ret
      exact ⟨rfl, rfl⟩
def rk0 (ex : Bool) : Int := if ex then 1 else 0
def rk1 (mp : ByteArray) : Int := if mp = ⟨#[47]⟩ then 0 else (Lib.countByte mp.data.toList 47 : Int)
def rankC (mp : ByteArray) (ex : Bool) (n : Nat) : Array Value := #[.int .i64 (rk0 ex), .int .i64 (rk1 mp), .int .i64 (n : Int)]
theorem rank_res (tmps : Array Value) (w : World) (B : Nat) (v0 v1 v2 : Value) (h : tmps[2]?.getD undef = .pointer (some ⟨B, 0, none⟩)) (c0 : w.cell? ⟨B, 0, none⟩ = some v0) (c1 : w.cell? ⟨B, 1, none⟩ = some v1) (c2 : w.cell? ⟨B, 2, none⟩ = some v2) :
    (results Tryd.f25 tmps).run Tryd.prog w = .ok (.agg #[v0, v1, v2]) w := by
  simp [results, Tryd.results25, go_sem, h, c0, c1, c2]
set_option maxHeartbeats 2000000 in
theorem rank_any (mp : ByteArray) (ex : Bool) (a : Option Addr) (n c : Nat) (w : World) :
    Calls Tryd.prog 25 #[.agg #[.string mp, .bool ex, .slice a n c]] w fun e w' => e = .returned (.agg (rankC mp ex n)) ∧ Frm noB w w' := by
  have hcnt := fun w => Tryd.strings_Count_one mp 47 w
  have hk0 : rk0 ex = if ex then 1 else 0 := rfl
  have hk1 : rk1 mp = if mp = ⟨#[47]⟩ then 0 else (Lib.countByte mp.data.toList 47 : Int) := rfl
  have hM := Blk.made w #[.string mp, .bool ex, .slice a n c] 25
  have hM2 := hM.alloc (.cells #[.int .i64 0, .int .i64 0, .int .i64 0] 50)
  unfold rankC
  generalize rk0 ex = K0 at *
  generalize rk1 mp = K1 at *
  generalize (Lib.countByte mp.data.toList 47 : Int) = C at *
  have Hcnt := Lib.hid hcnt
  have Hk0 := Lib.hid hk0
  have Hk1 := Lib.hid hk1
  have HM := Lib.hid hM
  have HM2 := Lib.hid hM2
  clear hcnt hk0 hk1 hM hM2
  go_enter Tryd.func25, Tryd.ntmps25
  go_upto_region 1 with fail
  go_cut [3] (fun s wx => s = .pointer (some ⟨w.heap.size + 1 + 1, 0, none⟩) ∧ Blk wx w.heap.size #[.string mp, .bool ex, .slice a n c] 25 ∧ Blk wx (w.heap.size + 1) #[.int .i64 0, .int .i64 0, .int .i64 0] 50 ∧ Blk wx (w.heap.size + 1 + 1) #[.int .i64 0, .int .i64 C, .int .i64 (n : Int)] 50 ∧ Frm noB w wx)
  case first =>
    have c0 := (HM2.out.cell 0).trans (show _ = some (Value.string mp) from rfl)
    have c2 := (HM2.out.cell 2).trans (show _ = some (Value.slice a n c) from rfl)
    go_region_held3 (fun X => X.cell? ⟨w.heap.size, 0, none⟩ = some (.string mp) ∧ X.cell? ⟨w.heap.size, 2, none⟩ = some (.slice a n c)) (first | (with_reducible assumption) | exact ⟨c0, c2⟩ | exact ⟨cell_frm ((Frm.refl noB _).alloc _) (fun h => h) c0, cell_frm ((Frm.refl noB _).alloc _) (fun h => h) c2⟩)
      ((go_at_call 38; (with_reducible refine (Hcnt.out _).mono ?_); rintro e w' ⟨rfl, rfl⟩))
    all_goals
      go_wp2_with fail
      go_meet
      refine ⟨rfl, ?_, ?_, ?_, ?_⟩
      · refine Blk.drew ?_
        exact ((Blk.made _ _ _).alloc _).alloc _
      · refine Blk.drew ?_
        exact (blk_new _ _ _ (by simp)).alloc _
      · refine Blk.drew ?_
        exact blk_new _ _ _ (by simp)
      · exact (((Frm.refl _ _).alloc _).alloc _).alloc _ |>.drew
  case rest =>
    obtain ⟨rfl, hM, hR, hK, hf⟩ := hcut
    clear HM2
    have m0 := (hM.cell 0).trans (show _ = some (Value.string mp) from rfl)
    have m1 := (hM.cell 1).trans (show _ = some (Value.bool ex) from rfl)
    have y0 := hK.free 0
    have y1 := hK.free 1
    have yb := hK.lt
    have k0 := (hK.cell 0).trans (show _ = some (Value.int .i64 0) from rfl)
    have k1 := (hK.cell 1).trans (show _ = some (Value.int .i64 C) from rfl)
    have k2 := (hK.cell 2).trans (show _ = some (Value.int .i64 (n : Int)) from rfl)
    have r0 := (hR.cell 0).trans (show _ = some (Value.int .i64 0) from rfl)
    have r1 := (hR.cell 1).trans (show _ = some (Value.int .i64 0) from rfl)
    have r2 := (hR.cell 2).trans (show _ = some (Value.int .i64 0) from rfl)
    have z0 := hR.free 0
    have z1 := hR.free 1
    have z2 := hR.free 2
    have HM := Lib.hid hM
    have HR := Lib.hid hR
    have HK := Lib.hid hK
    have Hf := Lib.hid hf
    clear hM hR hK hf
    cases ex
    · by_cases h1 : mp = ⟨#[47]⟩
      · have t1 := slash_yes h1
        have H1 := Lib.hid h1
        clear h1
        go_wp2_with fail
        refine bodyPost_ret (rank_res _ _ (w.heap.size + 1) (.int .i64 0) (.int .i64 0) (.int .i64 (n : Int)) rfl (by go_simp) (by go_simp) (by go_simp)) rfl ⟨?_, ?_⟩
        · rw [Hk0.out, Hk1.out, if_pos H1.out]; rfl
        · repeat (first | exact Hf.out | (refine Frm.setNew ?_ (by simp; try omega) _))
      · have t1 := slash_test h1
        have H1 := Lib.hid h1
        clear h1
        go_wp2_with fail
        refine bodyPost_ret (rank_res _ _ (w.heap.size + 1) (.int .i64 0) (.int .i64 C) (.int .i64 (n : Int)) rfl (by go_simp) (by go_simp) (by go_simp)) rfl ⟨?_, ?_⟩
        · rw [Hk0.out, Hk1.out, if_neg H1.out]; rfl
        · repeat (first | exact Hf.out | (refine Frm.setNew ?_ (by simp; try omega) _))
    · by_cases h1 : mp = ⟨#[47]⟩
      · have t1 := slash_yes h1
        have H1 := Lib.hid h1
        clear h1
        go_wp2_with fail
        refine bodyPost_ret (rank_res _ _ (w.heap.size + 1) (.int .i64 1) (.int .i64 0) (.int .i64 (n : Int)) rfl (by go_simp) (by go_simp) (by go_simp)) rfl ⟨?_, ?_⟩
        · rw [Hk0.out, Hk1.out, if_pos H1.out]; rfl
        · repeat (first | exact Hf.out | (refine Frm.setNew ?_ (by simp; try omega) _))
      · have t1 := slash_test h1
        have H1 := Lib.hid h1
        clear h1
        go_wp2_with fail
        refine bodyPost_ret (rank_res _ _ (w.heap.size + 1) (.int .i64 1) (.int .i64 C) (.int .i64 (n : Int)) rfl (by go_simp) (by go_simp) (by go_simp)) rfl ⟨?_, ?_⟩
        · rw [Hk0.out, Hk1.out, if_neg H1.out]; rfl
        · repeat (first | exact Hf.out | (refine Frm.setNew ?_ (by simp; try omega) _))
end Go.Proofs.YtjehdldjfnaniaaDoor
