/- New and Take of a collector. -/
import Derived.Test.YtpgcfeplcibhoaaDoorColM
import Derived.Test.YtpgcfeplcibhoaaDoorTakeD
import Derived.Test.YtpgcfeplcibhoaaDoorStoreNew
import Derived.Test.YtpgcfeplcibhoaaDoorOwnSet
import Derived.Deep.RegionLaw
import Derived.Deep.RegionHeld3
import Derived.Deep.DeepCutAuto
import Derived.StillTailTactics
import Derived.RegionTactic
import Derived.Outline
set_option linter.unusedVariables false
set_option linter.unusedSimpArgs false
namespace Go.Proofs.YtpgcfeplcibhoaaDoor
open Go.RowKit

/-- Block b is a collector that has taken the spans L; k: how often it was used, at most. -/
def ColIs (w : World) (b : Nat) (L : List Spn) (k : Nat) (O : Nat → Prop) : Prop := ∃ m1 m2 rows, ColM w b m1 m2 L rows k O
theorem ColIs.frm {w w' : World} {b k : Nat} {L : List Spn} {O S : Nat → Prop} (h : ColIs w b L k O) (f : Frm S w w') (hs : ∀ i, O i → ¬ S i) : ColIs w' b L k O := by
  obtain ⟨m1, m2, rows, h⟩ := h
  exact ⟨m1, m2, rows, h.frm f hs⟩
theorem ColIs.keep {w w' : World} {b k : Nat} {L : List Spn} {O : Nat → Prop} (h : ColIs w b L k O) (f : Frm noB w w') : ColIs w' b L k O := h.frm f (fun _ _ h => h)
theorem ColIs.lt {w : World} {b k : Nat} {L : List Spn} {O : Nat → Prop} (h : ColIs w b L k O) : ∀ i, O i → i < w.heap.size := by
  obtain ⟨m1, m2, rows, h⟩ := h
  exact h.lt
def isInB (L : List Spn) (s : Spn) : Bool := (fndS L (nmB s)).isSome
def takeL (L : List Spn) (s : Spn) : List Spn := if isInB L s = true then L else L ++ [s]
set_option maxHeartbeats 1000000 in
theorem cnew_any (w : World) : Calls Tryd.prog 10 #[] w fun e w' => ∃ b O, e = .returned (.pointer (some ⟨b, 0, none⟩)) ∧ ColIs w' b [] 0 O ∧ Frm noB w w' ∧ ∀ i, O i → w.heap.size ≤ i := by
  have hmm := @run_makeMap Tryd.prog
  go_enter Tryd.func10, Tryd.ntmps10
  go_wp2_with fail
  go_ret
  have hF : Frm noB w (((w.alloc (.map #[] 0)).alloc (.map #[] 0)).alloc (.cells #[.map (some w.heap.size), .map (some (w.heap.size + 1))] 59)) := (((Frm.refl noB w).alloc _).alloc _).alloc _
  have hB := Blk.made ((w.alloc (.map #[] 0)).alloc (.map #[] 0)) #[.map (some w.heap.size), .map (some (w.heap.size + 1))] 59
  rw [World.size_alloc, World.size_alloc] at hB
  have hm1 := ((VMap.made w Tryd.prog 9).frm ((Frm.refl noB _).alloc (.map #[] 0)) (fun h => h)).frm ((Frm.refl noB _).alloc (.cells #[.map (some w.heap.size), .map (some (w.heap.size + 1))] 59)) (fun h => h)
  have hm2 := (VMap.made (w.alloc (.map #[] 0)) Tryd.prog 3).frm ((Frm.refl noB _).alloc (.cells #[.map (some w.heap.size), .map (some (w.heap.size + 1))] 59)) (fun h => h)
  rw [World.size_alloc] at hm2
  have hsz : (((w.alloc (.map #[] 0)).alloc (.map #[] 0)).alloc (.cells #[.map (some w.heap.size), .map (some (w.heap.size + 1))] 59)).heap.size = w.heap.size + 3 := by simp
  refine ⟨w.heap.size + 1 + 1, fun i => i = w.heap.size ∨ i = w.heap.size + 1 ∨ i = w.heap.size + 1 + 1, rfl, ⟨w.heap.size, w.heap.size + 1, fun _ => .slice none 0 0, ⟨hB, ⟨0, hm1.congr (fun l _ => by unfold spansF fndS; split <;> rfl)⟩, ⟨0, hm2.congr (fun l _ => by unfold namesF namesL; split <;> rfl)⟩, fun r => Own.nil _ _ _ _, fun _ _ => rfl,
    fun r i hi => by simp [Value.ownBlock] at hi, fun r r' i _ hi => by simp [Value.ownBlock] at hi, .inr (.inr rfl), .inl rfl, .inr (.inl rfl), by omega, by omega, by omega, fun i hi => ?_⟩⟩, hF, fun i hi => ?_⟩
  · rw [hsz]; rcases hi with rfl | rfl | rfl <;> omega
  · rcases hi with rfl | rfl | rfl <;> omega
theorem info_spz : (Tryd.prog.info? 30).map (·.size) = some 6 := by kernel_rfl
set_option maxRecDepth 100000 in
set_option maxHeartbeats 4000000 in
theorem ctake_old (b m1 m2 k : Nat) (L : List Spn) (rows : Int → Value) (O : Nat → Prop) (xn : ByteArray) (x1 x2 x3 x5 : Int) (x4 : Bool) (y : Spn) (w : World) (h : ColM w b m1 m2 L rows k O) (hs : xn.size ≤ 1000000) (hy : fndS L xn.data.toList = some y) :
    Calls Tryd.prog 13 #[.pointer (some ⟨b, 0, none⟩), .agg #[.string xn, .int .i64 x1, .int .i64 x2, .int .i64 x3, .bool x4, .int .i64 x5]] w fun e w' => e = .returned (.bool false) ∧ Frm noB w w' := by
  have hsz : xn.size ≤ maxLen := by simp only [maxLen]; omega
  have hf0 : Frm noB w (w.alloc (.cells #[.string xn, .int .i64 x1, .int .i64 x2, .int .i64 x3, .bool x4, .int .i64 x5] 30)) := (Frm.refl noB w).alloc _
  obtain ⟨W1, hW1⟩ : ∃ Y, Y = w.alloc (.cells #[.string xn, .int .i64 x1, .int .i64 x2, .int .i64 x3, .bool x4, .int .i64 x5] 30) := ⟨_, rfl⟩
  have hbx : Blk W1 w.heap.size #[.string xn, .int .i64 x1, .int .i64 x2, .int .i64 x3, .bool x4, .int .i64 x5] 30 := by rw [hW1]; exact Blk.made w _ _
  have hf1 : Frm noB w W1 := by rw [hW1]; exact hf0
  have hM1 := h.keep hf1
  have hBc := hM1.blk
  have hlk := fun W (hW : Frm noB W1 W) => (hM1.keep hW).look xn hs
  clear hf0
  rw [hy] at hlk
  obtain ⟨yn, y1, y2, y3, y4, y5⟩ := y
  simp only [Option.getD_some, Option.isSome_some, spnV] at hlk
  have hbw : b < w.heap.size := h.lt _ h.ob
  have Hh := Lib.hid h
  have Hs := Lib.hid hs
  have Hbx := Lib.hid hbx
  have Hf1 := Lib.hid hf1
  have HM1 := Lib.hid hM1
  have HBc := Lib.hid hBc
  have Hlk := Lib.hid hlk
  have Hy := Lib.hid hy
  have Hsz := Lib.hid hsz
  clear h hs hbx hf1 hM1 hBc hlk hy hsz
  go_enter Tryd.func13, Tryd.ntmps13
  go_upto_region 1 with fail
  rw [← hW1]
  have HW1 := Lib.hid hW1
  clear hW1
  go_cut [6] (fun s6 wx => s6 = .bool true ∧ Frm noB W1 wx)
  case first =>
    refine wp_region_noPanic ?_
    refine wp_region_held_drew (S := fun X => Blk X b #[.map (some m1), .map (some m2)] 59 ∧ Blk X w.heap.size #[.string xn, .int .i64 x1, .int .i64 x2, .int .i64 x3, .bool x4, .int .i64 x5] 30) (by kernel_rfl) ?_ (fun hHeld => ?_)
    · exact ⟨HBc.out.frm (Frm.refl noB _).drew (fun h => h), Hbx.out.frm (Frm.refl noB _).drew (fun h => h)⟩
    obtain ⟨u0, hu0⟩ : ∃ Wq, Wq = W1.drew := ⟨_, rfl⟩
    try rw [← hu0] at hHeld
    rw [← hu0]
    have hgd : Frm noB W1 u0 := by rw [hu0]; exact (Frm.refl noB W1).drew
    have HT0 := Lib.hid (hgd)
    have hz0 := hgd.size
    clear hu0 hgd
    refine takeD (i := 0) (some 9) (v := ?_) rfl rfl (by kernel_rfl) (by kernel_rfl) (by kernel_rfl) (fun _ _ _ h => h) (Or.inl ⟨by kernel_rfl, ?_⟩) (by assumption) ?_
    rotate_left
    · (intro w hSw; (try dsimp only at hSw); have hQ0 := (hSw.1.cell 0).trans (show _ = some (Value.map (some m1)) from rfl); have hQ1 := (hSw.2.cell 0).trans (show _ = some (Value.string xn) from rfl); go_simp; try (with_reducible rfl))
    (try dsimp only [Act.put]); try simp only [Act.put, List.setIfInBounds_toArray, List.set_cons_zero, List.set_cons_succ]
    refine takeD (i := 1) (some 10) (v := ?_) rfl rfl (by kernel_rfl) (by kernel_rfl) (by kernel_rfl) (fun _ _ _ h => h) (Or.inl ⟨by kernel_rfl, ?_⟩) (by assumption) ?_
    rotate_left
    · (intro w hSw; (try dsimp only at hSw); have hQ0 := (hSw.1.cell 0).trans (show _ = some (Value.map (some m1)) from rfl); have hQ1 := (hSw.2.cell 0).trans (show _ = some (Value.string xn) from rfl); go_simp; try (with_reducible rfl))
    (try dsimp only [Act.put]); try simp only [Act.put, List.setIfInBounds_toArray, List.set_cons_zero, List.set_cons_succ]
    refine takeD (i := 2) (some 11) (v := ?_) rfl rfl (by kernel_rfl) (by kernel_rfl) (by kernel_rfl) (fun _ _ _ h => h) (Or.inl ⟨by kernel_rfl, ?_⟩) (by assumption) ?_
    rotate_left
    · (intro w hSw; (try dsimp only at hSw); have hQ0 := (hSw.1.cell 0).trans (show _ = some (Value.map (some m1)) from rfl); have hQ1 := (hSw.2.cell 0).trans (show _ = some (Value.string xn) from rfl); go_simp; try (with_reducible rfl))
    (try dsimp only [Act.put]); try simp only [Act.put, List.setIfInBounds_toArray, List.set_cons_zero, List.set_cons_succ]
    refine takeD (i := 3) (some 12) (v := ?_) rfl rfl (by kernel_rfl) (by kernel_rfl) (by kernel_rfl) (fun _ _ _ h => h) (Or.inl ⟨by kernel_rfl, ?_⟩) (by assumption) ?_
    rotate_left
    · (intro w hSw; (try dsimp only at hSw); have hQ0 := (hSw.1.cell 0).trans (show _ = some (Value.map (some m1)) from rfl); have hQ1 := (hSw.2.cell 0).trans (show _ = some (Value.string xn) from rfl); go_simp; try (with_reducible rfl))
    (try dsimp only [Act.put]); try simp only [Act.put, List.setIfInBounds_toArray, List.set_cons_zero, List.set_cons_succ]
    refine takeD (i := 4) (some 13) (v := ?_) rfl rfl (by kernel_rfl) (by kernel_rfl) (by kernel_rfl) (fun _ _ _ h => h) (Or.inl ⟨by kernel_rfl, ?_⟩) (by assumption) ?_
    rotate_left
    · (intro w hSw; (try dsimp only at hSw); have hQ0 := (hSw.1.cell 0).trans (show _ = some (Value.map (some m1)) from rfl); have hQ1 := (hSw.2.cell 0).trans (show _ = some (Value.string xn) from rfl); go_simp; try (with_reducible rfl))
    (try dsimp only [Act.put]); try simp only [Act.put, List.setIfInBounds_toArray, List.set_cons_zero, List.set_cons_succ]
    refine takeD (i := 5) (some 14) (v := ?_) rfl rfl (by kernel_rfl) (by kernel_rfl) (by kernel_rfl) (fun _ _ _ h => h) (Or.inl ⟨by kernel_rfl, ?_⟩) (by assumption) ?_
    rotate_left
    · (intro w hSw; (try dsimp only at hSw); have hQ0 := (hSw.1.cell 0).trans (show _ = some (Value.map (some m1)) from rfl); have hQ1 := (hSw.2.cell 0).trans (show _ = some (Value.string xn) from rfl); go_simp; try (with_reducible rfl))
    (try dsimp only [Act.put]); try simp only [Act.put, List.setIfInBounds_toArray, List.set_cons_zero, List.set_cons_succ]
    refine wpAnyH_ready (rs := [6, 10]) (by kernel_rfl) (by simp) ?_
    refine AllReadyH.cons rfl (fun K hK => ?_) ?_
    · have hlk := Hlk.out _ HT0.out
      go_simp
      clear hlk
      refine hK.out _ _ ?_ (fun hHeld => ?_)
      · exact ⟨HBc.out.frm HT0.out (fun h => h), Hbx.out.frm HT0.out (fun h => h)⟩
      clear hK K
      (try dsimp only [Act.put]); try simp only [Act.put, List.setIfInBounds_toArray, List.set_cons_zero, List.set_cons_succ]
      refine takeD (i := 7) (some 8) (v := ?_) rfl rfl (by kernel_rfl) (by kernel_rfl) (by kernel_rfl) (fun _ _ _ h => h) (Or.inl ⟨by kernel_rfl, ?_⟩) (by assumption) ?_
      rotate_left
      · (intro w hSw; (try dsimp only at hSw); have hQ0 := (hSw.1.cell 0).trans (show _ = some (Value.map (some m1)) from rfl); have hQ1 := (hSw.2.cell 0).trans (show _ = some (Value.string xn) from rfl); go_simp; try (with_reducible rfl))
      (try dsimp only [Act.put]); try simp only [Act.put, List.setIfInBounds_toArray, List.set_cons_zero, List.set_cons_succ]
      refine takeD (i := 8) (some 16) (v := ?_) rfl rfl (by kernel_rfl) (by kernel_rfl) (by kernel_rfl) (fun _ _ _ h => h) (Or.inl ⟨by kernel_rfl, ?_⟩) (by assumption) ?_
      rotate_left
      · (intro w hSw; (try dsimp only at hSw); have hQ0 := (hSw.1.cell 0).trans (show _ = some (Value.map (some m1)) from rfl); have hQ1 := (hSw.2.cell 0).trans (show _ = some (Value.string xn) from rfl); go_simp; try (with_reducible rfl))
      (try dsimp only [Act.put]); try simp only [Act.put, List.setIfInBounds_toArray, List.set_cons_zero, List.set_cons_succ]
      refine takeD (i := 9) (some 17) (v := ?_) rfl rfl (by kernel_rfl) (by kernel_rfl) (by kernel_rfl) (fun _ _ _ h => h) (Or.inl ⟨by kernel_rfl, ?_⟩) (by assumption) ?_
      rotate_left
      · (intro w hSw; (try dsimp only at hSw); have hQ0 := (hSw.1.cell 0).trans (show _ = some (Value.map (some m1)) from rfl); have hQ1 := (hSw.2.cell 0).trans (show _ = some (Value.string xn) from rfl); go_simp; try (with_reducible rfl))
      (try dsimp only [Act.put]); try simp only [Act.put, List.setIfInBounds_toArray, List.set_cons_zero, List.set_cons_succ]
      refine wpAnyH_ready (rs := [10]) (by kernel_rfl) (by simp) ?_
      refine AllReadyH.cons rfl (fun K hK => ?_) ?_
      · go_simp
        generalize hw : World.alloc u0 _ = u1
        have hg : Frm noB u0 u1 := by rw [← hw]; exact (Frm.refl noB u0).alloc _
        have HT1 := Lib.hid (HT0.out.trans hg)
        have hz1 := hg.size
        have rN_1 := Lib.hid (show Blk u1 u0.heap.size #[.string ⟨#[]⟩, .int .i64 0, .int .i64 0, .int .i64 0, .bool false, .int .i64 0] 30 by rw [← hw]; exact Blk.made u0 _ _)
        have hl1 : u0.heap.size < u1.heap.size := by rw [← hw]; simp
        clear hg hw
        refine hK.out _ _ ?_ (fun hHeld => ?_)
        · exact ⟨HBc.out.frm HT1.out (fun h => h), Hbx.out.frm HT1.out (fun h => h)⟩
        clear hK K
        (try dsimp only [Act.put]); try simp only [Act.put, List.setIfInBounds_toArray, List.set_cons_zero, List.set_cons_succ]
        refine wpAnyH_ready (rs := [11]) (by kernel_rfl) (by simp) ?_
        refine AllReadyH.cons rfl (fun K hK => ?_) ?_
        · rw [if_pos (by rfl)]
          refine wp_store_blk 30 _ _ (by rfl) _ (by rfl) _ _ rN_1.out #[.string yn, .int .i64 y1, .int .i64 y2, .int .i64 y3, .bool y4, .int .i64 y5] (by rfl) (by exact info_spz) (by rfl) (by kernel_rfl) (fun u2 hs hg => ?_)
          have HT2 := Lib.hid (show Frm noB W1 u2 from HT1.out.new hg (fun i hi e => by have e2 := (show _ = _ from e); omega))
          have rN_2 := Lib.hid hs
          clear hs hg
          refine hK.out _ _ ?_ (fun hHeld => ?_)
          · exact ⟨HBc.out.frm HT2.out (fun h => h), Hbx.out.frm HT2.out (fun h => h)⟩
          clear hK K
          (try dsimp only [Act.put]); try simp only [Act.put, List.setIfInBounds_toArray, List.set_cons_zero, List.set_cons_succ]
          refine takeD (i := 12) (some 6) (v := ?_) rfl rfl (by kernel_rfl) (by kernel_rfl) (by kernel_rfl) (fun _ _ _ h => h) (Or.inl ⟨by kernel_rfl, ?_⟩) (by assumption) ?_
          rotate_left
          · (intro w hSw; (try dsimp only at hSw); have hQ0 := (hSw.1.cell 0).trans (show _ = some (Value.map (some m1)) from rfl); have hQ1 := (hSw.2.cell 0).trans (show _ = some (Value.string xn) from rfl); go_simp; try (with_reducible rfl))
          (try dsimp only [Act.put]); try simp only [Act.put, List.setIfInBounds_toArray, List.set_cons_zero, List.set_cons_succ]
          refine wpAnyH_done (by kernel_rfl) ?_ _
          refine NoPanic.normal ?_
          go_wp2_with fail
          go_meet
          exact ⟨rfl, HT2.out⟩
        exact AllReadyH.nil
      exact AllReadyH.nil
    refine AllReadyH.cons rfl (fun K hK => ?_) ?_
    · go_simp
      generalize hw : World.alloc u0 _ = u1
      have hg : Frm noB u0 u1 := by rw [← hw]; exact (Frm.refl noB u0).alloc _
      have HT1 := Lib.hid (HT0.out.trans hg)
      have hz1 := hg.size
      have rN_1 := Lib.hid (show Blk u1 u0.heap.size #[.string ⟨#[]⟩, .int .i64 0, .int .i64 0, .int .i64 0, .bool false, .int .i64 0] 30 by rw [← hw]; exact Blk.made u0 _ _)
      have hl1 : u0.heap.size < u1.heap.size := by rw [← hw]; simp
      clear hg hw
      refine hK.out _ _ ?_ (fun hHeld => ?_)
      · exact ⟨HBc.out.frm HT1.out (fun h => h), Hbx.out.frm HT1.out (fun h => h)⟩
      clear hK K
      (try dsimp only [Act.put]); try simp only [Act.put, List.setIfInBounds_toArray, List.set_cons_zero, List.set_cons_succ]
      refine wpAnyH_ready (rs := [6]) (by kernel_rfl) (by simp) ?_
      refine AllReadyH.cons rfl (fun K hK => ?_) ?_
      · have hlk := Hlk.out _ HT1.out
        go_simp
        clear hlk
        refine hK.out _ _ ?_ (fun hHeld => ?_)
        · exact ⟨HBc.out.frm HT1.out (fun h => h), Hbx.out.frm HT1.out (fun h => h)⟩
        clear hK K
        (try dsimp only [Act.put]); try simp only [Act.put, List.setIfInBounds_toArray, List.set_cons_zero, List.set_cons_succ]
        refine takeD (i := 7) (some 8) (v := ?_) rfl rfl (by kernel_rfl) (by kernel_rfl) (by kernel_rfl) (fun _ _ _ h => h) (Or.inl ⟨by kernel_rfl, ?_⟩) (by assumption) ?_
        rotate_left
        · (intro w hSw; (try dsimp only at hSw); have hQ0 := (hSw.1.cell 0).trans (show _ = some (Value.map (some m1)) from rfl); have hQ1 := (hSw.2.cell 0).trans (show _ = some (Value.string xn) from rfl); go_simp; try (with_reducible rfl))
        (try dsimp only [Act.put]); try simp only [Act.put, List.setIfInBounds_toArray, List.set_cons_zero, List.set_cons_succ]
        refine takeD (i := 8) (some 16) (v := ?_) rfl rfl (by kernel_rfl) (by kernel_rfl) (by kernel_rfl) (fun _ _ _ h => h) (Or.inl ⟨by kernel_rfl, ?_⟩) (by assumption) ?_
        rotate_left
        · (intro w hSw; (try dsimp only at hSw); have hQ0 := (hSw.1.cell 0).trans (show _ = some (Value.map (some m1)) from rfl); have hQ1 := (hSw.2.cell 0).trans (show _ = some (Value.string xn) from rfl); go_simp; try (with_reducible rfl))
        (try dsimp only [Act.put]); try simp only [Act.put, List.setIfInBounds_toArray, List.set_cons_zero, List.set_cons_succ]
        refine takeD (i := 9) (some 17) (v := ?_) rfl rfl (by kernel_rfl) (by kernel_rfl) (by kernel_rfl) (fun _ _ _ h => h) (Or.inl ⟨by kernel_rfl, ?_⟩) (by assumption) ?_
        rotate_left
        · (intro w hSw; (try dsimp only at hSw); have hQ0 := (hSw.1.cell 0).trans (show _ = some (Value.map (some m1)) from rfl); have hQ1 := (hSw.2.cell 0).trans (show _ = some (Value.string xn) from rfl); go_simp; try (with_reducible rfl))
        (try dsimp only [Act.put]); try simp only [Act.put, List.setIfInBounds_toArray, List.set_cons_zero, List.set_cons_succ]
        refine wpAnyH_ready (rs := [11]) (by kernel_rfl) (by simp) ?_
        refine AllReadyH.cons rfl (fun K hK => ?_) ?_
        · rw [if_pos (by rfl)]
          refine wp_store_blk 30 _ _ (by rfl) _ (by rfl) _ _ rN_1.out #[.string yn, .int .i64 y1, .int .i64 y2, .int .i64 y3, .bool y4, .int .i64 y5] (by rfl) (by exact info_spz) (by rfl) (by kernel_rfl) (fun u2 hs hg => ?_)
          have HT2 := Lib.hid (show Frm noB W1 u2 from HT1.out.new hg (fun i hi e => by have e2 := (show _ = _ from e); omega))
          have rN_2 := Lib.hid hs
          clear hs hg
          refine hK.out _ _ ?_ (fun hHeld => ?_)
          · exact ⟨HBc.out.frm HT2.out (fun h => h), Hbx.out.frm HT2.out (fun h => h)⟩
          clear hK K
          (try dsimp only [Act.put]); try simp only [Act.put, List.setIfInBounds_toArray, List.set_cons_zero, List.set_cons_succ]
          refine takeD (i := 12) (some 6) (v := ?_) rfl rfl (by kernel_rfl) (by kernel_rfl) (by kernel_rfl) (fun _ _ _ h => h) (Or.inl ⟨by kernel_rfl, ?_⟩) (by assumption) ?_
          rotate_left
          · (intro w hSw; (try dsimp only at hSw); have hQ0 := (hSw.1.cell 0).trans (show _ = some (Value.map (some m1)) from rfl); have hQ1 := (hSw.2.cell 0).trans (show _ = some (Value.string xn) from rfl); go_simp; try (with_reducible rfl))
          (try dsimp only [Act.put]); try simp only [Act.put, List.setIfInBounds_toArray, List.set_cons_zero, List.set_cons_succ]
          refine wpAnyH_done (by kernel_rfl) ?_ _
          refine NoPanic.normal ?_
          go_wp2_with fail
          go_meet
          exact ⟨rfl, HT2.out⟩
        exact AllReadyH.nil
      exact AllReadyH.nil
    exact AllReadyH.nil
  case rest =>
    obtain ⟨rfl, hfx⟩ := hcut
    have Hfx := Lib.hid (Hf1.out.trans hfx)
    clear hfx
    go_wp2_with fail
    go_ret
    exact ⟨rfl, Hfx.out⟩
set_option maxRecDepth 100000 in
set_option maxHeartbeats 8000000 in
theorem ctake_new (b m1 m2 k : Nat) (L : List Spn) (rows : Int → Value) (O : Nat → Prop) (xn : ByteArray) (x1 x2 x3 x5 : Int) (x4 : Bool) (w : World) (h : ColM w b m1 m2 L rows k O) (hk : k ≤ 100000) (hL : L.length ≤ 100000) (hs : xn.size ≤ 1000000) (hy : fndS L xn.data.toList = none) :
    Calls Tryd.prog 13 #[.pointer (some ⟨b, 0, none⟩), .agg #[.string xn, .int .i64 x1, .int .i64 x2, .int .i64 x3, .bool x4, .int .i64 x5]] w fun e w' => e = .returned (.bool true) ∧ ∃ rows' O', ColM w' b m1 m2 (L ++ [⟨xn, x1, x2, x3, x4, x5⟩]) rows' (k + 1) O' ∧ Frm O w w' ∧ ∀ i, O' i → O i ∨ w.heap.size ≤ i := by
  have hsz : xn.size ≤ maxLen := by simp only [maxLen]; omega
  have hf0 : Frm noB w (w.alloc (.cells #[.string xn, .int .i64 x1, .int .i64 x2, .int .i64 x3, .bool x4, .int .i64 x5] 30)) := (Frm.refl noB w).alloc _
  obtain ⟨W1, hW1⟩ : ∃ Y, Y = w.alloc (.cells #[.string xn, .int .i64 x1, .int .i64 x2, .int .i64 x3, .bool x4, .int .i64 x5] 30) := ⟨_, rfl⟩
  have hbx : Blk W1 w.heap.size #[.string xn, .int .i64 x1, .int .i64 x2, .int .i64 x3, .bool x4, .int .i64 x5] 30 := by rw [hW1]; exact Blk.made w _ _
  have hf1 : Frm noB w W1 := by rw [hW1]; exact hf0
  have hM1 := h.keep hf1
  have hBc := hM1.blk
  have hlk := fun W (hW : Frm noB W1 W) => (hM1.keep hW).look xn hs
  clear hf0
  rw [hy] at hlk
  simp only [Option.getD_none, Option.isSome_none, spnV, spn0] at hlk
  have hbw : b < w.heap.size := h.lt _ h.ob
  have hm1l : m1 < w.heap.size := h.lt _ h.o1
  have hm2l : m2 < w.heap.size := h.lt _ h.o2
  obtain ⟨R, hR⟩ : ∃ R, R = reqL xn.data.toList := ⟨_, rfl⟩
  have hRw : (Lit.int .i64 R).wf = true := by rw [hR]; exact reqL_wf _
  have hLl : (namesL L R).length ≤ 1000000 := by unfold namesL; rw [List.length_map]; exact Nat.le_trans (List.length_filter_le _ _) (by omega)
  have Hh := Lib.hid h
  have Hs := Lib.hid hs
  have Hbx := Lib.hid hbx
  have Hf1 := Lib.hid hf1
  have HM1 := Lib.hid hM1
  have HBc := Lib.hid hBc
  have Hlk := Lib.hid hlk
  have Hy := Lib.hid hy
  have Hsz := Lib.hid hsz
  have Hm1l := Lib.hid hm1l
  have Hm2l := Lib.hid hm2l
  have HLl := Lib.hid hLl
  have HR := Lib.hid hR
  have HRw := Lib.hid hRw
  clear h hs hbx hf1 hM1 hBc hlk hy hsz hm1l hm2l hLl hR hRw
  go_enter Tryd.func13, Tryd.ntmps13
  go_upto_region 1 with fail
  rw [← hW1]
  have HW1 := Lib.hid hW1
  clear hW1
  go_cut [6] (fun s6 wx => s6 = .bool false ∧ Frm noB W1 wx)
  case first =>
    refine wp_region_noPanic ?_
    refine wp_region_held_drew (S := fun X => Blk X b #[.map (some m1), .map (some m2)] 59 ∧ Blk X w.heap.size #[.string xn, .int .i64 x1, .int .i64 x2, .int .i64 x3, .bool x4, .int .i64 x5] 30) (by kernel_rfl) ?_ (fun hHeld => ?_)
    · exact ⟨HBc.out.frm (Frm.refl noB _).drew (fun h => h), Hbx.out.frm (Frm.refl noB _).drew (fun h => h)⟩
    obtain ⟨u0, hu0⟩ : ∃ Wq, Wq = W1.drew := ⟨_, rfl⟩
    try rw [← hu0] at hHeld
    rw [← hu0]
    have hgd : Frm noB W1 u0 := by rw [hu0]; exact (Frm.refl noB W1).drew
    have HT0 := Lib.hid (hgd)
    have hz0 := hgd.size
    clear hu0 hgd
    refine takeD (i := 0) (some 9) (v := ?_) rfl rfl (by kernel_rfl) (by kernel_rfl) (by kernel_rfl) (fun _ _ _ h => h) (Or.inl ⟨by kernel_rfl, ?_⟩) (by assumption) ?_
    rotate_left
    · (intro w hSw; (try dsimp only at hSw); have hQ0 := (hSw.1.cell 0).trans (show _ = some (Value.map (some m1)) from rfl); have hQ1 := (hSw.2.cell 0).trans (show _ = some (Value.string xn) from rfl); go_simp; try (with_reducible rfl))
    (try dsimp only [Act.put]); try simp only [Act.put, List.setIfInBounds_toArray, List.set_cons_zero, List.set_cons_succ]
    refine takeD (i := 1) (some 10) (v := ?_) rfl rfl (by kernel_rfl) (by kernel_rfl) (by kernel_rfl) (fun _ _ _ h => h) (Or.inl ⟨by kernel_rfl, ?_⟩) (by assumption) ?_
    rotate_left
    · (intro w hSw; (try dsimp only at hSw); have hQ0 := (hSw.1.cell 0).trans (show _ = some (Value.map (some m1)) from rfl); have hQ1 := (hSw.2.cell 0).trans (show _ = some (Value.string xn) from rfl); go_simp; try (with_reducible rfl))
    (try dsimp only [Act.put]); try simp only [Act.put, List.setIfInBounds_toArray, List.set_cons_zero, List.set_cons_succ]
    refine takeD (i := 2) (some 11) (v := ?_) rfl rfl (by kernel_rfl) (by kernel_rfl) (by kernel_rfl) (fun _ _ _ h => h) (Or.inl ⟨by kernel_rfl, ?_⟩) (by assumption) ?_
    rotate_left
    · (intro w hSw; (try dsimp only at hSw); have hQ0 := (hSw.1.cell 0).trans (show _ = some (Value.map (some m1)) from rfl); have hQ1 := (hSw.2.cell 0).trans (show _ = some (Value.string xn) from rfl); go_simp; try (with_reducible rfl))
    (try dsimp only [Act.put]); try simp only [Act.put, List.setIfInBounds_toArray, List.set_cons_zero, List.set_cons_succ]
    refine takeD (i := 3) (some 12) (v := ?_) rfl rfl (by kernel_rfl) (by kernel_rfl) (by kernel_rfl) (fun _ _ _ h => h) (Or.inl ⟨by kernel_rfl, ?_⟩) (by assumption) ?_
    rotate_left
    · (intro w hSw; (try dsimp only at hSw); have hQ0 := (hSw.1.cell 0).trans (show _ = some (Value.map (some m1)) from rfl); have hQ1 := (hSw.2.cell 0).trans (show _ = some (Value.string xn) from rfl); go_simp; try (with_reducible rfl))
    (try dsimp only [Act.put]); try simp only [Act.put, List.setIfInBounds_toArray, List.set_cons_zero, List.set_cons_succ]
    refine takeD (i := 4) (some 13) (v := ?_) rfl rfl (by kernel_rfl) (by kernel_rfl) (by kernel_rfl) (fun _ _ _ h => h) (Or.inl ⟨by kernel_rfl, ?_⟩) (by assumption) ?_
    rotate_left
    · (intro w hSw; (try dsimp only at hSw); have hQ0 := (hSw.1.cell 0).trans (show _ = some (Value.map (some m1)) from rfl); have hQ1 := (hSw.2.cell 0).trans (show _ = some (Value.string xn) from rfl); go_simp; try (with_reducible rfl))
    (try dsimp only [Act.put]); try simp only [Act.put, List.setIfInBounds_toArray, List.set_cons_zero, List.set_cons_succ]
    refine takeD (i := 5) (some 14) (v := ?_) rfl rfl (by kernel_rfl) (by kernel_rfl) (by kernel_rfl) (fun _ _ _ h => h) (Or.inl ⟨by kernel_rfl, ?_⟩) (by assumption) ?_
    rotate_left
    · (intro w hSw; (try dsimp only at hSw); have hQ0 := (hSw.1.cell 0).trans (show _ = some (Value.map (some m1)) from rfl); have hQ1 := (hSw.2.cell 0).trans (show _ = some (Value.string xn) from rfl); go_simp; try (with_reducible rfl))
    (try dsimp only [Act.put]); try simp only [Act.put, List.setIfInBounds_toArray, List.set_cons_zero, List.set_cons_succ]
    refine wpAnyH_ready (rs := [6, 10]) (by kernel_rfl) (by simp) ?_
    refine AllReadyH.cons rfl (fun K hK => ?_) ?_
    · have hlk := Hlk.out _ HT0.out
      go_simp
      clear hlk
      refine hK.out _ _ ?_ (fun hHeld => ?_)
      · exact ⟨HBc.out.frm HT0.out (fun h => h), Hbx.out.frm HT0.out (fun h => h)⟩
      clear hK K
      (try dsimp only [Act.put]); try simp only [Act.put, List.setIfInBounds_toArray, List.set_cons_zero, List.set_cons_succ]
      refine takeD (i := 7) (some 8) (v := ?_) rfl rfl (by kernel_rfl) (by kernel_rfl) (by kernel_rfl) (fun _ _ _ h => h) (Or.inl ⟨by kernel_rfl, ?_⟩) (by assumption) ?_
      rotate_left
      · (intro w hSw; (try dsimp only at hSw); have hQ0 := (hSw.1.cell 0).trans (show _ = some (Value.map (some m1)) from rfl); have hQ1 := (hSw.2.cell 0).trans (show _ = some (Value.string xn) from rfl); go_simp; try (with_reducible rfl))
      (try dsimp only [Act.put]); try simp only [Act.put, List.setIfInBounds_toArray, List.set_cons_zero, List.set_cons_succ]
      refine takeD (i := 8) (some 16) (v := ?_) rfl rfl (by kernel_rfl) (by kernel_rfl) (by kernel_rfl) (fun _ _ _ h => h) (Or.inl ⟨by kernel_rfl, ?_⟩) (by assumption) ?_
      rotate_left
      · (intro w hSw; (try dsimp only at hSw); have hQ0 := (hSw.1.cell 0).trans (show _ = some (Value.map (some m1)) from rfl); have hQ1 := (hSw.2.cell 0).trans (show _ = some (Value.string xn) from rfl); go_simp; try (with_reducible rfl))
      (try dsimp only [Act.put]); try simp only [Act.put, List.setIfInBounds_toArray, List.set_cons_zero, List.set_cons_succ]
      refine takeD (i := 9) (some 17) (v := ?_) rfl rfl (by kernel_rfl) (by kernel_rfl) (by kernel_rfl) (fun _ _ _ h => h) (Or.inl ⟨by kernel_rfl, ?_⟩) (by assumption) ?_
      rotate_left
      · (intro w hSw; (try dsimp only at hSw); have hQ0 := (hSw.1.cell 0).trans (show _ = some (Value.map (some m1)) from rfl); have hQ1 := (hSw.2.cell 0).trans (show _ = some (Value.string xn) from rfl); go_simp; try (with_reducible rfl))
      (try dsimp only [Act.put]); try simp only [Act.put, List.setIfInBounds_toArray, List.set_cons_zero, List.set_cons_succ]
      refine wpAnyH_ready (rs := [10]) (by kernel_rfl) (by simp) ?_
      refine AllReadyH.cons rfl (fun K hK => ?_) ?_
      · go_simp
        generalize hw : World.alloc u0 _ = u1
        have hg : Frm noB u0 u1 := by rw [← hw]; exact (Frm.refl noB u0).alloc _
        have HT1 := Lib.hid (HT0.out.trans hg)
        have hz1 := hg.size
        have rN_1 := Lib.hid (show Blk u1 u0.heap.size #[.string ⟨#[]⟩, .int .i64 0, .int .i64 0, .int .i64 0, .bool false, .int .i64 0] 30 by rw [← hw]; exact Blk.made u0 _ _)
        have hl1 : u0.heap.size < u1.heap.size := by rw [← hw]; simp
        clear hg hw
        refine hK.out _ _ ?_ (fun hHeld => ?_)
        · exact ⟨HBc.out.frm HT1.out (fun h => h), Hbx.out.frm HT1.out (fun h => h)⟩
        clear hK K
        (try dsimp only [Act.put]); try simp only [Act.put, List.setIfInBounds_toArray, List.set_cons_zero, List.set_cons_succ]
        refine wpAnyH_ready (rs := [11]) (by kernel_rfl) (by simp) ?_
        refine AllReadyH.cons rfl (fun K hK => ?_) ?_
        · rw [if_pos (by rfl)]
          refine wp_store_blk 30 _ _ (by rfl) _ (by rfl) _ _ rN_1.out #[.string ⟨#[]⟩, .int .i64 0, .int .i64 0, .int .i64 0, .bool false, .int .i64 0] (by rfl) (by exact info_spz) (by rfl) (by kernel_rfl) (fun u2 hs hg => ?_)
          have HT2 := Lib.hid (show Frm noB W1 u2 from HT1.out.new hg (fun i hi e => by have e2 := (show _ = _ from e); omega))
          have rN_2 := Lib.hid hs
          clear hs hg
          refine hK.out _ _ ?_ (fun hHeld => ?_)
          · exact ⟨HBc.out.frm HT2.out (fun h => h), Hbx.out.frm HT2.out (fun h => h)⟩
          clear hK K
          (try dsimp only [Act.put]); try simp only [Act.put, List.setIfInBounds_toArray, List.set_cons_zero, List.set_cons_succ]
          refine takeD (i := 12) (some 6) (v := ?_) rfl rfl (by kernel_rfl) (by kernel_rfl) (by kernel_rfl) (fun _ _ _ h => h) (Or.inl ⟨by kernel_rfl, ?_⟩) (by assumption) ?_
          rotate_left
          · (intro w hSw; (try dsimp only at hSw); have hQ0 := (hSw.1.cell 0).trans (show _ = some (Value.map (some m1)) from rfl); have hQ1 := (hSw.2.cell 0).trans (show _ = some (Value.string xn) from rfl); go_simp; try (with_reducible rfl))
          (try dsimp only [Act.put]); try simp only [Act.put, List.setIfInBounds_toArray, List.set_cons_zero, List.set_cons_succ]
          refine wpAnyH_done (by kernel_rfl) ?_ _
          refine NoPanic.normal ?_
          go_wp2_with fail
          go_meet
          exact ⟨rfl, HT2.out⟩
        exact AllReadyH.nil
      exact AllReadyH.nil
    refine AllReadyH.cons rfl (fun K hK => ?_) ?_
    · go_simp
      generalize hw : World.alloc u0 _ = u1
      have hg : Frm noB u0 u1 := by rw [← hw]; exact (Frm.refl noB u0).alloc _
      have HT1 := Lib.hid (HT0.out.trans hg)
      have hz1 := hg.size
      have rN_1 := Lib.hid (show Blk u1 u0.heap.size #[.string ⟨#[]⟩, .int .i64 0, .int .i64 0, .int .i64 0, .bool false, .int .i64 0] 30 by rw [← hw]; exact Blk.made u0 _ _)
      have hl1 : u0.heap.size < u1.heap.size := by rw [← hw]; simp
      clear hg hw
      refine hK.out _ _ ?_ (fun hHeld => ?_)
      · exact ⟨HBc.out.frm HT1.out (fun h => h), Hbx.out.frm HT1.out (fun h => h)⟩
      clear hK K
      (try dsimp only [Act.put]); try simp only [Act.put, List.setIfInBounds_toArray, List.set_cons_zero, List.set_cons_succ]
      refine wpAnyH_ready (rs := [6]) (by kernel_rfl) (by simp) ?_
      refine AllReadyH.cons rfl (fun K hK => ?_) ?_
      · have hlk := Hlk.out _ HT1.out
        go_simp
        clear hlk
        refine hK.out _ _ ?_ (fun hHeld => ?_)
        · exact ⟨HBc.out.frm HT1.out (fun h => h), Hbx.out.frm HT1.out (fun h => h)⟩
        clear hK K
        (try dsimp only [Act.put]); try simp only [Act.put, List.setIfInBounds_toArray, List.set_cons_zero, List.set_cons_succ]
        refine takeD (i := 7) (some 8) (v := ?_) rfl rfl (by kernel_rfl) (by kernel_rfl) (by kernel_rfl) (fun _ _ _ h => h) (Or.inl ⟨by kernel_rfl, ?_⟩) (by assumption) ?_
        rotate_left
        · (intro w hSw; (try dsimp only at hSw); have hQ0 := (hSw.1.cell 0).trans (show _ = some (Value.map (some m1)) from rfl); have hQ1 := (hSw.2.cell 0).trans (show _ = some (Value.string xn) from rfl); go_simp; try (with_reducible rfl))
        (try dsimp only [Act.put]); try simp only [Act.put, List.setIfInBounds_toArray, List.set_cons_zero, List.set_cons_succ]
        refine takeD (i := 8) (some 16) (v := ?_) rfl rfl (by kernel_rfl) (by kernel_rfl) (by kernel_rfl) (fun _ _ _ h => h) (Or.inl ⟨by kernel_rfl, ?_⟩) (by assumption) ?_
        rotate_left
        · (intro w hSw; (try dsimp only at hSw); have hQ0 := (hSw.1.cell 0).trans (show _ = some (Value.map (some m1)) from rfl); have hQ1 := (hSw.2.cell 0).trans (show _ = some (Value.string xn) from rfl); go_simp; try (with_reducible rfl))
        (try dsimp only [Act.put]); try simp only [Act.put, List.setIfInBounds_toArray, List.set_cons_zero, List.set_cons_succ]
        refine takeD (i := 9) (some 17) (v := ?_) rfl rfl (by kernel_rfl) (by kernel_rfl) (by kernel_rfl) (fun _ _ _ h => h) (Or.inl ⟨by kernel_rfl, ?_⟩) (by assumption) ?_
        rotate_left
        · (intro w hSw; (try dsimp only at hSw); have hQ0 := (hSw.1.cell 0).trans (show _ = some (Value.map (some m1)) from rfl); have hQ1 := (hSw.2.cell 0).trans (show _ = some (Value.string xn) from rfl); go_simp; try (with_reducible rfl))
        (try dsimp only [Act.put]); try simp only [Act.put, List.setIfInBounds_toArray, List.set_cons_zero, List.set_cons_succ]
        refine wpAnyH_ready (rs := [11]) (by kernel_rfl) (by simp) ?_
        refine AllReadyH.cons rfl (fun K hK => ?_) ?_
        · rw [if_pos (by rfl)]
          refine wp_store_blk 30 _ _ (by rfl) _ (by rfl) _ _ rN_1.out #[.string ⟨#[]⟩, .int .i64 0, .int .i64 0, .int .i64 0, .bool false, .int .i64 0] (by rfl) (by exact info_spz) (by rfl) (by kernel_rfl) (fun u2 hs hg => ?_)
          have HT2 := Lib.hid (show Frm noB W1 u2 from HT1.out.new hg (fun i hi e => by have e2 := (show _ = _ from e); omega))
          have rN_2 := Lib.hid hs
          clear hs hg
          refine hK.out _ _ ?_ (fun hHeld => ?_)
          · exact ⟨HBc.out.frm HT2.out (fun h => h), Hbx.out.frm HT2.out (fun h => h)⟩
          clear hK K
          (try dsimp only [Act.put]); try simp only [Act.put, List.setIfInBounds_toArray, List.set_cons_zero, List.set_cons_succ]
          refine takeD (i := 12) (some 6) (v := ?_) rfl rfl (by kernel_rfl) (by kernel_rfl) (by kernel_rfl) (fun _ _ _ h => h) (Or.inl ⟨by kernel_rfl, ?_⟩) (by assumption) ?_
          rotate_left
          · (intro w hSw; (try dsimp only at hSw); have hQ0 := (hSw.1.cell 0).trans (show _ = some (Value.map (some m1)) from rfl); have hQ1 := (hSw.2.cell 0).trans (show _ = some (Value.string xn) from rfl); go_simp; try (with_reducible rfl))
          (try dsimp only [Act.put]); try simp only [Act.put, List.setIfInBounds_toArray, List.set_cons_zero, List.set_cons_succ]
          refine wpAnyH_done (by kernel_rfl) ?_ _
          refine NoPanic.normal ?_
          go_wp2_with fail
          go_meet
          exact ⟨rfl, HT2.out⟩
        exact AllReadyH.nil
      exact AllReadyH.nil
    exact AllReadyH.nil
  case rest =>
    obtain ⟨rfl, hfx⟩ := hcut
    have hMm := HM1.out.keep hfx
    have hBc3 := HBc.out.frm hfx (fun h => h)
    have hbx3 := Hbx.out.frm hfx (fun h => h)
    have hfw3 := Hf1.out.trans hfx
    obtain ⟨sz1, hsp⟩ := hMm.spans
    obtain ⟨wq, hwq⟩ : ∃ W : World, W = wc := ⟨_, rfl⟩
    subst hwq
    have Hfx := Lib.hid hfx
    have HMm := Lib.hid hMm
    have HBc3 := Lib.hid hBc3
    have Hbx3 := Lib.hid hbx3
    have Hfw3 := Lib.hid hfw3
    have Hsp := Lib.hid hsp
    clear hfx hMm hBc3 hbx3 hfw3 hsp
    go_upto_region 4 with fail
    go_cut [22] (fun s22 wx => ∃ sz, VMap wx Tryd.prog 9 m1 (k + 1) sz (setF (spansF L) (.string xn.data.toList) (some (.agg #[.string xn, .int .i64 x1, .int .i64 x2, .int .i64 x3, .bool x4, .int .i64 x5]))) ∧ Frm (oneB m1) wq wx)
    case first =>
      refine wp_region_noPanic ?_
      refine wp_region_held_drew (S := fun X => Blk X b #[.map (some m1), .map (some m2)] 59 ∧ Blk X w.heap.size #[.string xn, .int .i64 x1, .int .i64 x2, .int .i64 x3, .bool x4, .int .i64 x5] 30) (by kernel_rfl) ?_ (fun hHeld => ?_)
      · exact ⟨HBc3.out.frm (Frm.refl noB _).drew (fun h => h), Hbx3.out.frm (Frm.refl noB _).drew (fun h => h)⟩
      obtain ⟨u0, hu0⟩ : ∃ Wq, Wq = wq.drew := ⟨_, rfl⟩
      try rw [← hu0] at hHeld
      rw [← hu0]
      have hgd : Frm noB wq u0 := by rw [hu0]; exact (Frm.refl noB wq).drew
      have HT0 := Lib.hid (hgd)
      have hz0 := hgd.size
      clear hu0 hgd
      refine takeD (i := 0) (some 19) (v := ?_) rfl rfl (by kernel_rfl) (by kernel_rfl) (by kernel_rfl) (fun _ _ _ h => h) (Or.inl ⟨by kernel_rfl, ?_⟩) (by assumption) ?_
      rotate_left
      · (intro w hSw; (try dsimp only at hSw); have hQ0 := (hSw.1.cell 0).trans (show _ = some (Value.map (some m1)) from rfl); have hR0 := (hSw.2.cell 0).trans (show _ = some (Value.string xn) from rfl); have hR1 := (hSw.2.cell 1).trans (show _ = some (Value.int .i64 x1) from rfl); have hR2 := (hSw.2.cell 2).trans (show _ = some (Value.int .i64 x2) from rfl); have hR3 := (hSw.2.cell 3).trans (show _ = some (Value.int .i64 x3) from rfl); have hR4 := (hSw.2.cell 4).trans (show _ = some (Value.bool x4) from rfl); have hR5 := (hSw.2.cell 5).trans (show _ = some (Value.int .i64 x5) from rfl); go_simp; try (with_reducible rfl))
      (try dsimp only [Act.put]); try simp only [Act.put, List.setIfInBounds_toArray, List.set_cons_zero, List.set_cons_succ]
      refine takeD (i := 1) (some 20) (v := ?_) rfl rfl (by kernel_rfl) (by kernel_rfl) (by kernel_rfl) (fun _ _ _ h => h) (Or.inl ⟨by kernel_rfl, ?_⟩) (by assumption) ?_
      rotate_left
      · (intro w hSw; (try dsimp only at hSw); have hQ0 := (hSw.1.cell 0).trans (show _ = some (Value.map (some m1)) from rfl); have hR0 := (hSw.2.cell 0).trans (show _ = some (Value.string xn) from rfl); have hR1 := (hSw.2.cell 1).trans (show _ = some (Value.int .i64 x1) from rfl); have hR2 := (hSw.2.cell 2).trans (show _ = some (Value.int .i64 x2) from rfl); have hR3 := (hSw.2.cell 3).trans (show _ = some (Value.int .i64 x3) from rfl); have hR4 := (hSw.2.cell 4).trans (show _ = some (Value.bool x4) from rfl); have hR5 := (hSw.2.cell 5).trans (show _ = some (Value.int .i64 x5) from rfl); go_simp; try (with_reducible rfl))
      (try dsimp only [Act.put]); try simp only [Act.put, List.setIfInBounds_toArray, List.set_cons_zero, List.set_cons_succ]
      refine takeD (i := 2) (some 21) (v := ?_) rfl rfl (by kernel_rfl) (by kernel_rfl) (by kernel_rfl) (fun _ _ _ h => h) (Or.inl ⟨by kernel_rfl, ?_⟩) (by assumption) ?_
      rotate_left
      · (intro w hSw; (try dsimp only at hSw); have hQ0 := (hSw.1.cell 0).trans (show _ = some (Value.map (some m1)) from rfl); have hR0 := (hSw.2.cell 0).trans (show _ = some (Value.string xn) from rfl); have hR1 := (hSw.2.cell 1).trans (show _ = some (Value.int .i64 x1) from rfl); have hR2 := (hSw.2.cell 2).trans (show _ = some (Value.int .i64 x2) from rfl); have hR3 := (hSw.2.cell 3).trans (show _ = some (Value.int .i64 x3) from rfl); have hR4 := (hSw.2.cell 4).trans (show _ = some (Value.bool x4) from rfl); have hR5 := (hSw.2.cell 5).trans (show _ = some (Value.int .i64 x5) from rfl); go_simp; try (with_reducible rfl))
      (try dsimp only [Act.put]); try simp only [Act.put, List.setIfInBounds_toArray, List.set_cons_zero, List.set_cons_succ]
      refine takeD (i := 3) (some 22) (v := ?_) rfl rfl (by kernel_rfl) (by kernel_rfl) (by kernel_rfl) (fun _ _ _ h => h) (Or.inl ⟨by kernel_rfl, ?_⟩) (by assumption) ?_
      rotate_left
      · (intro w hSw; (try dsimp only at hSw); have hQ0 := (hSw.1.cell 0).trans (show _ = some (Value.map (some m1)) from rfl); have hR0 := (hSw.2.cell 0).trans (show _ = some (Value.string xn) from rfl); have hR1 := (hSw.2.cell 1).trans (show _ = some (Value.int .i64 x1) from rfl); have hR2 := (hSw.2.cell 2).trans (show _ = some (Value.int .i64 x2) from rfl); have hR3 := (hSw.2.cell 3).trans (show _ = some (Value.int .i64 x3) from rfl); have hR4 := (hSw.2.cell 4).trans (show _ = some (Value.bool x4) from rfl); have hR5 := (hSw.2.cell 5).trans (show _ = some (Value.int .i64 x5) from rfl); go_simp; try (with_reducible rfl))
      (try dsimp only [Act.put]); try simp only [Act.put, List.setIfInBounds_toArray, List.set_cons_zero, List.set_cons_succ]
      refine takeD (i := 4) (some 23) (v := ?_) rfl rfl (by kernel_rfl) (by kernel_rfl) (by kernel_rfl) (fun _ _ _ h => h) (Or.inl ⟨by kernel_rfl, ?_⟩) (by assumption) ?_
      rotate_left
      · (intro w hSw; (try dsimp only at hSw); have hQ0 := (hSw.1.cell 0).trans (show _ = some (Value.map (some m1)) from rfl); have hR0 := (hSw.2.cell 0).trans (show _ = some (Value.string xn) from rfl); have hR1 := (hSw.2.cell 1).trans (show _ = some (Value.int .i64 x1) from rfl); have hR2 := (hSw.2.cell 2).trans (show _ = some (Value.int .i64 x2) from rfl); have hR3 := (hSw.2.cell 3).trans (show _ = some (Value.int .i64 x3) from rfl); have hR4 := (hSw.2.cell 4).trans (show _ = some (Value.bool x4) from rfl); have hR5 := (hSw.2.cell 5).trans (show _ = some (Value.int .i64 x5) from rfl); go_simp; try (with_reducible rfl))
      (try dsimp only [Act.put]); try simp only [Act.put, List.setIfInBounds_toArray, List.set_cons_zero, List.set_cons_succ]
      refine takeD (i := 5) (some 24) (v := ?_) rfl rfl (by kernel_rfl) (by kernel_rfl) (by kernel_rfl) (fun _ _ _ h => h) (Or.inl ⟨by kernel_rfl, ?_⟩) (by assumption) ?_
      rotate_left
      · (intro w hSw; (try dsimp only at hSw); have hQ0 := (hSw.1.cell 0).trans (show _ = some (Value.map (some m1)) from rfl); have hR0 := (hSw.2.cell 0).trans (show _ = some (Value.string xn) from rfl); have hR1 := (hSw.2.cell 1).trans (show _ = some (Value.int .i64 x1) from rfl); have hR2 := (hSw.2.cell 2).trans (show _ = some (Value.int .i64 x2) from rfl); have hR3 := (hSw.2.cell 3).trans (show _ = some (Value.int .i64 x3) from rfl); have hR4 := (hSw.2.cell 4).trans (show _ = some (Value.bool x4) from rfl); have hR5 := (hSw.2.cell 5).trans (show _ = some (Value.int .i64 x5) from rfl); go_simp; try (with_reducible rfl))
      (try dsimp only [Act.put]); try simp only [Act.put, List.setIfInBounds_toArray, List.set_cons_zero, List.set_cons_succ]
      refine takeD (i := 6) (some 25) (v := ?_) rfl rfl (by kernel_rfl) (by kernel_rfl) (by kernel_rfl) (fun _ _ _ h => h) (Or.inl ⟨by kernel_rfl, ?_⟩) (by assumption) ?_
      rotate_left
      · (intro w hSw; (try dsimp only at hSw); have hQ0 := (hSw.1.cell 0).trans (show _ = some (Value.map (some m1)) from rfl); have hR0 := (hSw.2.cell 0).trans (show _ = some (Value.string xn) from rfl); have hR1 := (hSw.2.cell 1).trans (show _ = some (Value.int .i64 x1) from rfl); have hR2 := (hSw.2.cell 2).trans (show _ = some (Value.int .i64 x2) from rfl); have hR3 := (hSw.2.cell 3).trans (show _ = some (Value.int .i64 x3) from rfl); have hR4 := (hSw.2.cell 4).trans (show _ = some (Value.bool x4) from rfl); have hR5 := (hSw.2.cell 5).trans (show _ = some (Value.int .i64 x5) from rfl); go_simp; try (with_reducible rfl))
      (try dsimp only [Act.put]); try simp only [Act.put, List.setIfInBounds_toArray, List.set_cons_zero, List.set_cons_succ]
      refine wpAnyH_ready (rs := [7]) (by kernel_rfl) (by simp) ?_
      refine AllReadyH.cons rfl (fun K hK => ?_) ?_
      · obtain ⟨u1, hrun, hv, hg⟩ := (Hsp.out.frm HT0.out (fun h => h)).store (t := 56) keyS Tryd.underlying56 (by simp only [maxLen]; omega) (Go.WideMaps.keyOf_string_mk Tryd.underlying9 Hsz.out) (.agg #[.string xn, .int .i64 x1, .int .i64 x2, .int .i64 x3, .bool x4, .int .i64 x5])
        go_simp
        have HV := Lib.hid hv
        have HG := Lib.hid ((HT0.out.mono (fun _ _ h => h.elim)).trans hg)
        clear hv hg hrun
        refine hK.out _ _ ?_ (fun hHeld => ?_)
        · exact ⟨HBc3.out.frm HG.out (fun e => HMm.out.b1 e), Hbx3.out.frm HG.out (fun e => by have e2 : w.heap.size = m1 := e; have := Hm1l.out; omega)⟩
        clear hK K
        (try dsimp only [Act.put]); try simp only [Act.put, List.setIfInBounds_toArray, List.set_cons_zero, List.set_cons_succ]
        refine wpAnyH_done (by kernel_rfl) ?_ _
        refine NoPanic.normal ?_
        go_wp2_with fail
        go_meet
        exact ⟨_, HV.out, HG.out⟩
      exact AllReadyH.nil
    case rest =>
      obtain ⟨szA, hVA, hfA⟩ := hcut
      have hbx4 := Hbx3.out.frm hfA (fun e => by have e2 : w.heap.size = m1 := e; have := Hm1l.out; omega)
      have hBc4 := HBc3.out.frm hfA (fun e => HMm.out.b1 e)
      have c0 := (hbx4.cell 0).trans (show _ = some (Value.string xn) from rfl)
      have cl := hbx4.lt
      obtain ⟨wr, hwr⟩ : ∃ W : World, W = wc := ⟨_, rfl⟩
      subst hwr
      have HVA := Lib.hid hVA
      have HfA := Lib.hid hfA
      have Hbx4 := Lib.hid hbx4
      have HBc4 := Lib.hid hBc4
      clear hVA hfA hbx4 hBc4
      go_wp2_with fail
      refine (req_any xn _ Hs.out).mono ?_
      rintro e w5 ⟨rfl, rfl⟩
      clear c0 cl
      rw [← HR.out]
      have hMq := HMm.out
      obtain ⟨sz2, hnq⟩ := hMq.names
      have hnm := hnq.frm HfA.out hMq.m12.symm
      have hrow := (hMq.row R).frm HfA.out (fun i hi => (hMq.rowO R i hi).2.2.1)
      have hlkN := fun W (hW : Frm noB wr W) => by
        have := (hnm.frm hW (fun h => h)).look (t := 57) keyI Tryd.underlying57 (zeroSt W) (Maps.keyOf_int_mk Tryd.underlying3 HRw.out)
        rwa [namesF_getD hMq.none] at this
      have hrl : ∀ i, (rows R).ownBlock = some i → i < w.heap.size := fun i hi => Hh.out.lt i (Hh.out.rowO R i hi).1
      have hzr : w.heap.size < wr.heap.size := Hbx4.out.lt
      have HMq := Lib.hid hMq
      have Hnq := Lib.hid hnq
      have Hnm := Lib.hid hnm
      have Hrow := Lib.hid hrow
      have HlkN := Lib.hid hlkN
      have Hrl := Lib.hid hrl
      clear hMq hnq hnm hrow hlkN hrl
      go_upto_region 6 with fail
      go_cut [43] (fun s43 wx => ∃ va vn vc w1 w2 sz, Frm noB wr w1 ∧ wr.heap.size < w1.heap.size ∧ Own strE w2 0 9 (.slice va vn vc) (namesL L R ++ [xn]) ∧ Frm (fun i => some i = (rows R).ownBlock) w1 w2 ∧
        ((Value.slice va vn vc).ownBlock = (rows R).ownBlock ∨ (Value.slice va vn vc).ownBlock = some w1.heap.size) ∧ VMap wx Tryd.prog 3 m2 (k + 1) sz (setF (namesF L rows) (.int .i64 R) (some (.slice va vn vc))) ∧ Frm (oneB m2) w2 wx)
      case first =>
        refine wp_region_noPanic ?_
        refine wp_region_held_drew (S := fun X => Blk X b #[.map (some m1), .map (some m2)] 59 ∧ Blk X w.heap.size #[.string xn, .int .i64 x1, .int .i64 x2, .int .i64 x3, .bool x4, .int .i64 x5] 30) (by kernel_rfl) ?_ (fun hHeld => ?_)
        · exact ⟨HBc4.out.frm (Frm.refl noB _).drew (fun h => h), Hbx4.out.frm (Frm.refl noB _).drew (fun h => h)⟩
        obtain ⟨u0, hu0⟩ : ∃ Wq, Wq = wr.drew := ⟨_, rfl⟩
        try rw [← hu0] at hHeld
        rw [← hu0]
        have hgd : Frm noB wr u0 := by rw [hu0]; exact (Frm.refl noB wr).drew
        have HT0 := Lib.hid (hgd)
        have hz0 := hgd.size
        clear hu0 hgd
        refine takeD (i := 0) (some 29) (v := ?_) rfl rfl (by kernel_rfl) (by kernel_rfl) (by kernel_rfl) (fun _ _ _ h => h) (Or.inl ⟨by kernel_rfl, ?_⟩) (by assumption) ?_
        rotate_left
        · (intro w hSw; (try dsimp only at hSw); have hQ0 := (hSw.1.cell 1).trans (show _ = some (Value.map (some m2)) from rfl); have hQ1 := (hSw.2.cell 0).trans (show _ = some (Value.string xn) from rfl); go_simp; try (with_reducible rfl))
        (try dsimp only [Act.put]); try simp only [Act.put, List.setIfInBounds_toArray, List.set_cons_zero, List.set_cons_succ]
        refine takeD (i := 1) (some 30) (v := ?_) rfl rfl (by kernel_rfl) (by kernel_rfl) (by kernel_rfl) (fun _ _ _ h => h) (Or.inl ⟨by kernel_rfl, ?_⟩) (by assumption) ?_
        rotate_left
        · (intro w hSw; (try dsimp only at hSw); have hQ0 := (hSw.1.cell 1).trans (show _ = some (Value.map (some m2)) from rfl); have hQ1 := (hSw.2.cell 0).trans (show _ = some (Value.string xn) from rfl); go_simp; try (with_reducible rfl))
        (try dsimp only [Act.put]); try simp only [Act.put, List.setIfInBounds_toArray, List.set_cons_zero, List.set_cons_succ]
        refine takeD (i := 2) (some 31) (v := ?_) rfl rfl (by kernel_rfl) (by kernel_rfl) (by kernel_rfl) (fun _ _ _ h => h) (Or.inl ⟨by kernel_rfl, ?_⟩) (by assumption) ?_
        rotate_left
        · (intro w hSw; (try dsimp only at hSw); have hQ0 := (hSw.1.cell 1).trans (show _ = some (Value.map (some m2)) from rfl); have hQ1 := (hSw.2.cell 0).trans (show _ = some (Value.string xn) from rfl); go_simp; try (with_reducible rfl))
        (try dsimp only [Act.put]); try simp only [Act.put, List.setIfInBounds_toArray, List.set_cons_zero, List.set_cons_succ]
        refine takeD (i := 3) (some 32) (v := ?_) rfl rfl (by kernel_rfl) (by kernel_rfl) (by kernel_rfl) (fun _ _ _ h => h) (Or.inl ⟨by kernel_rfl, ?_⟩) (by assumption) ?_
        rotate_left
        · (intro w hSw; (try dsimp only at hSw); have hQ0 := (hSw.1.cell 1).trans (show _ = some (Value.map (some m2)) from rfl); have hQ1 := (hSw.2.cell 0).trans (show _ = some (Value.string xn) from rfl); go_simp; try (with_reducible rfl))
        (try dsimp only [Act.put]); try simp only [Act.put, List.setIfInBounds_toArray, List.set_cons_zero, List.set_cons_succ]
        refine takeD (i := 4) (some 33) (v := ?_) rfl rfl (by kernel_rfl) (by kernel_rfl) (by kernel_rfl) (fun _ _ _ h => h) (Or.inl ⟨by kernel_rfl, ?_⟩) (by assumption) ?_
        rotate_left
        · (intro w hSw; (try dsimp only at hSw); have hQ0 := (hSw.1.cell 1).trans (show _ = some (Value.map (some m2)) from rfl); have hQ1 := (hSw.2.cell 0).trans (show _ = some (Value.string xn) from rfl); go_simp; try (with_reducible rfl))
        (try dsimp only [Act.put]); try simp only [Act.put, List.setIfInBounds_toArray, List.set_cons_zero, List.set_cons_succ]
        refine takeD (i := 5) (some 34) (v := ?_) rfl rfl (by kernel_rfl) (by kernel_rfl) (by kernel_rfl) (fun _ _ _ h => h) (Or.inl ⟨by kernel_rfl, ?_⟩) (by assumption) ?_
        rotate_left
        · (intro w hSw; (try dsimp only at hSw); have hQ0 := (hSw.1.cell 1).trans (show _ = some (Value.map (some m2)) from rfl); have hQ1 := (hSw.2.cell 0).trans (show _ = some (Value.string xn) from rfl); go_simp; try (with_reducible rfl))
        (try dsimp only [Act.put]); try simp only [Act.put, List.setIfInBounds_toArray, List.set_cons_zero, List.set_cons_succ]
        refine takeD (i := 6) (some 35) (v := ?_) rfl rfl (by kernel_rfl) (by kernel_rfl) (by kernel_rfl) (fun _ _ _ h => h) (Or.inl ⟨by kernel_rfl, ?_⟩) (by assumption) ?_
        rotate_left
        · (intro w hSw; (try dsimp only at hSw); have hQ0 := (hSw.1.cell 1).trans (show _ = some (Value.map (some m2)) from rfl); have hQ1 := (hSw.2.cell 0).trans (show _ = some (Value.string xn) from rfl); go_simp; try (with_reducible rfl))
        (try dsimp only [Act.put]); try simp only [Act.put, List.setIfInBounds_toArray, List.set_cons_zero, List.set_cons_succ]
        refine takeD (i := 7) (some 36) (v := ?_) rfl rfl (by kernel_rfl) (by kernel_rfl) (by kernel_rfl) (fun _ _ _ h => h) (Or.inl ⟨by kernel_rfl, ?_⟩) (by assumption) ?_
        rotate_left
        · (intro w hSw; (try dsimp only at hSw); have hQ0 := (hSw.1.cell 1).trans (show _ = some (Value.map (some m2)) from rfl); have hQ1 := (hSw.2.cell 0).trans (show _ = some (Value.string xn) from rfl); go_simp; try (with_reducible rfl))
        (try dsimp only [Act.put]); try simp only [Act.put, List.setIfInBounds_toArray, List.set_cons_zero, List.set_cons_succ]
        refine takeD (i := 8) (some 37) (v := ?_) rfl rfl (by kernel_rfl) (by kernel_rfl) (by kernel_rfl) (fun _ _ _ h => h) (Or.inl ⟨by kernel_rfl, ?_⟩) (by assumption) ?_
        rotate_left
        · (intro w hSw; (try dsimp only at hSw); have hQ0 := (hSw.1.cell 1).trans (show _ = some (Value.map (some m2)) from rfl); have hQ1 := (hSw.2.cell 0).trans (show _ = some (Value.string xn) from rfl); go_simp; try (with_reducible rfl))
        (try dsimp only [Act.put]); try simp only [Act.put, List.setIfInBounds_toArray, List.set_cons_zero, List.set_cons_succ]
        refine takeD (i := 9) (some 38) (v := ?_) rfl rfl (by kernel_rfl) (by kernel_rfl) (by kernel_rfl) (fun _ _ _ h => h) (Or.inl ⟨by kernel_rfl, ?_⟩) (by assumption) ?_
        rotate_left
        · (intro w hSw; (try dsimp only at hSw); have hQ0 := (hSw.1.cell 1).trans (show _ = some (Value.map (some m2)) from rfl); have hQ1 := (hSw.2.cell 0).trans (show _ = some (Value.string xn) from rfl); go_simp; try (with_reducible rfl))
        (try dsimp only [Act.put]); try simp only [Act.put, List.setIfInBounds_toArray, List.set_cons_zero, List.set_cons_succ]
        refine takeD (i := 11) (some 40) (v := ?_) rfl rfl (by kernel_rfl) (by kernel_rfl) (by kernel_rfl) (fun _ _ _ h => h) (Or.inl ⟨by kernel_rfl, ?_⟩) (by assumption) ?_
        rotate_left
        · (intro w hSw; (try dsimp only at hSw); have hQ0 := (hSw.1.cell 1).trans (show _ = some (Value.map (some m2)) from rfl); have hQ1 := (hSw.2.cell 0).trans (show _ = some (Value.string xn) from rfl); go_simp; try (with_reducible rfl))
        (try dsimp only [Act.put]); try simp only [Act.put, List.setIfInBounds_toArray, List.set_cons_zero, List.set_cons_succ]
        refine takeD (i := 12) (some 41) (v := ?_) rfl rfl (by kernel_rfl) (by kernel_rfl) (by kernel_rfl) (fun _ _ _ h => h) (Or.inl ⟨by kernel_rfl, ?_⟩) (by assumption) ?_
        rotate_left
        · (intro w hSw; (try dsimp only at hSw); have hQ0 := (hSw.1.cell 1).trans (show _ = some (Value.map (some m2)) from rfl); have hQ1 := (hSw.2.cell 0).trans (show _ = some (Value.string xn) from rfl); go_simp; try (with_reducible rfl))
        (try dsimp only [Act.put]); try simp only [Act.put, List.setIfInBounds_toArray, List.set_cons_zero, List.set_cons_succ]
        refine wpAnyH_ready (rs := [10, 13]) (by kernel_rfl) (by simp) ?_
        refine AllReadyH.cons rfl (fun K hK => ?_) ?_
        · have hlk := HlkN.out _ HT0.out
          go_simp
          clear hlk
          refine hK.out _ _ ?_ (fun hHeld => ?_)
          · exact ⟨HBc4.out.frm HT0.out (fun h => h), Hbx4.out.frm HT0.out (fun h => h)⟩
          clear hK K
          (try dsimp only [Act.put]); try simp only [Act.put, List.setIfInBounds_toArray, List.set_cons_zero, List.set_cons_succ]
          refine wpAnyH_ready (rs := [13]) (by kernel_rfl) (by simp) ?_
          refine AllReadyH.cons rfl (fun K hK => ?_) ?_
          · go_simp
            generalize hw : World.alloc u0 _ = u1
            have hg : Frm noB u0 u1 := by rw [← hw]; exact (Frm.refl noB u0).alloc _
            have HT1 := Lib.hid (HT0.out.trans hg)
            have hz1 := hg.size
            have rL_1 := Lib.hid (show Blk u1 u0.heap.size #[.string xn] 9 by rw [← hw]; exact Blk.made u0 _ _)
            have hl1 : u0.heap.size < u1.heap.size := by rw [← hw]; simp
            clear hg hw
            refine hK.out _ _ ?_ (fun hHeld => ?_)
            · exact ⟨HBc4.out.frm HT1.out (fun h => h), Hbx4.out.frm HT1.out (fun h => h)⟩
            clear hK K
            (try dsimp only [Act.put]); try simp only [Act.put, List.setIfInBounds_toArray, List.set_cons_zero, List.set_cons_succ]
            refine wpAnyH_ready (rs := [14]) (by kernel_rfl) (by simp) ?_
            refine AllReadyH.cons rfl (fun K hK => ?_) ?_
            · rw [if_pos (by rfl)]
              obtain ⟨iq, hiq, hz9, h19, h29⟩ := info_parts info_str
              have HTP := HT1
              have hw1 : wr.heap.size < u1.heap.size := by have := rL_1.out.lt; omega
              refine wp_app1g strE _ _ _ 61 (by rfl) 0 9 iq _ 16 Tryd.underlying61 hiq hz9 h19 h29 rfl (by decide) (by omega) _ _ (by rfl) (Hrow.out.keep HT1.out) xn _ (by rfl) _ rL_1.out (by rfl) HLl.out (Nat.zero_le _) (fun v2 u2 ho hg hba hn0 => ?_)
              obtain ⟨va, vc, hvs, _⟩ := ho.shape
              obtain ⟨vn, hvn⟩ : ∃ n, n = (namesL L R ++ [xn]).length := ⟨_, rfl⟩
              rw [← hvn] at hvs
              subst hvs
              have HO := Lib.hid ho
              have HA := Lib.hid hg
              have Hba := Lib.hid hba
              clear hvn ho hg hba hn0 hiq hz9 h19 h29
              change K (Act.put _ (some 43) _) _
              refine hK.out _ _ ?_ (fun hHeld => ?_)
              · exact ⟨(HBc4.out.frm HTP.out (fun h => h)).frm HA.out (fun e => (HMm.out.rowO _ b e.symm).2.1 rfl), (Hbx4.out.frm HTP.out (fun h => h)).frm HA.out (fun e => by have h1 := Hrl.out _ e.symm; omega)⟩
              clear hK K
              (try dsimp only [Act.put]); try simp only [Act.put, List.setIfInBounds_toArray, List.set_cons_zero, List.set_cons_succ]
              refine wpAnyH_ready (rs := [15]) (by kernel_rfl) (by simp) ?_
              refine AllReadyH.cons rfl (fun K hK => ?_) ?_
              · obtain ⟨u3, hrun, hv, hg⟩ := (((Hnm.out.frm HTP.out (fun h => h)).frm HA.out (fun e => (HMm.out.rowO _ m2 e.symm).2.2.2 rfl))).store (t := 57) keyI Tryd.underlying57 (by simp only [maxLen]; omega) (Maps.keyOf_int_mk Tryd.underlying3 HRw.out) (.slice va vn vc)
                go_simp
                have HV := Lib.hid hv
                have HG := Lib.hid hg
                clear hv hg hrun
                refine hK.out _ _ ?_ (fun hHeld => ?_)
                · exact ⟨((HBc4.out.frm HTP.out (fun h => h)).frm HA.out (fun e => (HMm.out.rowO _ b e.symm).2.1 rfl)).frm HG.out (fun e => HMm.out.b2 e), ((Hbx4.out.frm HTP.out (fun h => h)).frm HA.out (fun e => by have h1 := Hrl.out _ e.symm; omega)).frm HG.out (fun e => by have e2 : w.heap.size = m2 := e; have := Hm2l.out; omega)⟩
                clear hK K
                (try dsimp only [Act.put]); try simp only [Act.put, List.setIfInBounds_toArray, List.set_cons_zero, List.set_cons_succ]
                refine wpAnyH_done (by kernel_rfl) ?_ _
                refine NoPanic.normal ?_
                go_wp2_with fail
                go_meet
                exact ⟨va, vn, vc, _, _, _, HTP.out, hw1, HO.out, HA.out, Hba.out, HV.out, HG.out⟩
              exact AllReadyH.nil
            exact AllReadyH.nil
          exact AllReadyH.nil
        refine AllReadyH.cons rfl (fun K hK => ?_) ?_
        · go_simp
          generalize hw : World.alloc u0 _ = u1
          have hg : Frm noB u0 u1 := by rw [← hw]; exact (Frm.refl noB u0).alloc _
          have HT1 := Lib.hid (HT0.out.trans hg)
          have hz1 := hg.size
          have rL_1 := Lib.hid (show Blk u1 u0.heap.size #[.string xn] 9 by rw [← hw]; exact Blk.made u0 _ _)
          have hl1 : u0.heap.size < u1.heap.size := by rw [← hw]; simp
          clear hg hw
          refine hK.out _ _ ?_ (fun hHeld => ?_)
          · exact ⟨HBc4.out.frm HT1.out (fun h => h), Hbx4.out.frm HT1.out (fun h => h)⟩
          clear hK K
          (try dsimp only [Act.put]); try simp only [Act.put, List.setIfInBounds_toArray, List.set_cons_zero, List.set_cons_succ]
          refine wpAnyH_ready (rs := [10]) (by kernel_rfl) (by simp) ?_
          refine AllReadyH.cons rfl (fun K hK => ?_) ?_
          · have hlk := HlkN.out _ HT1.out
            go_simp
            clear hlk
            refine hK.out _ _ ?_ (fun hHeld => ?_)
            · exact ⟨HBc4.out.frm HT1.out (fun h => h), Hbx4.out.frm HT1.out (fun h => h)⟩
            clear hK K
            (try dsimp only [Act.put]); try simp only [Act.put, List.setIfInBounds_toArray, List.set_cons_zero, List.set_cons_succ]
            refine wpAnyH_ready (rs := [14]) (by kernel_rfl) (by simp) ?_
            refine AllReadyH.cons rfl (fun K hK => ?_) ?_
            · rw [if_pos (by rfl)]
              obtain ⟨iq, hiq, hz9, h19, h29⟩ := info_parts info_str
              have HTP := HT1
              have hw1 : wr.heap.size < u1.heap.size := by have := rL_1.out.lt; omega
              refine wp_app1g strE _ _ _ 61 (by rfl) 0 9 iq _ 16 Tryd.underlying61 hiq hz9 h19 h29 rfl (by decide) (by omega) _ _ (by rfl) (Hrow.out.keep HT1.out) xn _ (by rfl) _ rL_1.out (by rfl) HLl.out (Nat.zero_le _) (fun v2 u2 ho hg hba hn0 => ?_)
              obtain ⟨va, vc, hvs, _⟩ := ho.shape
              obtain ⟨vn, hvn⟩ : ∃ n, n = (namesL L R ++ [xn]).length := ⟨_, rfl⟩
              rw [← hvn] at hvs
              subst hvs
              have HO := Lib.hid ho
              have HA := Lib.hid hg
              have Hba := Lib.hid hba
              clear hvn ho hg hba hn0 hiq hz9 h19 h29
              change K (Act.put _ (some 43) _) _
              refine hK.out _ _ ?_ (fun hHeld => ?_)
              · exact ⟨(HBc4.out.frm HTP.out (fun h => h)).frm HA.out (fun e => (HMm.out.rowO _ b e.symm).2.1 rfl), (Hbx4.out.frm HTP.out (fun h => h)).frm HA.out (fun e => by have h1 := Hrl.out _ e.symm; omega)⟩
              clear hK K
              (try dsimp only [Act.put]); try simp only [Act.put, List.setIfInBounds_toArray, List.set_cons_zero, List.set_cons_succ]
              refine wpAnyH_ready (rs := [15]) (by kernel_rfl) (by simp) ?_
              refine AllReadyH.cons rfl (fun K hK => ?_) ?_
              · obtain ⟨u3, hrun, hv, hg⟩ := (((Hnm.out.frm HTP.out (fun h => h)).frm HA.out (fun e => (HMm.out.rowO _ m2 e.symm).2.2.2 rfl))).store (t := 57) keyI Tryd.underlying57 (by simp only [maxLen]; omega) (Maps.keyOf_int_mk Tryd.underlying3 HRw.out) (.slice va vn vc)
                go_simp
                have HV := Lib.hid hv
                have HG := Lib.hid hg
                clear hv hg hrun
                refine hK.out _ _ ?_ (fun hHeld => ?_)
                · exact ⟨((HBc4.out.frm HTP.out (fun h => h)).frm HA.out (fun e => (HMm.out.rowO _ b e.symm).2.1 rfl)).frm HG.out (fun e => HMm.out.b2 e), ((Hbx4.out.frm HTP.out (fun h => h)).frm HA.out (fun e => by have h1 := Hrl.out _ e.symm; omega)).frm HG.out (fun e => by have e2 : w.heap.size = m2 := e; have := Hm2l.out; omega)⟩
                clear hK K
                (try dsimp only [Act.put]); try simp only [Act.put, List.setIfInBounds_toArray, List.set_cons_zero, List.set_cons_succ]
                refine wpAnyH_done (by kernel_rfl) ?_ _
                refine NoPanic.normal ?_
                go_wp2_with fail
                go_meet
                exact ⟨va, vn, vc, _, _, _, HTP.out, hw1, HO.out, HA.out, Hba.out, HV.out, HG.out⟩
              exact AllReadyH.nil
            exact AllReadyH.nil
          exact AllReadyH.nil
        exact AllReadyH.nil
      case rest =>
        obtain ⟨va, vn, vc, w1, w2, sz, g1, g2, g3, g4, g5, g6, g7⟩ := hcut
        have Hg1 := Lib.hid g1
        have Hg3 := Lib.hid g3
        have Hg4 := Lib.hid g4
        have Hg5 := Lib.hid g5
        have Hg6 := Lib.hid g6
        have Hg7 := Lib.hid g7
        clear g1 g3 g4 g5 g6 g7
        go_wp2_with fail
        go_ret
        have hR2 : R = rqS ⟨xn, x1, x2, x3, x4, x5⟩ := HR.out
        obtain ⟨O2, h1, h2, h3⟩ := col_end (w := w) (v := .slice va vn vc) (s := ⟨xn, x1, x2, x3, x4, x5⟩) HMm.out Hfw3.out hR2 Hy.out ⟨_, HVA.out⟩ HfA.out (Frm.refl noB wr) Hg3.out ((Hg1.out.mono (fun _ _ h => h.elim)).trans Hg4.out)
          (by
            rcases Hg5.out with e | e
            · exact .inl e
            · exact .inr ⟨_, e, g2, (Hg3.out.lt _ e).2⟩) ⟨_, Hg6.out⟩ Hg7.out
        exact ⟨rfl, _, O2, h1, h2, h3⟩
theorem ctake_any (b k : Nat) (L : List Spn) (O : Nat → Prop) (x : Spn) (w : World) (h : ColIs w b L k O) (hk : k ≤ 100000) (hL : L.length ≤ 100000) (hs : x.name.size ≤ 1000000) :
    Calls Tryd.prog 13 #[.pointer (some ⟨b, 0, none⟩), spnV x] w fun e w' => e = .returned (.bool (!isInB L x)) ∧ ∃ O', ColIs w' b (takeL L x) (k + 1) O' ∧ Frm O w w' ∧ ∀ i, O' i → O i ∨ w.heap.size ≤ i := by
  obtain ⟨m1, m2, rows, h⟩ := h
  obtain ⟨xn, x1, x2, x3, x4, x5⟩ := x
  cases hy : fndS L xn.data.toList with
  | some y =>
    have hi : isInB L ⟨xn, x1, x2, x3, x4, x5⟩ = true := by show (fndS L xn.data.toList).isSome = true; rw [hy]; rfl
    refine (ctake_old b m1 m2 k L rows O xn x1 x2 x3 x5 x4 y w h hs hy).mono ?_
    rintro e w' ⟨rfl, hF⟩
    refine ⟨by rw [hi]; rfl, O, ⟨m1, m2, rows, ?_⟩, hF.mono (fun _ _ h => h.elim), fun i hi => .inl hi⟩
    unfold takeL
    rw [if_pos hi]
    exact (h.keep hF).mono (by omega)
  | none =>
    have hi : isInB L ⟨xn, x1, x2, x3, x4, x5⟩ = false := by show (fndS L xn.data.toList).isSome = false; rw [hy]; rfl
    refine (ctake_new b m1 m2 k L rows O xn x1 x2 x3 x5 x4 w h hk hL hs hy).mono ?_
    rintro e w' ⟨rfl, rows', O', h1, h2, h3⟩
    refine ⟨by rw [hi]; rfl, O', ⟨m1, m2, rows', ?_⟩, h2, h3⟩
    unfold takeL
    rw [hi, if_neg (by decide)]
    exact h1
end Go.Proofs.YtpgcfeplcibhoaaDoor
