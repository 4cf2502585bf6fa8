/- The walk of the statement SampleRequests. -/
import Derived.Test.YtdamhohoeobfgaaDoorSampleMisc
import Derived.Test.YtdamhohoeobfgaaDoorLib
set_option linter.unusedVariables false
set_option linter.unusedSimpArgs false
namespace Go.Proofs.YtdamhohoeobfgaaDoor
open Go.RowKit

set_option maxRecDepth 100000 in
set_option maxHeartbeats 4000000 in
theorem sampleRequests_walk (a0 : Int) (a1 : Int) (w0 : (Lit.int .i64 a0).wf = true) (w1 : (Lit.int .i64 a1).wf = true) (w : World) :
    Calls Tryd.prog 9 #[.int .i64 a0, .int .i64 a1] w fun e w' => e = .returned (.bool true) ∧ Below w.heap.size w w' := by
  obtain ⟨p0, p1⟩ := wf_i64 w0
  obtain ⟨q0, q1⟩ := wf_i64 w1
  have hx := spanOf_ok (around a0 1000000)
  have hy := spanOf_ok (around a1 1000000)
  have hcx := fun W => span_any a0 W p0 p1
  have hcy := fun W => span_any a1 W q0 q1
  generalize spanOf (around a0 1000000) = x at *
  generalize spanOf (around a1 1000000) = y at *
  have hgl := one_first x
  have hsm : rq x = rq y → (goneL 1 [x] y = [] ∧ addL 1 [x] y = [x, y]) ∧ overL false 0 10 0 [x, y] (rq x) = [x, y] := fun h => ⟨one_same h, over_two h 0⟩
  have hot : ¬ rq x = rq y → (goneL 1 [x] y = [x] ∧ addL 1 [x] y = [y]) ∧ overL false 0 10 0 [y] (rq y) = [y] := fun h => ⟨one_other h, over_one y 0⟩
  obtain ⟨X, hX⟩ : ∃ X, X = x := ⟨_, rfl⟩
  obtain ⟨Y, hY⟩ : ∃ Y, Y = y := ⟨_, rfl⟩
  have hqx : ∀ W : World, Calls Tryd.prog 27 #[.string x.name] W fun e w' => e = .returned (.int .i64 (rq X)) ∧ w' = W := fun W => by
    subst hX; exact (req_any X.name W (by have := hx.sz; omega)).mono fun e w' h => ⟨h.1, h.2.symm⟩
  have hqy : ∀ W : World, Calls Tryd.prog 27 #[.string y.name] W fun e w' => e = .returned (.int .i64 (rq Y)) ∧ w' = W := fun W => by
    subst hY; exact (req_any Y.name W (by have := hy.sz; omega)).mono fun e w' h => ⟨h.1, h.2.symm⟩
  rw [← hX] at hx hgl hsm hot
  rw [← hY] at hy hsm hot
  obtain ⟨xn, x1, x2, x3, x4, x5⟩ := x
  obtain ⟨yn, y1, y2, y3, y4, y5⟩ := y
  have hVX : spnV X = .agg #[.string xn, .int .i64 x1, .int .i64 x2, .int .i64 x3, .bool x4, .int .i64 x5] := by rw [hX]; rfl
  have hVY : spnV Y = .agg #[.string yn, .int .i64 y1, .int .i64 y2, .int .i64 y3, .bool y4, .int .i64 y5] := by rw [hY]; rfl
  simp only at hqx hqy
  have Hx := Lib.hid hx
  have Hy := Lib.hid hy
  have Hcx := Lib.hid hcx
  have Hcy := Lib.hid hcy
  have Hgl := Lib.hid hgl
  have Hsm := Lib.hid hsm
  have Hot := Lib.hid hot
  have HX := Lib.hid hX
  have HY := Lib.hid hY
  have Hqx := Lib.hid hqx
  have Hqy := Lib.hid hqy
  have HVX := Lib.hid hVX
  have HVY := Lib.hid hVY
  clear hx hy hcx hcy hgl hsm hot hX hY hqx hqy hVX hVY
  go_enter Tryd.func9, Tryd.ntmps9
  go_wp2_with fail
  refine (TL.start 1 0 10 w).mono ?_
  rintro e v1 ⟨b, O1, rfl, h1⟩
  have H1 := Lib.hid h1
  clear h1
  go_wp2_with fail
  refine (Hcx.out _).mono ?_
  rintro e v2 ⟨rfl, hf2⟩
  have h2 := H1.out.keep hf2
  have H2 := Lib.hid h2
  have Hf2 := Lib.hid hf2
  clear h2 hf2
  unfold spnV
  go_wp2_with (refine wpl_store_new _ (by rfl) 39 _ _ (by rfl) _ (by rfl) (by first | rfl | simp) _ _ _ (by rfl) (by exact info_spz) (by rfl) (by kernel_rfl) ?_)
  generalize hv3 : World.alloc v2 _ = v3
  have hb3 : Blk v3 v2.heap.size #[.string xn, .int .i64 x1, .int .i64 x2, .int .i64 x3, .bool x4, .int .i64 x5] 39 := by rw [← hv3]; exact Blk.made v2 _ _
  have hf3 : Frm noB v2 v3 := by rw [← hv3]; exact (Frm.refl noB v2).alloc _
  obtain ⟨B6, hB6⟩ : ∃ B, B = v2.heap.size := ⟨_, rfl⟩
  rw [← hB6] at hb3 ⊢
  refine (Hcy.out _).mono ?_
  rintro e v4 ⟨rfl, hf4⟩
  unfold spnV
  have Hv3 := Lib.hid hv3
  have Hb3 := Lib.hid hb3
  have Hf3 := Lib.hid hf3
  have HB6 := Lib.hid hB6
  have Hf4 := Lib.hid hf4
  clear hv3 hb3 hf3 hB6 hf4
  go_wp2_with (refine wpl_store_new _ (by rfl) 39 _ _ (by rfl) _ (by rfl) (by first | rfl | simp) _ _ _ (by rfl) (by exact info_spz) (by rfl) (by kernel_rfl) ?_; refine Hid.out ?_)
  generalize hv5 : World.alloc v4 _ = v5
  have hb5 : Blk v5 v4.heap.size #[.string yn, .int .i64 y1, .int .i64 y2, .int .i64 y3, .bool y4, .int .i64 y5] 39 := by rw [← hv5]; exact Blk.made v4 _ _
  have hf5 : Frm noB v4 v5 := by rw [← hv5]; exact (Frm.refl noB v4).alloc _
  obtain ⟨B7, hB7⟩ : ∃ B, B = v4.heap.size := ⟨_, rfl⟩
  rw [← hB7] at hb5 ⊢
  have ha5 := (Hb3.out.frm Hf4.out (fun h => h)).frm hf5 (fun h => h)
  have h5 := (((H2.out.keep Hf3.out).keep Hf4.out).keep hf5)
  have hn6 : ¬ O1 B6 := fun h => by have h1 := H1.out.tail.lt _ h; have h2 := Hf2.out.size; have := HB6.out; omega
  have hn7 : ¬ O1 B7 := fun h => by have h1 := H1.out.tail.lt _ h; have h2 := Hf2.out.size; have h3 := Hf3.out.size; have h4 := Hf4.out.size; omega
  have Hv5 := Lib.hid hv5
  have Hb5 := Lib.hid hb5
  have Hf5 := Lib.hid hf5
  have HB7 := Lib.hid hB7
  have Ha5 := Lib.hid ha5
  have H5 := Lib.hid h5
  have Hn6 := Lib.hid hn6
  have Hn7 := Lib.hid hn7
  clear hv5 hb5 hf5 hB7 ha5 h5 hn6 hn7
  refine Lib.hid ?_
  go_wp2_with (refine wpl_load_blk (by rfl) 39 _ (by rfl) _ (by rfl) _ _ (by exact Ha5.out) _ Tryd.underlying39 (by rfl) (by exact info_spz) ?_)
  rw [← HVX.out]
  refine (H5.out.add (mm := 1) X (by omega) (by have := Hx.out.sz; omega) (by omega) (by omega)).mono ?_
  rintro e v6 ⟨u6, O6, rfl, ho6, h6, hoff6, hfr6, hsb6⟩
  rw [Hgl.out.2] at h6
  have hb6 := Hb5.out.frm hfr6 Hn7.out
  have ha6 := Ha5.out.frm hfr6 Hn6.out
  have hm6 : ¬ O6 B6 := fun h => by
    rcases hsb6 _ h with h1 | h1
    · exact Hn6.out h1
    · have := Ha5.out.lt; omega
  have hm7 : ¬ O6 B7 := fun h => by
    rcases hsb6 _ h with h1 | h1
    · exact Hn7.out h1
    · have := Hb5.out.lt; omega
  have Ho6 := Lib.hid ho6
  have H6 := Lib.hid h6
  have Hoff6 := Lib.hid hoff6
  have Hfr6 := Lib.hid hfr6
  have Hsb6 := Lib.hid hsb6
  have Hb6 := Lib.hid hb6
  have Ha6 := Lib.hid ha6
  have Hm6 := Lib.hid hm6
  have Hm7 := Lib.hid hm7
  clear ho6 h6 hoff6 hfr6 hsb6 hb6 ha6 hm6 hm7
  go_wp2_with (refine wpl_load_blk (by rfl) 39 _ (by rfl) _ (by rfl) _ _ (by exact Hb6.out) _ Tryd.underlying39 (by rfl) (by exact info_spz) ?_)
  rw [← HVY.out]
  refine (H6.out.add (mm := 1) Y (by omega) (by have := Hy.out.sz; omega) (by omega) (by omega)).mono ?_
  rintro e v7 ⟨u7, O7, rfl, ho7, h7, hoff7, hfr7, hsb7⟩
  have hb7 := Hb6.out.frm hfr7 Hm7.out
  have ha7 := Ha6.out.frm hfr7 Hm6.out
  have hm6' : ¬ O7 B6 := fun h => by
    rcases hsb7 _ h with h1 | h1
    · exact Hm6.out h1
    · have := Ha6.out.lt; omega
  have hm7' : ¬ O7 B7 := fun h => by
    rcases hsb7 _ h with h1 | h1
    · exact Hm7.out h1
    · have := Hb6.out.lt; omega
  have d6 := ha7.cell 0
  have d7 := hb7.cell 0
  simp at d6 d7
  have l6 := ha7.lt
  have l7 := hb7.lt
  obtain ⟨rx, hrx⟩ : ∃ r, r = rq X := ⟨_, rfl⟩
  obtain ⟨ry, hry⟩ : ∃ r, r = rq Y := ⟨_, rfl⟩
  have hqx := Hqx.out
  have hqy := Hqy.out
  rw [← hrx] at hqx
  rw [← hry] at hqy
  have Ho7 := Lib.hid ho7
  have H7 := Lib.hid h7
  have Hoff7 := Lib.hid hoff7
  have Hfr7 := Lib.hid hfr7
  have Hsb7 := Lib.hid hsb7
  have Hb7 := Lib.hid hb7
  have Ha7 := Lib.hid ha7
  have Hrx := Lib.hid hrx
  have Hry := Lib.hid hry
  have Hqx := Lib.hid hqx
  have Hqy := Lib.hid hqy
  have Hm6' := Lib.hid hm6'
  have Hm7' := Lib.hid hm7'
  clear ho7 h7 hoff7 hfr7 hsb7 hb7 ha7 hrx hry hqx hqy hm6' hm7'
  go_upto_region 8 with fail
  go_cut [28] (fun s28 wx => s28 = .bool (rx == ry) ∧ Frm noB v7 wx)
  case first =>
    go_quiet (first | (go_at_call 27; first | with_reducible exact Calls.quiet_of_same (Hqx.out _) | with_reducible exact Calls.quiet_of_same (Hqy.out _)))
    go_wp2_with fail
    go_meet
    exact ⟨rfl, (Frm.refl noB _).drewN _⟩
  case rest =>
    obtain ⟨rfl, hfx⟩ := hcut
    clear d6 d7 l6 l7
    have h8 := H7.out.keep hfx
    have ho8 := Ho7.out.keep hfx
    have hb8 := Hb7.out.frm hfx (fun h => h)
    have ha8 := Ha7.out.frm hfx (fun h => h)
    have d6 := ha8.cell 0
    have d7 := hb8.cell 0
    simp at d6 d7
    have l6 := ha8.lt
    have l7 := hb8.lt
    by_cases hq : rx = ry
    · have hsm := Hsm.out (by rw [← Hrx.out, ← Hry.out]; exact hq)
      rw [hsm.1.1] at ho8
      rw [hsm.1.2] at h8
      have hov := hsm.2
      rw [← Hrx.out] at hov
      obtain ⟨a8, c8, rfl, _, _⟩ := ho8.shape
      rw [show (rx == ry) = true from by simpa using hq]
      have hr0 := Hx.out.lo
      have hr1 := Hx.out.hi
      rw [← Hrx.out] at hr0 hr1
      have hcall := h8.over rx 0 false (by omega) (by omega) (by omega)
      rw [hov] at hcall
      have H8 := Lib.hid h8
      have Ho8 := Lib.hid ho8
      have Hb8 := Lib.hid hb8
      have Ha8 := Lib.hid ha8
      have Hfx := Lib.hid hfx
      have Hq := Lib.hid hq
      have Hsm := Lib.hid hsm
      have Hov := Lib.hid hov
      have Hcall := Lib.hid hcall
      have Hr0 := Lib.hid hr0
      have Hr1 := Lib.hid hr1
      clear h8 ho8 hb8 ha8 hfx hq hsm hov hcall hr0 hr1
      go_wp2_with fail
      refine (Hqx.out _).mono ?_
      rintro e v9 ⟨rfl, rfl⟩
      go_wp2_with fail
      refine Hcall.out.mono ?_
      rintro e v10 ⟨u10, O10, rfl, ho10, h10, hoff10, hfr10, hsb10⟩
      obtain ⟨a10, c10, rfl, _, _⟩ := ho10.shape
      clear d6 d7 l6 l7
      have Ho10 := Lib.hid ho10
      have H10 := Lib.hid h10
      have Hoff10 := Lib.hid hoff10
      have Hfr10 := Lib.hid hfr10
      have Hsb10 := Lib.hid hsb10
      clear ho10 h10 hoff10 hfr10 hsb10
      go_wp2_with fail
      refine (lives_any _).mono ?_
      rintro e v11 ⟨rfl, hf11⟩
      have Hf11 := Lib.hid hf11
      clear hf11
      go_wp2_with fail
      go_ret
      exact ⟨rfl, (H10.out.frm.trans Hf11.out).below (Nat.le_refl _) (fun _ _ h => h)⟩
    · have hot := Hot.out (by rw [← Hrx.out, ← Hry.out]; exact hq)
      rw [hot.1.1] at ho8
      rw [hot.1.2] at h8
      have hov := hot.2
      rw [← Hry.out] at hov
      obtain ⟨a8, c8, rfl, _, hg8⟩ := ho8.shape
      obtain ⟨g8, rfl, _, lg⟩ := hg8 (by simp)
      obtain ⟨c0, c1, c2, c3, c4, c5⟩ := spn_cells ho8 (j := 0) (x := X) rfl
      rw [HX.out] at c0 c1 c2 c3 c4 c5
      simp only at c0 c1 c2 c3 c4 c5
      rw [show (rx == ry) = false from by simpa using hq]
      have hr0 := Hy.out.lo
      have hr1 := Hy.out.hi
      rw [← Hry.out] at hr0 hr1
      have hcall := fun W hW => (h8.keep (w' := W) hW).over ry 0 false (by omega) (by omega) (by omega)
      rw [hov] at hcall
      have e1 := ha8.cell 1
      have e2 := ha8.cell 2
      have e3 := ha8.cell 3
      have e4 := ha8.cell 4
      have e5 := ha8.cell 5
      simp at e1 e2 e3 e4 e5
      have hst : (xn.toList == xn.toList) = true := by simp
      simp only [Nat.zero_mul, Nat.zero_add] at c0 c1 c2 c3 c4 c5
      have hO8 : ¬ O7 g8 := Hoff7.out g8 rfl
      have hO6 := Hm6'.out
      have hO7 := Hm7'.out
      have hS : ∀ W, Frm O7 wc W → W.cell? ⟨g8, 0, none⟩ = some (.string xn) ∧ W.cell? ⟨g8, 1, none⟩ = some (.int .i64 x1) ∧ W.cell? ⟨g8, 2, none⟩ = some (.int .i64 x2) ∧ W.cell? ⟨g8, 3, none⟩ = some (.int .i64 x3) ∧ W.cell? ⟨g8, 4, none⟩ = some (.bool x4) ∧ W.cell? ⟨g8, 5, none⟩ = some (.int .i64 x5) ∧ W.cell? ⟨B6, 0, none⟩ = some (.string xn) ∧ W.cell? ⟨B6, 1, none⟩ = some (.int .i64 x1) ∧ W.cell? ⟨B6, 2, none⟩ = some (.int .i64 x2) ∧ W.cell? ⟨B6, 3, none⟩ = some (.int .i64 x3) ∧ W.cell? ⟨B6, 4, none⟩ = some (.bool x4) ∧ W.cell? ⟨B6, 5, none⟩ = some (.int .i64 x5) ∧ W.cell? ⟨B7, 0, none⟩ = some (.string yn) := fun W hW =>
        ⟨cell_frm hW hO8 c0, cell_frm hW hO8 c1, cell_frm hW hO8 c2, cell_frm hW hO8 c3, cell_frm hW hO8 c4, cell_frm hW hO8 c5, cell_frm hW hO6 d6, cell_frm hW hO6 e1, cell_frm hW hO6 e2, cell_frm hW hO6 e3, cell_frm hW hO6 e4, cell_frm hW hO6 e5, cell_frm hW hO7 d7⟩
      have H8 := Lib.hid h8
      have Ho8 := Lib.hid ho8
      have Hb8 := Lib.hid hb8
      have Ha8 := Lib.hid ha8
      have Hfx := Lib.hid hfx
      have Hq := Lib.hid hq
      have Hot := Lib.hid hot
      have Hov := Lib.hid hov
      have Hcall := Lib.hid hcall
      have Hr0 := Lib.hid hr0
      have Hr1 := Lib.hid hr1
      have HS := Lib.hid hS
      have HO8 := Lib.hid hO8
      have HO6 := Lib.hid hO6
      have HO7 := Lib.hid hO7
      clear h8 ho8 hb8 ha8 hfx hq hot hov hcall hr0 hr1 hS hO8 hO6 hO7
      go_upto_region 10 with fail
      go_region_held3 (fun W => W.cell? ⟨g8, 0, none⟩ = some (.string xn) ∧ W.cell? ⟨g8, 1, none⟩ = some (.int .i64 x1) ∧ W.cell? ⟨g8, 2, none⟩ = some (.int .i64 x2) ∧ W.cell? ⟨g8, 3, none⟩ = some (.int .i64 x3) ∧ W.cell? ⟨g8, 4, none⟩ = some (.bool x4) ∧ W.cell? ⟨g8, 5, none⟩ = some (.int .i64 x5) ∧ W.cell? ⟨B6, 0, none⟩ = some (.string xn) ∧ W.cell? ⟨B6, 1, none⟩ = some (.int .i64 x1) ∧ W.cell? ⟨B6, 2, none⟩ = some (.int .i64 x2) ∧ W.cell? ⟨B6, 3, none⟩ = some (.int .i64 x3) ∧ W.cell? ⟨B6, 4, none⟩ = some (.bool x4) ∧ W.cell? ⟨B6, 5, none⟩ = some (.int .i64 x5) ∧ W.cell? ⟨B7, 0, none⟩ = some (.string yn))
        (first | exact HS.out _ (Frm.refl O7 wc).drew | exact HS.out _ hfr10 | exact HS.out _ hfr11)
        (first
          | (go_at_call 27; (with_reducible refine (Hqy.out _).mono ?_); rintro e vr ⟨rfl, rfl⟩)
          | (go_at_call 17; (with_reducible refine (Hcall.out _ (Frm.refl noB wc).drew).mono ?_); rintro e v10 ⟨u10, O10, rfl, ho10, h10, hoff10, hfr10, hsb10⟩; replace hfr10 := ((Frm.refl O7 wc).drew).trans hfr10; obtain ⟨a10, c10, rfl, _, _⟩ := ho10.shape)
          | (go_at_call 13; (with_reducible refine (lives_any _).mono ?_); rintro e v11 ⟨rfl, hf11⟩; have hfr11 := hfr10.trans (hf11.mono (fun _ _ h => h.elim))))
      all_goals
        go_wp2_with fail
        go_ret
        exact ⟨rfl, (h10.frm.trans hf11).below (Nat.le_refl _) (fun _ _ h => h)⟩
end Go.Proofs.YtdamhohoeobfgaaDoor
