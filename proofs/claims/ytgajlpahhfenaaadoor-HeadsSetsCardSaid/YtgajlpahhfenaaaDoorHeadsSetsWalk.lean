/- The walk of the statement HeadsSets. -/
import Derived.Test.YtgajlpahhfenaaaDoorHeadHV
import Derived.Outline
set_option linter.unusedVariables false
namespace Go.Proofs.YtgajlpahhfenaaaDoor
open Go.RowKit

theorem setAll_one (l : List Hd) (h : Hd) : setAll l [h] = setL l h := rfl
set_option maxRecDepth 100000 in
set_option maxHeartbeats 4000000 in
theorem headsSets_walk (a0 : Option Addr) (len0 cap0 : Nat) (z0 : List Int) (a1 : Int) (a2 : Int) (w : World) (w0 : IsRow .i64 w a0 len0 cap0 z0) (w1 : (Lit.int .i64 a1).wf = true) (w2 : (Lit.int .i64 a2).wf = true) :
    Calls Tryd.prog 5 #[.slice a0 len0 cap0, .int .i64 a1, .int .i64 a2] w fun e w' => e = .returned (.bool true) ∧ Below w.heap.size w w' := by
  obtain ⟨xs, h0⟩ := w0.list
  have b1 := wf_i64 w1
  have b2 := wf_i64 w2
  have hfd := fun (s t : ByteArray) (w : World) => field_hd0 s t w
  have hg := GoodL.gen (xs.take 12)
  have hg2 := hg.set a1
  have hgl : (genH (xs.take 12)).length ≤ 1000 := by have := hg.len; omega
  have hss := set_set (genH (xs.take 12)) (oneZ a1)
  have hsame := getL_set_same (genH (xs.take 12)) (oneZ a1)
  have hother := fun h => getL_set_other (genH (xs.take 12)) (oneZ a1) (oneZ a2).name h
  have H0 := Lib.hid h0
  have Hb1 := Lib.hid b1
  have Hb2 := Lib.hid b2
  have Hg := Lib.hid hg
  have Hg2 := Lib.hid hg2
  have Hgl := Lib.hid hgl
  have Hss := Lib.hid hss
  have Hsame := Lib.hid hsame
  have Hother := Lib.hid hother
  clear h0 b1 b2 hg hg2 hgl hss hsame hother
  clear w0 w1 w2
  go_enter Tryd.func5, Tryd.ntmps5
  go_wp2_with fail
  with_reducible refine (heads_hv a0 len0 cap0 xs _ H0.out).mono ?_
  rintro e x1 ⟨va, rfl, ha, hf1⟩
  have Ha := Lib.hid ha
  have Hf1 := Lib.hid hf1
  clear ha hf1
  go_wp2_with fail
  with_reducible refine (one_hv a1 _ Hb1.out).mono ?_
  rintro e x2 ⟨rfl, hf2⟩
  have ha2 := Ha.out.keep hf2
  have hf2 := Hf1.out.trans hf2
  generalize hoz : oneZ a1 = h at *
  obtain ⟨nm, vl⟩ := h
  simp only at *
  have Ha2 := Lib.hid ha2
  have Hf2 := Lib.hid hf2
  have Hoz := Lib.hid hoz
  clear ha2 hf2 hoz
  have hbx := Blk.made x2 #[.string nm, .string vl] 25
  have fa := (Frm.refl noB x2).alloc (.cells #[.string nm, .string vl] 25)
  have ha3 := Ha2.out.keep fa
  have hf3 := Hf2.out.trans fa
  have Hbx := Lib.hid hbx
  have Ha3 := Lib.hid ha3
  have Hf3 := Lib.hid hf3
  have Hfa := Lib.hid fa
  clear hbx ha3 hf3 fa
  go_wp2_with fail
  with_reducible refine (one_hv a2 _ Hb2.out).mono ?_
  rintro e x3 ⟨rfl, hf4⟩
  have ha4 := Ha3.out.keep hf4
  have hbx4 := Hbx.out.frm hf4 (fun h => h)
  have hf4 := Hf3.out.trans hf4
  generalize (oneZ a2).name = nm2 at *
  generalize (oneZ a2).val = vl2 at *
  have b0 := (hbx4.cell 0).trans (show _ = some (Value.string nm) from rfl)
  have b1 := (hbx4.cell 1).trans (show _ = some (Value.string vl) from rfl)
  have bl := hbx4.lt
  have hone := HV.one x3 ⟨nm, vl⟩
  have fa2 := (Frm.refl noB x3).alloc (.cells #[.string nm, .string vl] 25)
  have ha5 := ha4.keep fa2
  have hbx5 := hbx4.frm fa2 (fun h => h)
  have hf5 := hf4.trans fa2
  generalize genH (xs.take 12) = L at *
  simp only at hone
  have Ha4 := Lib.hid ha4
  have Hbx4 := Lib.hid hbx4
  have Hf4 := Lib.hid hf4
  have Hone := Lib.hid hone
  have Hfa2 := Lib.hid fa2
  have Ha5 := Lib.hid ha5
  have Hbx5 := Lib.hid hbx5
  have Hf5 := Lib.hid hf5
  clear ha4 hbx4 hf4 hone fa2 ha5 hbx5 hf5
  go_wp2_with fail
  refine (set_hv va _ L [⟨nm, vl⟩] _ Ha5.out Hgl.out Hg.out.nd Hone.out).mono ?_
  rintro e x4 ⟨vb, rfl, hb, hf6⟩
  rw [setAll_one] at hb
  have ha6 := Ha5.out.keep hf6
  have hbx6 := Hbx5.out.frm hf6 (fun h => h)
  have hf6 := Hf5.out.trans hf6
  generalize hL2 : setL L ⟨nm, vl⟩ = L2 at *
  clear b0 b1 bl
  obtain ⟨va1, va2, rfl, _⟩ := ha6.shape
  have b0 := (hbx6.cell 0).trans (show _ = some (Value.string nm) from rfl)
  have b1 := (hbx6.cell 1).trans (show _ = some (Value.string vl) from rfl)
  have bl := hbx6.lt
  have hgl2 : L2.length ≤ 1000 := by have := Hg2.out.len; omega
  have hgb := fun w h => get_hv vb L2 nm w h
  have hga := fun w h => get_hv (.slice va1 L.length va2) L nm w h
  have hcases : (hasN L nm = true ∧ vl = (getL L2 nm).getD ⟨#[]⟩ ∧ hasN L2 nm = true) ∨ (hasN L nm = false ∧ decide ((L.length : Int) < 8) = true ∧ vl = (getL L2 nm).getD ⟨#[]⟩ ∧ hasN L2 nm = true) ∨ (hasN L nm = false ∧ decide ((L.length : Int) < 8) = false ∧ (getL L2 nm).getD ⟨#[]⟩ = ⟨#[]⟩ ∧ hasN L2 nm = false) := by
    have e := Hsame.out
    rw [← hasN_get L2, e]
    cases hn : hasN L nm
    · by_cases h8 : L.length < 8
      · rw [if_pos (.inr h8)]
        exact .inr (.inl ⟨rfl, decide_eq_true (by omega), rfl, rfl⟩)
      · rw [if_neg (by rintro (h | h); simp at h; exact h8 h)]
        exact .inr (.inr ⟨rfl, decide_eq_false (by omega), rfl, rfl⟩)
    · rw [if_pos (.inl rfl)]
      exact .inl ⟨rfl, rfl, rfl⟩
  have hoth : ∀ h : ¬ nm2 = nm, (getL L2 nm2 = getL L nm2 ∧ hasN L2 nm2 = hasN L nm2) := fun h => by
    have := Hother.out h
    exact ⟨this, by rw [← hasN_get, ← hasN_get, this]⟩
  generalize (getL L2 nm).getD ⟨#[]⟩ = v1 at *
  generalize hasN L2 nm = is1 at *
  generalize hasN L nm = was at *
  have t1 : (vl.toList == vl.toList) = true := by simp
  have Hb := Lib.hid hb
  have Ha6 := Lib.hid ha6
  have Hbx6 := Lib.hid hbx6
  have Hf6 := Lib.hid hf6
  have Hgl2 := Lib.hid hgl2
  have Hgb := Lib.hid hgb
  have Hga := Lib.hid hga
  have HL2 := Lib.hid hL2
  have Hoth := Lib.hid hoth
  clear hb ha6 hbx6 hf6 hgl2 hgb hga hL2 hoth
  rcases hcases with ⟨rfl, rfl, rfl⟩ | ⟨rfl, hd8, rfl, rfl⟩ | ⟨rfl, hd8, rfl, rfl⟩
  all_goals
    go_wp2_with fail
    refine (Hgb.out _ Hb.out).mono ?_
    rintro e x5 ⟨rfl, hf7⟩
    have hb7 := Hb.out.keep hf7
    have ha7 := Ha6.out.keep hf7
    have hbx7 := Hbx6.out.frm hf7 (fun h => h)
    have hf7 := Hf6.out.trans hf7
    clear b0 b1 bl
    have b0 := (hbx7.cell 0).trans (show _ = some (Value.string nm) from rfl)
    have b1 := (hbx7.cell 1).trans (show _ = some (Value.string _) from rfl)
    have bl := hbx7.lt
    have Hb7 := Lib.hid hb7
    have Ha7 := Lib.hid ha7
    have Hbx7 := Lib.hid hbx7
    have Hf7 := Lib.hid hf7
    clear hb7 ha7 hbx7 hf7
    go_wp2_with fail
    refine (Hga.out _ Ha7.out).mono ?_
    rintro e x6 ⟨rfl, hf8⟩
    have hb8 := Hb7.out.keep hf8
    have ha8 := Ha7.out.keep hf8
    have hbx8 := Hbx7.out.frm hf8 (fun h => h)
    have hf8 := Hf7.out.trans hf8
    clear b0 b1 bl
    have b0 := (hbx8.cell 0).trans (show _ = some (Value.string nm) from rfl)
    have b1 := (hbx8.cell 1).trans (show _ = some (Value.string _) from rfl)
    have bl := hbx8.lt
    have Hb8 := Lib.hid hb8
    have Ha8 := Lib.hid ha8
    have Hbx8 := Lib.hid hbx8
    have Hf8 := Lib.hid hf8
    clear hb8 ha8 hbx8 hf8
    go_wp2_with fail
    refine (check_hv vb L2 _ Hb8.out Hg2.out).mono ?_
    rintro e wz ⟨rfl, hf9⟩
    have Hb8 := Lib.hid (Hb8.out.keep hf9)
    have Ha8 := Lib.hid (Ha8.out.keep hf9)
    have hbx9 := Hbx8.out.frm hf9 (fun h => h)
    have Hf8 := Lib.hid (Hf8.out.trans hf9)
    clear b0 b1 bl hf9
    have b0 := (hbx9.cell 0).trans (show _ = some (Value.string nm) from rfl)
    have b1 := (hbx9.cell 1).trans (show _ = some (Value.string _) from rfl)
    have bl := hbx9.lt
    by_cases hq : nm2 = nm
    · have hst := str_yes hq
      have fa9 := (Frm.refl noB wz).alloc (.cells #[.string nm, .string vl] 25)
      have hone9 := HV.one wz ⟨nm, vl⟩
      simp only at hone9
      have hb9 := Hb8.out.keep fa9
      have Hbx9 := Lib.hid hbx9
      have Hfa9 := Lib.hid fa9
      have Hone9 := Lib.hid hone9
      have Hb9 := Lib.hid hb9
      have Hq := Lib.hid hq
      clear hbx9 fa9 hone9 hb9 hq
      go_wp2_with fail
      refine (set_hv vb _ L2 [⟨nm, vl⟩] _ Hb9.out Hgl2.out Hg2.out.nd Hone9.out).mono ?_
      rintro e y1 ⟨vc, rfl, hc, hg1⟩
      rw [setAll_one, Hss.out] at hc
      have hb10 := Hb8.out.keep (Hfa9.out.trans hg1)
      have hf10 := (Hf8.out.trans Hfa9.out).trans hg1
      have Hc := Lib.hid hc
      have Hb10 := Lib.hid hb10
      have Hf10 := Lib.hid hf10
      clear hc hb10 hf10
      clear hg1
      go_wp2_with fail
      refine (row_hv vc vb _ _ _ Hc.out Hb10.out).mono ?_
      rintro e y2 ⟨rfl, hg2⟩
      rw [rowB_self]
      have hb11 := Hb10.out.keep hg2
      have hf11 := Hf10.out.trans hg2
      obtain ⟨vba, vbc, rfl, _⟩ := hb11.shape
      have h8 : decide ((L2.length : Int) ≤ 8) = true := decide_eq_true (by have := Hg2.out.len; omega)
      have Hb11 := Lib.hid hb11
      have Hf11 := Lib.hid hf11
      clear hb11 hf11
      clear hg2
      go_wp2_with fail
      refine (hlives_any _).mono ?_
      rintro e y3 ⟨rfl, hg3⟩
      have hf12 := Hf11.out.trans hg3
      have Hf12 := Lib.hid hf12
      clear hf12
      clear hg3
      go_wp2_with fail
      go_ret
      exact ⟨rfl, Hf12.out.below (Nat.le_refl _) (fun _ _ h => h)⟩
    · have hst := str_ne hq
      obtain ⟨o1, o2⟩ := Hoth.out hq
      have hga2 := fun w h => get_hv (.slice va1 L.length va2) L nm2 w h
      have hgb2 := fun w h => get_hv vb L2 nm2 w h
      rw [o1, o2] at hgb2
      generalize (getL L nm2).getD ⟨#[]⟩ = p1 at *
      generalize hasN L nm2 = p2 at *
      have t2 : (p1.toList == p1.toList) = true := by simp
      have t3 : (p2 == p2) = true := by simp
      have Hga2 := Lib.hid hga2
      have Hgb2 := Lib.hid hgb2
      have Ho1 := Lib.hid o1
      have Ho2 := Lib.hid o2
      have Hq := Lib.hid hq
      have Hbx9 := Lib.hid hbx9
      clear hga2 hgb2 o1 o2 hq hbx9
      go_wp2_with fail
      refine (Hga2.out _ Ha8.out).mono ?_
      rintro e wz1 ⟨rfl, hk1⟩
      have hb8 := Hb8.out.keep hk1
      have hbx9 := Hbx9.out.frm hk1 (fun h => h)
      have hf8 := Hf8.out.trans hk1
      clear hk1 Hb8 Hf8 Hbx9 b0 b1 bl
      have Hb8 := Lib.hid hb8
      have Hf8 := Lib.hid hf8
      have Hbx9 := Lib.hid hbx9
      clear hb8 hf8 hbx9
      go_wp2_with fail
      refine (Hgb2.out _ Hb8.out).mono ?_
      rintro e wz2 ⟨rfl, hk1⟩
      have hb8 := Hb8.out.keep hk1
      have hbx9 := Hbx9.out.frm hk1 (fun h => h)
      have hf8 := Hf8.out.trans hk1
      clear hk1 Hb8 Hf8 Hbx9
      have b0 := (hbx9.cell 0).trans (show _ = some (Value.string nm) from rfl)
      have b1 := (hbx9.cell 1).trans (show _ = some (Value.string _) from rfl)
      have bl := hbx9.lt
      have Hb8 := Lib.hid hb8
      have Hf8 := Lib.hid hf8
      clear hb8 hf8
      have fa9 := (Frm.refl noB wz2).alloc (.cells #[.string nm, .string vl] 25)
      have hone9 := HV.one wz2 ⟨nm, vl⟩
      simp only at hone9
      have hb9 := Hb8.out.keep fa9
      have Hbx9 := Lib.hid hbx9
      have Hfa9 := Lib.hid fa9
      have Hone9 := Lib.hid hone9
      have Hb9 := Lib.hid hb9
      clear hbx9 fa9 hone9 hb9
      go_wp2_with fail
      refine (set_hv vb _ L2 [⟨nm, vl⟩] _ Hb9.out Hgl2.out Hg2.out.nd Hone9.out).mono ?_
      rintro e y1 ⟨vc, rfl, hc, hg1⟩
      rw [setAll_one, Hss.out] at hc
      have hb10 := Hb8.out.keep (Hfa9.out.trans hg1)
      have hf10 := (Hf8.out.trans Hfa9.out).trans hg1
      have Hc := Lib.hid hc
      have Hb10 := Lib.hid hb10
      have Hf10 := Lib.hid hf10
      clear hc hb10 hf10
      clear hg1
      go_wp2_with fail
      refine (row_hv vc vb _ _ _ Hc.out Hb10.out).mono ?_
      rintro e y2 ⟨rfl, hg2⟩
      rw [rowB_self]
      have hb11 := Hb10.out.keep hg2
      have hf11 := Hf10.out.trans hg2
      obtain ⟨vba, vbc, rfl, _⟩ := hb11.shape
      have h8 : decide ((L2.length : Int) ≤ 8) = true := decide_eq_true (by have := Hg2.out.len; omega)
      have Hb11 := Lib.hid hb11
      have Hf11 := Lib.hid hf11
      clear hb11 hf11
      clear hg2
      go_wp2_with fail
      refine (hlives_any _).mono ?_
      rintro e y3 ⟨rfl, hg3⟩
      have hf12 := Hf11.out.trans hg3
      have Hf12 := Lib.hid hf12
      clear hf12
      clear hg3
      go_wp2_with fail
      go_ret
      exact ⟨rfl, Hf12.out.below (Nat.le_refl _) (fun _ _ h => h)⟩
end Go.Proofs.YtgajlpahhfenaaaDoor
