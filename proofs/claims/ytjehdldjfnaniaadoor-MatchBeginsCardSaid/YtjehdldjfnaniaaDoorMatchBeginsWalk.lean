/- The walk of the statement MatchBegins. -/
import Derived.Test.YtjehdldjfnaniaaDoorMatchRCmp
import Derived.Test.YtjehdldjfnaniaaDoorMatchFits
import Derived.Test.YtjehdldjfnaniaaDoorMatchLives
import Derived.Test.YtjehdldjfnaniaaDoorShaped
import Derived.Test.YtjehdldjfnaniaaDoorMatchPlain
import Derived.Test.YtjehdldjfnaniaaDoorTakeD
import Derived.StillTailTactics
import Derived.Deep.RegionHeld3
import Derived.Outline
set_option linter.unusedVariables false
set_option linter.unusedSimpArgs false
namespace Go.Proofs.YtjehdldjfnaniaaDoor
open Go.RowKit

theorem wpl_addg {w : World} {ops : Array Oper} {rest : List Oper} {o : Oper} {a : Act} {Q : Exit → Act → World → Prop} (hw : Region.wanted o (yielded ops a.tmps) = true) (x y : Operand)
    (ho : o.op = .binOp .add 9 x y 9) (vx vy v : Value) (hx : a.eval x = vx) (hy : a.eval y = vy) (hrun : (binOp .add 9 vx vy).run Tryd.prog w = .ok v w)
    (h : wpList Tryd.prog ops Q rest (a.put o.dst v) w) : wpList Tryd.prog ops Q (o :: rest) a w := by
  refine wpList_step fun K hK => ?_
  rw [if_pos hw]
  unfold Oper.wp
  simp [execOp, ho, hx, hy, hrun, eqGuard, Result.andThen]
  exact hK _ _ h
set_option maxRecDepth 100000 in
set_option maxHeartbeats 4000000 in
theorem matchBegins_walk (a0 : Int) (a1 : Int) (a2 : Int) (w0 : (Lit.int .i64 a0).wf = true) (w1 : (Lit.int .i64 a1).wf = true) (w2 : (Lit.int .i64 a2).wf = true) (w : World) (hmax : MaxL w) :
    Calls Tryd.prog 5 #[.int .i64 a0, .int .i64 a1, .int .i64 a2] w fun e w' => e = .returned (.bool true) ∧ Below w.heap.size w w' := by
  have hb0 := wf_i64 w0
  have hb1 := wf_i64 w1
  have hb2 := wf_i64 w2
  clear w0 w1 w2
  have p0 := fun w => pathof_any a0 w hb0.1 hb0.2
  have p1 := fun w => pathof_any a1 w hb1.1 hb1.2
  have p2 := fun w => pathof_any a2 w hb2.1 hb2.2
  have o0 := mZ_ok a0
  have o1 := mZ_ok a1
  have o2 := mZ_ok a2
  have l0 := mZ_len a0
  have l1 := mZ_len a1
  have l2 := mZ_len a2
  generalize mZ a0 = A at *
  generalize mZ a1 = B at *
  generalize mZ a2 = C at *
  have k0 : ∀ X Y : List (List UInt8), PartsOk X → PartsOk Y → (pathOf Y).length ≤ 9 → ∀ w (hm : MaxL w), Calls Tryd.prog 13 #[.agg #[.string (bs (pathOf X)), .bool false, .slice none 0 0], .string (bs (pathOf Y))] w fun e w' => e = .returned (.bool (X.isPrefixOf Y)) ∧ Frm noB w w' := fun X Y hX hY hl w hm => by
    have := on_any (bs (pathOf X)) false none 0 0 (bs (pathOf Y)) w (by rw [bs_size]; omega) hm
    rwa [on_path hX hY (by omega)] at this
  have aa := k0 A A o0 o0 l0
  have ab := k0 A B o0 o1 l1
  have ba := k0 B A o1 o0 l0
  have bc := k0 B C o1 o2 l2
  have ac := k0 A C o0 o2 l2
  have hcm : A.isPrefixOf B = true → ¬ A = B → ∀ w, Calls Tryd.prog 9 #[.agg #[.string (bs (pathOf B)), .bool false, .slice none 0 0], .agg #[.string (bs (pathOf A)), .bool false, .slice none 0 0]] w fun e w' => e = .returned (.int .i64 (-1)) ∧ Frm noB w w' := fun h hne w => by
    have := cmp_any (bs (pathOf B)) false none 0 0 (bs (pathOf A)) false none 0 0 w
    rwa [cmp_deeper o0 o1 h hne] at this
  have hsl : ∀ w (hm : MaxL w), Calls Tryd.prog 13 #[.agg #[.string ⟨#[47]⟩, .bool false, .slice none 0 0], .string (bs (pathOf C))] w fun e w' => e = .returned (.bool true) ∧ Frm noB w w' := fun w hm => by
    have := k0 [] C (fun p hp => by cases hp) o2 l2 w hm
    exact this
  have hcq : ∀ w (hm : MaxL w), Calls Tryd.prog 13 #[.agg #[.string (bs (pathOf C)), .bool false, .slice none 0 0], .string (bs (pathOf C) ++ ⟨#[47, 113]⟩)] w fun e w' => e = .returned (.bool (!decide (bs (pathOf C) = ⟨#[47]⟩))) ∧ Frm noB w w' := fun w hm => by
    have := on_any (bs (pathOf C)) false none 0 0 (bs (pathOf C) ++ ⟨#[47, 113]⟩) w (by rw [ByteArray.size_append, bs_size]; have : (⟨#[47, 113]⟩ : ByteArray).size = 2 := rfl; omega) hm
    rwa [on_more o2 l2] at this
  have hsum : (9223372036854775807 < (bs (pathOf C)).size + (⟨#[47, 113]⟩ : ByteArray).size) = False := by
    have : (⟨#[47, 113]⟩ : ByteArray).size = 2 := rfl
    simp; rw [bs_size]; omega
  have hadd := fun w => run_cat (bs (pathOf C)) (⟨#[47, 113]⟩ : ByteArray) (by rw [bs_size]; have : (⟨#[47, 113]⟩ : ByteArray).size = 2 := rfl; omega) w
  have q1 : A.isPrefixOf A = true := pre_self A
  have q2 : A.isPrefixOf B = true → B.isPrefixOf A = true → bs (pathOf A) = bs (pathOf B) := fun h1 h2 => by rw [pre_anti h1 h2]
  have q3 : A.isPrefixOf B = true → B.isPrefixOf C = true → A.isPrefixOf C = true := pre_trans
  have q4 : A.isPrefixOf C = true → B.isPrefixOf C = true → A.isPrefixOf B = true ∨ B.isPrefixOf A = true := pre_both
  have q5 : bs (pathOf A) = bs (pathOf B) ↔ A = B := ⟨fun h => pathOf_inj o0 o1 (bs_inj h), fun h => by rw [h]⟩
  rw [q1] at aa
  generalize A.isPrefixOf B = vab at *
  generalize B.isPrefixOf A = vba at *
  generalize B.isPrefixOf C = vbc at *
  generalize A.isPrefixOf C = vac at *
  generalize bs (pathOf A) = a at *
  generalize bs (pathOf B) = b at *
  generalize bs (pathOf C) = c at *
  obtain ⟨vq, hvq⟩ : ∃ v, v = decide (a = b) := ⟨_, rfl⟩
  obtain ⟨vs, hvs⟩ : ∃ v, v = decide (c = ⟨#[47]⟩) := ⟨_, rfl⟩
  rw [← hvs] at hcq
  have e1 : (a.toList == b.toList) = vq := by rw [str_beq, hvq, Bool.eq_iff_iff, decide_eq_true_eq, decide_eq_true_eq]; exact ⟨fun h => ba_ext h, fun h => by rw [h]⟩
  have e2 : (c.toList == [47]) = vs := by
    rw [hvs]
    by_cases hc : c = ⟨#[47]⟩
    · rw [decide_eq_true hc]; exact slash_yes hc
    · rw [decide_eq_false hc]; exact slash_test hc
  have hcm2 : vab = true → vq = false → ∀ w, Calls Tryd.prog 9 #[.agg #[.string b, .bool false, .slice none 0 0], .agg #[.string a, .bool false, .slice none 0 0]] w fun e w' => e = .returned (.int .i64 (-1)) ∧ Frm noB w w' := fun h1 h2 => hcm h1 (fun h => by rw [hvq, decide_eq_true (q5.2 h)] at h2; cases h2)
  have hk : (vab = true ∧ vba = true ∧ vq = true) ∨ ¬ (vab = true ∧ vba = true) := by
    by_cases h : vab = true ∧ vba = true
    · exact .inl ⟨h.1, h.2, by rw [hvq]; exact decide_eq_true (q2 h.1 h.2)⟩
    · exact .inr h
  clear q1 q2 q5 hcm k0 l0 l1 l2 o0 o1 o2 hb0 hb1 hb2
  have Hp0 := Lib.hid p0
  have Hp1 := Lib.hid p1
  have Hp2 := Lib.hid p2
  have Haa := Lib.hid aa
  have Hab := Lib.hid ab
  have Hba := Lib.hid ba
  have Hbc := Lib.hid bc
  have Hac := Lib.hid ac
  have Hsl := Lib.hid hsl
  have Hcq := Lib.hid hcq
  have Hsum := Lib.hid hsum
  have Hadd := Lib.hid hadd
  have Hq3 := Lib.hid q3
  have Hq4 := Lib.hid q4
  have Hvq := Lib.hid hvq
  have Hvs := Lib.hid hvs
  have Hcm2 := Lib.hid hcm2
  have Hk := Lib.hid hk
  have He1 := Lib.hid e1
  have He2 := Lib.hid e2
  clear p0 p1 p2 aa ab ba bc ac hsl hcq hsum hadd q3 q4 hvq hvs hcm2 hk e1 e2
  go_enter Tryd.func5, Tryd.ntmps5
  go_wp2_with fail
  refine (Hp0.out _).mono ?_
  rintro e y0 ⟨rfl, hg⟩
  have HF0 := Lib.hid ((Frm.refl noB w).trans hg)
  clear hg
  go_wp2_with fail
  refine (Hp1.out _).mono ?_
  rintro e y1 ⟨rfl, hg⟩
  have HF1 := Lib.hid (HF0.out.trans hg)
  clear hg
  go_wp2_with fail
  refine (Hp2.out _).mono ?_
  rintro e y2 ⟨rfl, hg⟩
  have HF2 := Lib.hid (HF1.out.trans hg)
  clear hg
  have hB1 := ((Blk.made y2 #[.string a, .bool false, .slice none 0 0] 25).alloc (.cells #[.string b, .bool false, .slice none 0 0] 25)).alloc (.cells #[.string c, .bool false, .slice none 0 0] 25)
  have hB2 := (blk_new (y2.alloc (.cells #[.string a, .bool false, .slice none 0 0] 25)) #[.string b, .bool false, .slice none 0 0] 25 (B := y2.heap.size + 1) (by simp)).alloc (.cells #[.string c, .bool false, .slice none 0 0] 25)
  have hB3 := blk_new ((y2.alloc (.cells #[.string a, .bool false, .slice none 0 0] 25)).alloc (.cells #[.string b, .bool false, .slice none 0 0] 25)) #[.string c, .bool false, .slice none 0 0] 25 (B := y2.heap.size + 1 + 1) (by simp)
  have hf := ((HF2.out.alloc (.cells #[.string a, .bool false, .slice none 0 0] 25)).alloc (.cells #[.string b, .bool false, .slice none 0 0] 25)).alloc (.cells #[.string c, .bool false, .slice none 0 0] 25)
  obtain ⟨W, hW⟩ : ∃ W, W = ((y2.alloc (.cells #[.string a, .bool false, .slice none 0 0] 25)).alloc (.cells #[.string b, .bool false, .slice none 0 0] 25)).alloc (.cells #[.string c, .bool false, .slice none 0 0] 25) := ⟨_, rfl⟩
  rw [← hW] at hB1 hB2 hB3 hf
  have HM := Lib.hid (hmax.keep hf)
  have HW := Lib.hid hW
  have HB1 := Lib.hid hB1
  have HB2 := Lib.hid hB2
  have HB3 := Lib.hid hB3
  have Hf := Lib.hid hf
  clear hW hB1 hB2 hB3 hf
  go_upto_region 7 with fail
  rw [← HW.out]
  cases vab
  · cases vba
    · cases vbc
      · cases vac
        · cases vq
          · have e1 := He1.out
            have e2 := He2.out
            have b1 := HB1.out
            go_wp2_with (first | (refine wpl_load_blk (by rfl) 25 _ (by rfl) _ (by rfl) _ _ (by exact b1) _ Tryd.underlying25 (by rfl) (by exact info_match) ?_))
            refine (Haa.out _ HM.out).mono ?_
            rintro e zq0 ⟨rfl, hg⟩
            clear b1
            have HDq0_1 := Lib.hid (HB1.out.frm hg (fun h => h))
            have HDq0_2 := Lib.hid (HB2.out.frm hg (fun h => h))
            have HDq0_3 := Lib.hid (HB3.out.frm hg (fun h => h))
            have HFq0 := Lib.hid (Hf.out.trans hg)
            have HMq0 := Lib.hid (HM.out.keep hg)
            clear hg
            have b1 := HDq0_1.out
            go_wp2_with (first | (refine wpl_load_blk (by rfl) 25 _ (by rfl) _ (by rfl) _ _ (by exact b1) _ Tryd.underlying25 (by rfl) (by exact info_match) ?_))
            refine (Hab.out _ HMq0.out).mono ?_
            rintro e zq1 ⟨rfl, hg⟩
            clear b1
            have HDq1_1 := Lib.hid (HDq0_1.out.frm hg (fun h => h))
            have HDq1_2 := Lib.hid (HDq0_2.out.frm hg (fun h => h))
            have HDq1_3 := Lib.hid (HDq0_3.out.frm hg (fun h => h))
            have HFq1 := Lib.hid (HFq0.out.trans hg)
            have HMq1 := Lib.hid (HMq0.out.keep hg)
            clear hg
            have b1 := HDq1_1.out
            go_wp2_with (first | (refine wpl_load_blk (by rfl) 25 _ (by rfl) _ (by rfl) _ _ (by exact b1) _ Tryd.underlying25 (by rfl) (by exact info_match) ?_))
            refine (Hab.out _ HMq1.out).mono ?_
            rintro e zq2 ⟨rfl, hg⟩
            clear b1
            have HDq2_1 := Lib.hid (HDq1_1.out.frm hg (fun h => h))
            have HDq2_2 := Lib.hid (HDq1_2.out.frm hg (fun h => h))
            have HDq2_3 := Lib.hid (HDq1_3.out.frm hg (fun h => h))
            have HFq2 := Lib.hid (HFq1.out.trans hg)
            have HMq2 := Lib.hid (HMq1.out.keep hg)
            clear hg
            have b1 := HDq2_1.out
            go_wp2_with (first | (refine wpl_load_blk (by rfl) 25 _ (by rfl) _ (by rfl) _ _ (by exact b1) _ Tryd.underlying25 (by rfl) (by exact info_match) ?_))
            refine (Hac.out _ HMq2.out).mono ?_
            rintro e zq3 ⟨rfl, hg⟩
            clear b1
            have HDq3_1 := Lib.hid (HDq2_1.out.frm hg (fun h => h))
            have HDq3_2 := Lib.hid (HDq2_2.out.frm hg (fun h => h))
            have HDq3_3 := Lib.hid (HDq2_3.out.frm hg (fun h => h))
            have HFq3 := Lib.hid (HFq2.out.trans hg)
            have HMq3 := Lib.hid (HMq2.out.keep hg)
            clear hg
            have b1 := HDq3_1.out
            go_wp2_with (first | (refine wpl_load_blk (by rfl) 25 _ (by rfl) _ (by rfl) _ _ (by exact b1) _ Tryd.underlying25 (by rfl) (by exact info_match) ?_))
            refine (Hab.out _ HMq3.out).mono ?_
            rintro e zq4 ⟨rfl, hg⟩
            clear b1
            have HDq4_1 := Lib.hid (HDq3_1.out.frm hg (fun h => h))
            have HDq4_2 := Lib.hid (HDq3_2.out.frm hg (fun h => h))
            have HDq4_3 := Lib.hid (HDq3_3.out.frm hg (fun h => h))
            have HFq4 := Lib.hid (HFq3.out.trans hg)
            have HMq4 := Lib.hid (HMq3.out.keep hg)
            clear hg
            go_wp2_with fail
            refine (Hsl.out _ HMq4.out).mono ?_
            rintro e zq5 ⟨rfl, hg⟩
            have HDq5_1 := Lib.hid (HDq4_1.out.frm hg (fun h => h))
            have HDq5_2 := Lib.hid (HDq4_2.out.frm hg (fun h => h))
            have HDq5_3 := Lib.hid (HDq4_3.out.frm hg (fun h => h))
            have HFq5 := Lib.hid (HFq4.out.trans hg)
            have HMq5 := Lib.hid (HMq4.out.keep hg)
            clear hg
            have b3 := HDq5_3.out
            go_wp2_with (first | (refine wpl_load_blk (by rfl) 25 _ (by rfl) _ (by rfl) _ _ (by exact b3) _ Tryd.underlying25 (by rfl) (by exact info_match) ?_) | (refine wpl_addg (by rfl) _ _ (by rfl) _ _ _ (by rfl) (by rfl) (Hadd.out _) ?_))
            refine (Hcq.out _ HMq5.out).mono ?_
            rintro e zq6 ⟨rfl, hg⟩
            clear b3
            have HDq6_1 := Lib.hid (HDq5_1.out.frm hg (fun h => h))
            have HDq6_2 := Lib.hid (HDq5_2.out.frm hg (fun h => h))
            have HDq6_3 := Lib.hid (HDq5_3.out.frm hg (fun h => h))
            have HFq6 := Lib.hid (HFq5.out.trans hg)
            have HMq6 := Lib.hid (HMq5.out.keep hg)
            clear hg
            go_wp2_with fail
            refine (mlives_any _ HMq6.out).mono ?_
            rintro e zq7 ⟨rfl, hg⟩
            have HDq7_1 := Lib.hid (HDq6_1.out.frm hg (fun h => h))
            have HDq7_2 := Lib.hid (HDq6_2.out.frm hg (fun h => h))
            have HDq7_3 := Lib.hid (HDq6_3.out.frm hg (fun h => h))
            have HFq7 := Lib.hid (HFq6.out.trans hg)
            have HMq7 := Lib.hid (HMq6.out.keep hg)
            clear hg
            go_wp2_with fail
            go_ret
            exact ⟨rfl, HFq7.out.below (Nat.le_refl _) (fun _ _ h => h)⟩
          · have e1 := He1.out
            have e2 := He2.out
            have b1 := HB1.out
            go_wp2_with (first | (refine wpl_load_blk (by rfl) 25 _ (by rfl) _ (by rfl) _ _ (by exact b1) _ Tryd.underlying25 (by rfl) (by exact info_match) ?_))
            refine (Haa.out _ HM.out).mono ?_
            rintro e zq0 ⟨rfl, hg⟩
            clear b1
            have HDq0_1 := Lib.hid (HB1.out.frm hg (fun h => h))
            have HDq0_2 := Lib.hid (HB2.out.frm hg (fun h => h))
            have HDq0_3 := Lib.hid (HB3.out.frm hg (fun h => h))
            have HFq0 := Lib.hid (Hf.out.trans hg)
            have HMq0 := Lib.hid (HM.out.keep hg)
            clear hg
            have b1 := HDq0_1.out
            go_wp2_with (first | (refine wpl_load_blk (by rfl) 25 _ (by rfl) _ (by rfl) _ _ (by exact b1) _ Tryd.underlying25 (by rfl) (by exact info_match) ?_))
            refine (Hab.out _ HMq0.out).mono ?_
            rintro e zq1 ⟨rfl, hg⟩
            clear b1
            have HDq1_1 := Lib.hid (HDq0_1.out.frm hg (fun h => h))
            have HDq1_2 := Lib.hid (HDq0_2.out.frm hg (fun h => h))
            have HDq1_3 := Lib.hid (HDq0_3.out.frm hg (fun h => h))
            have HFq1 := Lib.hid (HFq0.out.trans hg)
            have HMq1 := Lib.hid (HMq0.out.keep hg)
            clear hg
            have b1 := HDq1_1.out
            go_wp2_with (first | (refine wpl_load_blk (by rfl) 25 _ (by rfl) _ (by rfl) _ _ (by exact b1) _ Tryd.underlying25 (by rfl) (by exact info_match) ?_))
            refine (Hab.out _ HMq1.out).mono ?_
            rintro e zq2 ⟨rfl, hg⟩
            clear b1
            have HDq2_1 := Lib.hid (HDq1_1.out.frm hg (fun h => h))
            have HDq2_2 := Lib.hid (HDq1_2.out.frm hg (fun h => h))
            have HDq2_3 := Lib.hid (HDq1_3.out.frm hg (fun h => h))
            have HFq2 := Lib.hid (HFq1.out.trans hg)
            have HMq2 := Lib.hid (HMq1.out.keep hg)
            clear hg
            have b1 := HDq2_1.out
            go_wp2_with (first | (refine wpl_load_blk (by rfl) 25 _ (by rfl) _ (by rfl) _ _ (by exact b1) _ Tryd.underlying25 (by rfl) (by exact info_match) ?_))
            refine (Hac.out _ HMq2.out).mono ?_
            rintro e zq3 ⟨rfl, hg⟩
            clear b1
            have HDq3_1 := Lib.hid (HDq2_1.out.frm hg (fun h => h))
            have HDq3_2 := Lib.hid (HDq2_2.out.frm hg (fun h => h))
            have HDq3_3 := Lib.hid (HDq2_3.out.frm hg (fun h => h))
            have HFq3 := Lib.hid (HFq2.out.trans hg)
            have HMq3 := Lib.hid (HMq2.out.keep hg)
            clear hg
            have b1 := HDq3_1.out
            go_wp2_with (first | (refine wpl_load_blk (by rfl) 25 _ (by rfl) _ (by rfl) _ _ (by exact b1) _ Tryd.underlying25 (by rfl) (by exact info_match) ?_))
            refine (Hab.out _ HMq3.out).mono ?_
            rintro e zq4 ⟨rfl, hg⟩
            clear b1
            have HDq4_1 := Lib.hid (HDq3_1.out.frm hg (fun h => h))
            have HDq4_2 := Lib.hid (HDq3_2.out.frm hg (fun h => h))
            have HDq4_3 := Lib.hid (HDq3_3.out.frm hg (fun h => h))
            have HFq4 := Lib.hid (HFq3.out.trans hg)
            have HMq4 := Lib.hid (HMq3.out.keep hg)
            clear hg
            go_wp2_with fail
            refine (Hsl.out _ HMq4.out).mono ?_
            rintro e zq5 ⟨rfl, hg⟩
            have HDq5_1 := Lib.hid (HDq4_1.out.frm hg (fun h => h))
            have HDq5_2 := Lib.hid (HDq4_2.out.frm hg (fun h => h))
            have HDq5_3 := Lib.hid (HDq4_3.out.frm hg (fun h => h))
            have HFq5 := Lib.hid (HFq4.out.trans hg)
            have HMq5 := Lib.hid (HMq4.out.keep hg)
            clear hg
            have b3 := HDq5_3.out
            go_wp2_with (first | (refine wpl_load_blk (by rfl) 25 _ (by rfl) _ (by rfl) _ _ (by exact b3) _ Tryd.underlying25 (by rfl) (by exact info_match) ?_) | (refine wpl_addg (by rfl) _ _ (by rfl) _ _ _ (by rfl) (by rfl) (Hadd.out _) ?_))
            refine (Hcq.out _ HMq5.out).mono ?_
            rintro e zq6 ⟨rfl, hg⟩
            clear b3
            have HDq6_1 := Lib.hid (HDq5_1.out.frm hg (fun h => h))
            have HDq6_2 := Lib.hid (HDq5_2.out.frm hg (fun h => h))
            have HDq6_3 := Lib.hid (HDq5_3.out.frm hg (fun h => h))
            have HFq6 := Lib.hid (HFq5.out.trans hg)
            have HMq6 := Lib.hid (HMq5.out.keep hg)
            clear hg
            go_wp2_with fail
            refine (mlives_any _ HMq6.out).mono ?_
            rintro e zq7 ⟨rfl, hg⟩
            have HDq7_1 := Lib.hid (HDq6_1.out.frm hg (fun h => h))
            have HDq7_2 := Lib.hid (HDq6_2.out.frm hg (fun h => h))
            have HDq7_3 := Lib.hid (HDq6_3.out.frm hg (fun h => h))
            have HFq7 := Lib.hid (HFq6.out.trans hg)
            have HMq7 := Lib.hid (HMq6.out.keep hg)
            clear hg
            go_wp2_with fail
            go_ret
            exact ⟨rfl, HFq7.out.below (Nat.le_refl _) (fun _ _ h => h)⟩
        · cases vq
          · have e1 := He1.out
            have e2 := He2.out
            have b1 := HB1.out
            go_wp2_with (first | (refine wpl_load_blk (by rfl) 25 _ (by rfl) _ (by rfl) _ _ (by exact b1) _ Tryd.underlying25 (by rfl) (by exact info_match) ?_))
            refine (Haa.out _ HM.out).mono ?_
            rintro e zq0 ⟨rfl, hg⟩
            clear b1
            have HDq0_1 := Lib.hid (HB1.out.frm hg (fun h => h))
            have HDq0_2 := Lib.hid (HB2.out.frm hg (fun h => h))
            have HDq0_3 := Lib.hid (HB3.out.frm hg (fun h => h))
            have HFq0 := Lib.hid (Hf.out.trans hg)
            have HMq0 := Lib.hid (HM.out.keep hg)
            clear hg
            have b1 := HDq0_1.out
            go_wp2_with (first | (refine wpl_load_blk (by rfl) 25 _ (by rfl) _ (by rfl) _ _ (by exact b1) _ Tryd.underlying25 (by rfl) (by exact info_match) ?_))
            refine (Hab.out _ HMq0.out).mono ?_
            rintro e zq1 ⟨rfl, hg⟩
            clear b1
            have HDq1_1 := Lib.hid (HDq0_1.out.frm hg (fun h => h))
            have HDq1_2 := Lib.hid (HDq0_2.out.frm hg (fun h => h))
            have HDq1_3 := Lib.hid (HDq0_3.out.frm hg (fun h => h))
            have HFq1 := Lib.hid (HFq0.out.trans hg)
            have HMq1 := Lib.hid (HMq0.out.keep hg)
            clear hg
            have b1 := HDq1_1.out
            go_wp2_with (first | (refine wpl_load_blk (by rfl) 25 _ (by rfl) _ (by rfl) _ _ (by exact b1) _ Tryd.underlying25 (by rfl) (by exact info_match) ?_))
            refine (Hab.out _ HMq1.out).mono ?_
            rintro e zq2 ⟨rfl, hg⟩
            clear b1
            have HDq2_1 := Lib.hid (HDq1_1.out.frm hg (fun h => h))
            have HDq2_2 := Lib.hid (HDq1_2.out.frm hg (fun h => h))
            have HDq2_3 := Lib.hid (HDq1_3.out.frm hg (fun h => h))
            have HFq2 := Lib.hid (HFq1.out.trans hg)
            have HMq2 := Lib.hid (HMq1.out.keep hg)
            clear hg
            have b1 := HDq2_1.out
            go_wp2_with (first | (refine wpl_load_blk (by rfl) 25 _ (by rfl) _ (by rfl) _ _ (by exact b1) _ Tryd.underlying25 (by rfl) (by exact info_match) ?_))
            refine (Hac.out _ HMq2.out).mono ?_
            rintro e zq3 ⟨rfl, hg⟩
            clear b1
            have HDq3_1 := Lib.hid (HDq2_1.out.frm hg (fun h => h))
            have HDq3_2 := Lib.hid (HDq2_2.out.frm hg (fun h => h))
            have HDq3_3 := Lib.hid (HDq2_3.out.frm hg (fun h => h))
            have HFq3 := Lib.hid (HFq2.out.trans hg)
            have HMq3 := Lib.hid (HMq2.out.keep hg)
            clear hg
            have b2 := HDq3_2.out
            go_wp2_with (first | (refine wpl_load_blk (by rfl) 25 _ (by rfl) _ (by rfl) _ _ (by exact b2) _ Tryd.underlying25 (by rfl) (by exact info_match) ?_))
            refine (Hbc.out _ HMq3.out).mono ?_
            rintro e zq4 ⟨rfl, hg⟩
            clear b2
            have HDq4_1 := Lib.hid (HDq3_1.out.frm hg (fun h => h))
            have HDq4_2 := Lib.hid (HDq3_2.out.frm hg (fun h => h))
            have HDq4_3 := Lib.hid (HDq3_3.out.frm hg (fun h => h))
            have HFq4 := Lib.hid (HFq3.out.trans hg)
            have HMq4 := Lib.hid (HMq3.out.keep hg)
            clear hg
            have b1 := HDq4_1.out
            go_wp2_with (first | (refine wpl_load_blk (by rfl) 25 _ (by rfl) _ (by rfl) _ _ (by exact b1) _ Tryd.underlying25 (by rfl) (by exact info_match) ?_))
            refine (Hab.out _ HMq4.out).mono ?_
            rintro e zq5 ⟨rfl, hg⟩
            clear b1
            have HDq5_1 := Lib.hid (HDq4_1.out.frm hg (fun h => h))
            have HDq5_2 := Lib.hid (HDq4_2.out.frm hg (fun h => h))
            have HDq5_3 := Lib.hid (HDq4_3.out.frm hg (fun h => h))
            have HFq5 := Lib.hid (HFq4.out.trans hg)
            have HMq5 := Lib.hid (HMq4.out.keep hg)
            clear hg
            go_wp2_with fail
            refine (Hsl.out _ HMq5.out).mono ?_
            rintro e zq6 ⟨rfl, hg⟩
            have HDq6_1 := Lib.hid (HDq5_1.out.frm hg (fun h => h))
            have HDq6_2 := Lib.hid (HDq5_2.out.frm hg (fun h => h))
            have HDq6_3 := Lib.hid (HDq5_3.out.frm hg (fun h => h))
            have HFq6 := Lib.hid (HFq5.out.trans hg)
            have HMq6 := Lib.hid (HMq5.out.keep hg)
            clear hg
            have b3 := HDq6_3.out
            go_wp2_with (first | (refine wpl_load_blk (by rfl) 25 _ (by rfl) _ (by rfl) _ _ (by exact b3) _ Tryd.underlying25 (by rfl) (by exact info_match) ?_) | (refine wpl_addg (by rfl) _ _ (by rfl) _ _ _ (by rfl) (by rfl) (Hadd.out _) ?_))
            refine (Hcq.out _ HMq6.out).mono ?_
            rintro e zq7 ⟨rfl, hg⟩
            clear b3
            have HDq7_1 := Lib.hid (HDq6_1.out.frm hg (fun h => h))
            have HDq7_2 := Lib.hid (HDq6_2.out.frm hg (fun h => h))
            have HDq7_3 := Lib.hid (HDq6_3.out.frm hg (fun h => h))
            have HFq7 := Lib.hid (HFq6.out.trans hg)
            have HMq7 := Lib.hid (HMq6.out.keep hg)
            clear hg
            go_wp2_with fail
            refine (mlives_any _ HMq7.out).mono ?_
            rintro e zq8 ⟨rfl, hg⟩
            have HDq8_1 := Lib.hid (HDq7_1.out.frm hg (fun h => h))
            have HDq8_2 := Lib.hid (HDq7_2.out.frm hg (fun h => h))
            have HDq8_3 := Lib.hid (HDq7_3.out.frm hg (fun h => h))
            have HFq8 := Lib.hid (HFq7.out.trans hg)
            have HMq8 := Lib.hid (HMq7.out.keep hg)
            clear hg
            go_wp2_with fail
            go_ret
            exact ⟨rfl, HFq8.out.below (Nat.le_refl _) (fun _ _ h => h)⟩
          · have e1 := He1.out
            have e2 := He2.out
            have b1 := HB1.out
            go_wp2_with (first | (refine wpl_load_blk (by rfl) 25 _ (by rfl) _ (by rfl) _ _ (by exact b1) _ Tryd.underlying25 (by rfl) (by exact info_match) ?_))
            refine (Haa.out _ HM.out).mono ?_
            rintro e zq0 ⟨rfl, hg⟩
            clear b1
            have HDq0_1 := Lib.hid (HB1.out.frm hg (fun h => h))
            have HDq0_2 := Lib.hid (HB2.out.frm hg (fun h => h))
            have HDq0_3 := Lib.hid (HB3.out.frm hg (fun h => h))
            have HFq0 := Lib.hid (Hf.out.trans hg)
            have HMq0 := Lib.hid (HM.out.keep hg)
            clear hg
            have b1 := HDq0_1.out
            go_wp2_with (first | (refine wpl_load_blk (by rfl) 25 _ (by rfl) _ (by rfl) _ _ (by exact b1) _ Tryd.underlying25 (by rfl) (by exact info_match) ?_))
            refine (Hab.out _ HMq0.out).mono ?_
            rintro e zq1 ⟨rfl, hg⟩
            clear b1
            have HDq1_1 := Lib.hid (HDq0_1.out.frm hg (fun h => h))
            have HDq1_2 := Lib.hid (HDq0_2.out.frm hg (fun h => h))
            have HDq1_3 := Lib.hid (HDq0_3.out.frm hg (fun h => h))
            have HFq1 := Lib.hid (HFq0.out.trans hg)
            have HMq1 := Lib.hid (HMq0.out.keep hg)
            clear hg
            have b1 := HDq1_1.out
            go_wp2_with (first | (refine wpl_load_blk (by rfl) 25 _ (by rfl) _ (by rfl) _ _ (by exact b1) _ Tryd.underlying25 (by rfl) (by exact info_match) ?_))
            refine (Hab.out _ HMq1.out).mono ?_
            rintro e zq2 ⟨rfl, hg⟩
            clear b1
            have HDq2_1 := Lib.hid (HDq1_1.out.frm hg (fun h => h))
            have HDq2_2 := Lib.hid (HDq1_2.out.frm hg (fun h => h))
            have HDq2_3 := Lib.hid (HDq1_3.out.frm hg (fun h => h))
            have HFq2 := Lib.hid (HFq1.out.trans hg)
            have HMq2 := Lib.hid (HMq1.out.keep hg)
            clear hg
            have b1 := HDq2_1.out
            go_wp2_with (first | (refine wpl_load_blk (by rfl) 25 _ (by rfl) _ (by rfl) _ _ (by exact b1) _ Tryd.underlying25 (by rfl) (by exact info_match) ?_))
            refine (Hac.out _ HMq2.out).mono ?_
            rintro e zq3 ⟨rfl, hg⟩
            clear b1
            have HDq3_1 := Lib.hid (HDq2_1.out.frm hg (fun h => h))
            have HDq3_2 := Lib.hid (HDq2_2.out.frm hg (fun h => h))
            have HDq3_3 := Lib.hid (HDq2_3.out.frm hg (fun h => h))
            have HFq3 := Lib.hid (HFq2.out.trans hg)
            have HMq3 := Lib.hid (HMq2.out.keep hg)
            clear hg
            have b2 := HDq3_2.out
            go_wp2_with (first | (refine wpl_load_blk (by rfl) 25 _ (by rfl) _ (by rfl) _ _ (by exact b2) _ Tryd.underlying25 (by rfl) (by exact info_match) ?_))
            refine (Hbc.out _ HMq3.out).mono ?_
            rintro e zq4 ⟨rfl, hg⟩
            clear b2
            have HDq4_1 := Lib.hid (HDq3_1.out.frm hg (fun h => h))
            have HDq4_2 := Lib.hid (HDq3_2.out.frm hg (fun h => h))
            have HDq4_3 := Lib.hid (HDq3_3.out.frm hg (fun h => h))
            have HFq4 := Lib.hid (HFq3.out.trans hg)
            have HMq4 := Lib.hid (HMq3.out.keep hg)
            clear hg
            have b1 := HDq4_1.out
            go_wp2_with (first | (refine wpl_load_blk (by rfl) 25 _ (by rfl) _ (by rfl) _ _ (by exact b1) _ Tryd.underlying25 (by rfl) (by exact info_match) ?_))
            refine (Hab.out _ HMq4.out).mono ?_
            rintro e zq5 ⟨rfl, hg⟩
            clear b1
            have HDq5_1 := Lib.hid (HDq4_1.out.frm hg (fun h => h))
            have HDq5_2 := Lib.hid (HDq4_2.out.frm hg (fun h => h))
            have HDq5_3 := Lib.hid (HDq4_3.out.frm hg (fun h => h))
            have HFq5 := Lib.hid (HFq4.out.trans hg)
            have HMq5 := Lib.hid (HMq4.out.keep hg)
            clear hg
            go_wp2_with fail
            refine (Hsl.out _ HMq5.out).mono ?_
            rintro e zq6 ⟨rfl, hg⟩
            have HDq6_1 := Lib.hid (HDq5_1.out.frm hg (fun h => h))
            have HDq6_2 := Lib.hid (HDq5_2.out.frm hg (fun h => h))
            have HDq6_3 := Lib.hid (HDq5_3.out.frm hg (fun h => h))
            have HFq6 := Lib.hid (HFq5.out.trans hg)
            have HMq6 := Lib.hid (HMq5.out.keep hg)
            clear hg
            have b3 := HDq6_3.out
            go_wp2_with (first | (refine wpl_load_blk (by rfl) 25 _ (by rfl) _ (by rfl) _ _ (by exact b3) _ Tryd.underlying25 (by rfl) (by exact info_match) ?_) | (refine wpl_addg (by rfl) _ _ (by rfl) _ _ _ (by rfl) (by rfl) (Hadd.out _) ?_))
            refine (Hcq.out _ HMq6.out).mono ?_
            rintro e zq7 ⟨rfl, hg⟩
            clear b3
            have HDq7_1 := Lib.hid (HDq6_1.out.frm hg (fun h => h))
            have HDq7_2 := Lib.hid (HDq6_2.out.frm hg (fun h => h))
            have HDq7_3 := Lib.hid (HDq6_3.out.frm hg (fun h => h))
            have HFq7 := Lib.hid (HFq6.out.trans hg)
            have HMq7 := Lib.hid (HMq6.out.keep hg)
            clear hg
            go_wp2_with fail
            refine (mlives_any _ HMq7.out).mono ?_
            rintro e zq8 ⟨rfl, hg⟩
            have HDq8_1 := Lib.hid (HDq7_1.out.frm hg (fun h => h))
            have HDq8_2 := Lib.hid (HDq7_2.out.frm hg (fun h => h))
            have HDq8_3 := Lib.hid (HDq7_3.out.frm hg (fun h => h))
            have HFq8 := Lib.hid (HFq7.out.trans hg)
            have HMq8 := Lib.hid (HMq7.out.keep hg)
            clear hg
            go_wp2_with fail
            go_ret
            exact ⟨rfl, HFq8.out.below (Nat.le_refl _) (fun _ _ h => h)⟩
      · cases vac
        · cases vq
          · have e1 := He1.out
            have e2 := He2.out
            have b1 := HB1.out
            go_wp2_with (first | (refine wpl_load_blk (by rfl) 25 _ (by rfl) _ (by rfl) _ _ (by exact b1) _ Tryd.underlying25 (by rfl) (by exact info_match) ?_))
            refine (Haa.out _ HM.out).mono ?_
            rintro e zq0 ⟨rfl, hg⟩
            clear b1
            have HDq0_1 := Lib.hid (HB1.out.frm hg (fun h => h))
            have HDq0_2 := Lib.hid (HB2.out.frm hg (fun h => h))
            have HDq0_3 := Lib.hid (HB3.out.frm hg (fun h => h))
            have HFq0 := Lib.hid (Hf.out.trans hg)
            have HMq0 := Lib.hid (HM.out.keep hg)
            clear hg
            have b1 := HDq0_1.out
            go_wp2_with (first | (refine wpl_load_blk (by rfl) 25 _ (by rfl) _ (by rfl) _ _ (by exact b1) _ Tryd.underlying25 (by rfl) (by exact info_match) ?_))
            refine (Hab.out _ HMq0.out).mono ?_
            rintro e zq1 ⟨rfl, hg⟩
            clear b1
            have HDq1_1 := Lib.hid (HDq0_1.out.frm hg (fun h => h))
            have HDq1_2 := Lib.hid (HDq0_2.out.frm hg (fun h => h))
            have HDq1_3 := Lib.hid (HDq0_3.out.frm hg (fun h => h))
            have HFq1 := Lib.hid (HFq0.out.trans hg)
            have HMq1 := Lib.hid (HMq0.out.keep hg)
            clear hg
            have b1 := HDq1_1.out
            go_wp2_with (first | (refine wpl_load_blk (by rfl) 25 _ (by rfl) _ (by rfl) _ _ (by exact b1) _ Tryd.underlying25 (by rfl) (by exact info_match) ?_))
            refine (Hab.out _ HMq1.out).mono ?_
            rintro e zq2 ⟨rfl, hg⟩
            clear b1
            have HDq2_1 := Lib.hid (HDq1_1.out.frm hg (fun h => h))
            have HDq2_2 := Lib.hid (HDq1_2.out.frm hg (fun h => h))
            have HDq2_3 := Lib.hid (HDq1_3.out.frm hg (fun h => h))
            have HFq2 := Lib.hid (HFq1.out.trans hg)
            have HMq2 := Lib.hid (HMq1.out.keep hg)
            clear hg
            have b1 := HDq2_1.out
            go_wp2_with (first | (refine wpl_load_blk (by rfl) 25 _ (by rfl) _ (by rfl) _ _ (by exact b1) _ Tryd.underlying25 (by rfl) (by exact info_match) ?_))
            refine (Hac.out _ HMq2.out).mono ?_
            rintro e zq3 ⟨rfl, hg⟩
            clear b1
            have HDq3_1 := Lib.hid (HDq2_1.out.frm hg (fun h => h))
            have HDq3_2 := Lib.hid (HDq2_2.out.frm hg (fun h => h))
            have HDq3_3 := Lib.hid (HDq2_3.out.frm hg (fun h => h))
            have HFq3 := Lib.hid (HFq2.out.trans hg)
            have HMq3 := Lib.hid (HMq2.out.keep hg)
            clear hg
            have b1 := HDq3_1.out
            go_wp2_with (first | (refine wpl_load_blk (by rfl) 25 _ (by rfl) _ (by rfl) _ _ (by exact b1) _ Tryd.underlying25 (by rfl) (by exact info_match) ?_))
            refine (Hab.out _ HMq3.out).mono ?_
            rintro e zq4 ⟨rfl, hg⟩
            clear b1
            have HDq4_1 := Lib.hid (HDq3_1.out.frm hg (fun h => h))
            have HDq4_2 := Lib.hid (HDq3_2.out.frm hg (fun h => h))
            have HDq4_3 := Lib.hid (HDq3_3.out.frm hg (fun h => h))
            have HFq4 := Lib.hid (HFq3.out.trans hg)
            have HMq4 := Lib.hid (HMq3.out.keep hg)
            clear hg
            go_wp2_with fail
            refine (Hsl.out _ HMq4.out).mono ?_
            rintro e zq5 ⟨rfl, hg⟩
            have HDq5_1 := Lib.hid (HDq4_1.out.frm hg (fun h => h))
            have HDq5_2 := Lib.hid (HDq4_2.out.frm hg (fun h => h))
            have HDq5_3 := Lib.hid (HDq4_3.out.frm hg (fun h => h))
            have HFq5 := Lib.hid (HFq4.out.trans hg)
            have HMq5 := Lib.hid (HMq4.out.keep hg)
            clear hg
            have b3 := HDq5_3.out
            go_wp2_with (first | (refine wpl_load_blk (by rfl) 25 _ (by rfl) _ (by rfl) _ _ (by exact b3) _ Tryd.underlying25 (by rfl) (by exact info_match) ?_) | (refine wpl_addg (by rfl) _ _ (by rfl) _ _ _ (by rfl) (by rfl) (Hadd.out _) ?_))
            refine (Hcq.out _ HMq5.out).mono ?_
            rintro e zq6 ⟨rfl, hg⟩
            clear b3
            have HDq6_1 := Lib.hid (HDq5_1.out.frm hg (fun h => h))
            have HDq6_2 := Lib.hid (HDq5_2.out.frm hg (fun h => h))
            have HDq6_3 := Lib.hid (HDq5_3.out.frm hg (fun h => h))
            have HFq6 := Lib.hid (HFq5.out.trans hg)
            have HMq6 := Lib.hid (HMq5.out.keep hg)
            clear hg
            go_wp2_with fail
            refine (mlives_any _ HMq6.out).mono ?_
            rintro e zq7 ⟨rfl, hg⟩
            have HDq7_1 := Lib.hid (HDq6_1.out.frm hg (fun h => h))
            have HDq7_2 := Lib.hid (HDq6_2.out.frm hg (fun h => h))
            have HDq7_3 := Lib.hid (HDq6_3.out.frm hg (fun h => h))
            have HFq7 := Lib.hid (HFq6.out.trans hg)
            have HMq7 := Lib.hid (HMq6.out.keep hg)
            clear hg
            go_wp2_with fail
            go_ret
            exact ⟨rfl, HFq7.out.below (Nat.le_refl _) (fun _ _ h => h)⟩
          · have e1 := He1.out
            have e2 := He2.out
            have b1 := HB1.out
            go_wp2_with (first | (refine wpl_load_blk (by rfl) 25 _ (by rfl) _ (by rfl) _ _ (by exact b1) _ Tryd.underlying25 (by rfl) (by exact info_match) ?_))
            refine (Haa.out _ HM.out).mono ?_
            rintro e zq0 ⟨rfl, hg⟩
            clear b1
            have HDq0_1 := Lib.hid (HB1.out.frm hg (fun h => h))
            have HDq0_2 := Lib.hid (HB2.out.frm hg (fun h => h))
            have HDq0_3 := Lib.hid (HB3.out.frm hg (fun h => h))
            have HFq0 := Lib.hid (Hf.out.trans hg)
            have HMq0 := Lib.hid (HM.out.keep hg)
            clear hg
            have b1 := HDq0_1.out
            go_wp2_with (first | (refine wpl_load_blk (by rfl) 25 _ (by rfl) _ (by rfl) _ _ (by exact b1) _ Tryd.underlying25 (by rfl) (by exact info_match) ?_))
            refine (Hab.out _ HMq0.out).mono ?_
            rintro e zq1 ⟨rfl, hg⟩
            clear b1
            have HDq1_1 := Lib.hid (HDq0_1.out.frm hg (fun h => h))
            have HDq1_2 := Lib.hid (HDq0_2.out.frm hg (fun h => h))
            have HDq1_3 := Lib.hid (HDq0_3.out.frm hg (fun h => h))
            have HFq1 := Lib.hid (HFq0.out.trans hg)
            have HMq1 := Lib.hid (HMq0.out.keep hg)
            clear hg
            have b1 := HDq1_1.out
            go_wp2_with (first | (refine wpl_load_blk (by rfl) 25 _ (by rfl) _ (by rfl) _ _ (by exact b1) _ Tryd.underlying25 (by rfl) (by exact info_match) ?_))
            refine (Hab.out _ HMq1.out).mono ?_
            rintro e zq2 ⟨rfl, hg⟩
            clear b1
            have HDq2_1 := Lib.hid (HDq1_1.out.frm hg (fun h => h))
            have HDq2_2 := Lib.hid (HDq1_2.out.frm hg (fun h => h))
            have HDq2_3 := Lib.hid (HDq1_3.out.frm hg (fun h => h))
            have HFq2 := Lib.hid (HFq1.out.trans hg)
            have HMq2 := Lib.hid (HMq1.out.keep hg)
            clear hg
            have b1 := HDq2_1.out
            go_wp2_with (first | (refine wpl_load_blk (by rfl) 25 _ (by rfl) _ (by rfl) _ _ (by exact b1) _ Tryd.underlying25 (by rfl) (by exact info_match) ?_))
            refine (Hac.out _ HMq2.out).mono ?_
            rintro e zq3 ⟨rfl, hg⟩
            clear b1
            have HDq3_1 := Lib.hid (HDq2_1.out.frm hg (fun h => h))
            have HDq3_2 := Lib.hid (HDq2_2.out.frm hg (fun h => h))
            have HDq3_3 := Lib.hid (HDq2_3.out.frm hg (fun h => h))
            have HFq3 := Lib.hid (HFq2.out.trans hg)
            have HMq3 := Lib.hid (HMq2.out.keep hg)
            clear hg
            have b1 := HDq3_1.out
            go_wp2_with (first | (refine wpl_load_blk (by rfl) 25 _ (by rfl) _ (by rfl) _ _ (by exact b1) _ Tryd.underlying25 (by rfl) (by exact info_match) ?_))
            refine (Hab.out _ HMq3.out).mono ?_
            rintro e zq4 ⟨rfl, hg⟩
            clear b1
            have HDq4_1 := Lib.hid (HDq3_1.out.frm hg (fun h => h))
            have HDq4_2 := Lib.hid (HDq3_2.out.frm hg (fun h => h))
            have HDq4_3 := Lib.hid (HDq3_3.out.frm hg (fun h => h))
            have HFq4 := Lib.hid (HFq3.out.trans hg)
            have HMq4 := Lib.hid (HMq3.out.keep hg)
            clear hg
            go_wp2_with fail
            refine (Hsl.out _ HMq4.out).mono ?_
            rintro e zq5 ⟨rfl, hg⟩
            have HDq5_1 := Lib.hid (HDq4_1.out.frm hg (fun h => h))
            have HDq5_2 := Lib.hid (HDq4_2.out.frm hg (fun h => h))
            have HDq5_3 := Lib.hid (HDq4_3.out.frm hg (fun h => h))
            have HFq5 := Lib.hid (HFq4.out.trans hg)
            have HMq5 := Lib.hid (HMq4.out.keep hg)
            clear hg
            have b3 := HDq5_3.out
            go_wp2_with (first | (refine wpl_load_blk (by rfl) 25 _ (by rfl) _ (by rfl) _ _ (by exact b3) _ Tryd.underlying25 (by rfl) (by exact info_match) ?_) | (refine wpl_addg (by rfl) _ _ (by rfl) _ _ _ (by rfl) (by rfl) (Hadd.out _) ?_))
            refine (Hcq.out _ HMq5.out).mono ?_
            rintro e zq6 ⟨rfl, hg⟩
            clear b3
            have HDq6_1 := Lib.hid (HDq5_1.out.frm hg (fun h => h))
            have HDq6_2 := Lib.hid (HDq5_2.out.frm hg (fun h => h))
            have HDq6_3 := Lib.hid (HDq5_3.out.frm hg (fun h => h))
            have HFq6 := Lib.hid (HFq5.out.trans hg)
            have HMq6 := Lib.hid (HMq5.out.keep hg)
            clear hg
            go_wp2_with fail
            refine (mlives_any _ HMq6.out).mono ?_
            rintro e zq7 ⟨rfl, hg⟩
            have HDq7_1 := Lib.hid (HDq6_1.out.frm hg (fun h => h))
            have HDq7_2 := Lib.hid (HDq6_2.out.frm hg (fun h => h))
            have HDq7_3 := Lib.hid (HDq6_3.out.frm hg (fun h => h))
            have HFq7 := Lib.hid (HFq6.out.trans hg)
            have HMq7 := Lib.hid (HMq6.out.keep hg)
            clear hg
            go_wp2_with fail
            go_ret
            exact ⟨rfl, HFq7.out.below (Nat.le_refl _) (fun _ _ h => h)⟩
        · cases vq
          · rcases Hq4.out rfl rfl with h | h <;> cases h
          · rcases Hq4.out rfl rfl with h | h <;> cases h
    · cases vbc
      · cases vac
        · cases vq
          · have e1 := He1.out
            have e2 := He2.out
            have b1 := HB1.out
            go_wp2_with (first | (refine wpl_load_blk (by rfl) 25 _ (by rfl) _ (by rfl) _ _ (by exact b1) _ Tryd.underlying25 (by rfl) (by exact info_match) ?_))
            refine (Haa.out _ HM.out).mono ?_
            rintro e zq0 ⟨rfl, hg⟩
            clear b1
            have HDq0_1 := Lib.hid (HB1.out.frm hg (fun h => h))
            have HDq0_2 := Lib.hid (HB2.out.frm hg (fun h => h))
            have HDq0_3 := Lib.hid (HB3.out.frm hg (fun h => h))
            have HFq0 := Lib.hid (Hf.out.trans hg)
            have HMq0 := Lib.hid (HM.out.keep hg)
            clear hg
            have b1 := HDq0_1.out
            go_wp2_with (first | (refine wpl_load_blk (by rfl) 25 _ (by rfl) _ (by rfl) _ _ (by exact b1) _ Tryd.underlying25 (by rfl) (by exact info_match) ?_))
            refine (Hab.out _ HMq0.out).mono ?_
            rintro e zq1 ⟨rfl, hg⟩
            clear b1
            have HDq1_1 := Lib.hid (HDq0_1.out.frm hg (fun h => h))
            have HDq1_2 := Lib.hid (HDq0_2.out.frm hg (fun h => h))
            have HDq1_3 := Lib.hid (HDq0_3.out.frm hg (fun h => h))
            have HFq1 := Lib.hid (HFq0.out.trans hg)
            have HMq1 := Lib.hid (HMq0.out.keep hg)
            clear hg
            have b1 := HDq1_1.out
            go_wp2_with (first | (refine wpl_load_blk (by rfl) 25 _ (by rfl) _ (by rfl) _ _ (by exact b1) _ Tryd.underlying25 (by rfl) (by exact info_match) ?_))
            refine (Hab.out _ HMq1.out).mono ?_
            rintro e zq2 ⟨rfl, hg⟩
            clear b1
            have HDq2_1 := Lib.hid (HDq1_1.out.frm hg (fun h => h))
            have HDq2_2 := Lib.hid (HDq1_2.out.frm hg (fun h => h))
            have HDq2_3 := Lib.hid (HDq1_3.out.frm hg (fun h => h))
            have HFq2 := Lib.hid (HFq1.out.trans hg)
            have HMq2 := Lib.hid (HMq1.out.keep hg)
            clear hg
            have b1 := HDq2_1.out
            go_wp2_with (first | (refine wpl_load_blk (by rfl) 25 _ (by rfl) _ (by rfl) _ _ (by exact b1) _ Tryd.underlying25 (by rfl) (by exact info_match) ?_))
            refine (Hac.out _ HMq2.out).mono ?_
            rintro e zq3 ⟨rfl, hg⟩
            clear b1
            have HDq3_1 := Lib.hid (HDq2_1.out.frm hg (fun h => h))
            have HDq3_2 := Lib.hid (HDq2_2.out.frm hg (fun h => h))
            have HDq3_3 := Lib.hid (HDq2_3.out.frm hg (fun h => h))
            have HFq3 := Lib.hid (HFq2.out.trans hg)
            have HMq3 := Lib.hid (HMq2.out.keep hg)
            clear hg
            have b1 := HDq3_1.out
            go_wp2_with (first | (refine wpl_load_blk (by rfl) 25 _ (by rfl) _ (by rfl) _ _ (by exact b1) _ Tryd.underlying25 (by rfl) (by exact info_match) ?_))
            refine (Hab.out _ HMq3.out).mono ?_
            rintro e zq4 ⟨rfl, hg⟩
            clear b1
            have HDq4_1 := Lib.hid (HDq3_1.out.frm hg (fun h => h))
            have HDq4_2 := Lib.hid (HDq3_2.out.frm hg (fun h => h))
            have HDq4_3 := Lib.hid (HDq3_3.out.frm hg (fun h => h))
            have HFq4 := Lib.hid (HFq3.out.trans hg)
            have HMq4 := Lib.hid (HMq3.out.keep hg)
            clear hg
            go_wp2_with fail
            refine (Hsl.out _ HMq4.out).mono ?_
            rintro e zq5 ⟨rfl, hg⟩
            have HDq5_1 := Lib.hid (HDq4_1.out.frm hg (fun h => h))
            have HDq5_2 := Lib.hid (HDq4_2.out.frm hg (fun h => h))
            have HDq5_3 := Lib.hid (HDq4_3.out.frm hg (fun h => h))
            have HFq5 := Lib.hid (HFq4.out.trans hg)
            have HMq5 := Lib.hid (HMq4.out.keep hg)
            clear hg
            have b3 := HDq5_3.out
            go_wp2_with (first | (refine wpl_load_blk (by rfl) 25 _ (by rfl) _ (by rfl) _ _ (by exact b3) _ Tryd.underlying25 (by rfl) (by exact info_match) ?_) | (refine wpl_addg (by rfl) _ _ (by rfl) _ _ _ (by rfl) (by rfl) (Hadd.out _) ?_))
            refine (Hcq.out _ HMq5.out).mono ?_
            rintro e zq6 ⟨rfl, hg⟩
            clear b3
            have HDq6_1 := Lib.hid (HDq5_1.out.frm hg (fun h => h))
            have HDq6_2 := Lib.hid (HDq5_2.out.frm hg (fun h => h))
            have HDq6_3 := Lib.hid (HDq5_3.out.frm hg (fun h => h))
            have HFq6 := Lib.hid (HFq5.out.trans hg)
            have HMq6 := Lib.hid (HMq5.out.keep hg)
            clear hg
            go_wp2_with fail
            refine (mlives_any _ HMq6.out).mono ?_
            rintro e zq7 ⟨rfl, hg⟩
            have HDq7_1 := Lib.hid (HDq6_1.out.frm hg (fun h => h))
            have HDq7_2 := Lib.hid (HDq6_2.out.frm hg (fun h => h))
            have HDq7_3 := Lib.hid (HDq6_3.out.frm hg (fun h => h))
            have HFq7 := Lib.hid (HFq6.out.trans hg)
            have HMq7 := Lib.hid (HMq6.out.keep hg)
            clear hg
            go_wp2_with fail
            go_ret
            exact ⟨rfl, HFq7.out.below (Nat.le_refl _) (fun _ _ h => h)⟩
          · have e1 := He1.out
            have e2 := He2.out
            have b1 := HB1.out
            go_wp2_with (first | (refine wpl_load_blk (by rfl) 25 _ (by rfl) _ (by rfl) _ _ (by exact b1) _ Tryd.underlying25 (by rfl) (by exact info_match) ?_))
            refine (Haa.out _ HM.out).mono ?_
            rintro e zq0 ⟨rfl, hg⟩
            clear b1
            have HDq0_1 := Lib.hid (HB1.out.frm hg (fun h => h))
            have HDq0_2 := Lib.hid (HB2.out.frm hg (fun h => h))
            have HDq0_3 := Lib.hid (HB3.out.frm hg (fun h => h))
            have HFq0 := Lib.hid (Hf.out.trans hg)
            have HMq0 := Lib.hid (HM.out.keep hg)
            clear hg
            have b1 := HDq0_1.out
            go_wp2_with (first | (refine wpl_load_blk (by rfl) 25 _ (by rfl) _ (by rfl) _ _ (by exact b1) _ Tryd.underlying25 (by rfl) (by exact info_match) ?_))
            refine (Hab.out _ HMq0.out).mono ?_
            rintro e zq1 ⟨rfl, hg⟩
            clear b1
            have HDq1_1 := Lib.hid (HDq0_1.out.frm hg (fun h => h))
            have HDq1_2 := Lib.hid (HDq0_2.out.frm hg (fun h => h))
            have HDq1_3 := Lib.hid (HDq0_3.out.frm hg (fun h => h))
            have HFq1 := Lib.hid (HFq0.out.trans hg)
            have HMq1 := Lib.hid (HMq0.out.keep hg)
            clear hg
            have b1 := HDq1_1.out
            go_wp2_with (first | (refine wpl_load_blk (by rfl) 25 _ (by rfl) _ (by rfl) _ _ (by exact b1) _ Tryd.underlying25 (by rfl) (by exact info_match) ?_))
            refine (Hab.out _ HMq1.out).mono ?_
            rintro e zq2 ⟨rfl, hg⟩
            clear b1
            have HDq2_1 := Lib.hid (HDq1_1.out.frm hg (fun h => h))
            have HDq2_2 := Lib.hid (HDq1_2.out.frm hg (fun h => h))
            have HDq2_3 := Lib.hid (HDq1_3.out.frm hg (fun h => h))
            have HFq2 := Lib.hid (HFq1.out.trans hg)
            have HMq2 := Lib.hid (HMq1.out.keep hg)
            clear hg
            have b1 := HDq2_1.out
            go_wp2_with (first | (refine wpl_load_blk (by rfl) 25 _ (by rfl) _ (by rfl) _ _ (by exact b1) _ Tryd.underlying25 (by rfl) (by exact info_match) ?_))
            refine (Hac.out _ HMq2.out).mono ?_
            rintro e zq3 ⟨rfl, hg⟩
            clear b1
            have HDq3_1 := Lib.hid (HDq2_1.out.frm hg (fun h => h))
            have HDq3_2 := Lib.hid (HDq2_2.out.frm hg (fun h => h))
            have HDq3_3 := Lib.hid (HDq2_3.out.frm hg (fun h => h))
            have HFq3 := Lib.hid (HFq2.out.trans hg)
            have HMq3 := Lib.hid (HMq2.out.keep hg)
            clear hg
            have b1 := HDq3_1.out
            go_wp2_with (first | (refine wpl_load_blk (by rfl) 25 _ (by rfl) _ (by rfl) _ _ (by exact b1) _ Tryd.underlying25 (by rfl) (by exact info_match) ?_))
            refine (Hab.out _ HMq3.out).mono ?_
            rintro e zq4 ⟨rfl, hg⟩
            clear b1
            have HDq4_1 := Lib.hid (HDq3_1.out.frm hg (fun h => h))
            have HDq4_2 := Lib.hid (HDq3_2.out.frm hg (fun h => h))
            have HDq4_3 := Lib.hid (HDq3_3.out.frm hg (fun h => h))
            have HFq4 := Lib.hid (HFq3.out.trans hg)
            have HMq4 := Lib.hid (HMq3.out.keep hg)
            clear hg
            go_wp2_with fail
            refine (Hsl.out _ HMq4.out).mono ?_
            rintro e zq5 ⟨rfl, hg⟩
            have HDq5_1 := Lib.hid (HDq4_1.out.frm hg (fun h => h))
            have HDq5_2 := Lib.hid (HDq4_2.out.frm hg (fun h => h))
            have HDq5_3 := Lib.hid (HDq4_3.out.frm hg (fun h => h))
            have HFq5 := Lib.hid (HFq4.out.trans hg)
            have HMq5 := Lib.hid (HMq4.out.keep hg)
            clear hg
            have b3 := HDq5_3.out
            go_wp2_with (first | (refine wpl_load_blk (by rfl) 25 _ (by rfl) _ (by rfl) _ _ (by exact b3) _ Tryd.underlying25 (by rfl) (by exact info_match) ?_) | (refine wpl_addg (by rfl) _ _ (by rfl) _ _ _ (by rfl) (by rfl) (Hadd.out _) ?_))
            refine (Hcq.out _ HMq5.out).mono ?_
            rintro e zq6 ⟨rfl, hg⟩
            clear b3
            have HDq6_1 := Lib.hid (HDq5_1.out.frm hg (fun h => h))
            have HDq6_2 := Lib.hid (HDq5_2.out.frm hg (fun h => h))
            have HDq6_3 := Lib.hid (HDq5_3.out.frm hg (fun h => h))
            have HFq6 := Lib.hid (HFq5.out.trans hg)
            have HMq6 := Lib.hid (HMq5.out.keep hg)
            clear hg
            go_wp2_with fail
            refine (mlives_any _ HMq6.out).mono ?_
            rintro e zq7 ⟨rfl, hg⟩
            have HDq7_1 := Lib.hid (HDq6_1.out.frm hg (fun h => h))
            have HDq7_2 := Lib.hid (HDq6_2.out.frm hg (fun h => h))
            have HDq7_3 := Lib.hid (HDq6_3.out.frm hg (fun h => h))
            have HFq7 := Lib.hid (HFq6.out.trans hg)
            have HMq7 := Lib.hid (HMq6.out.keep hg)
            clear hg
            go_wp2_with fail
            go_ret
            exact ⟨rfl, HFq7.out.below (Nat.le_refl _) (fun _ _ h => h)⟩
        · cases vq
          · have e1 := He1.out
            have e2 := He2.out
            have b1 := HB1.out
            go_wp2_with (first | (refine wpl_load_blk (by rfl) 25 _ (by rfl) _ (by rfl) _ _ (by exact b1) _ Tryd.underlying25 (by rfl) (by exact info_match) ?_))
            refine (Haa.out _ HM.out).mono ?_
            rintro e zq0 ⟨rfl, hg⟩
            clear b1
            have HDq0_1 := Lib.hid (HB1.out.frm hg (fun h => h))
            have HDq0_2 := Lib.hid (HB2.out.frm hg (fun h => h))
            have HDq0_3 := Lib.hid (HB3.out.frm hg (fun h => h))
            have HFq0 := Lib.hid (Hf.out.trans hg)
            have HMq0 := Lib.hid (HM.out.keep hg)
            clear hg
            have b1 := HDq0_1.out
            go_wp2_with (first | (refine wpl_load_blk (by rfl) 25 _ (by rfl) _ (by rfl) _ _ (by exact b1) _ Tryd.underlying25 (by rfl) (by exact info_match) ?_))
            refine (Hab.out _ HMq0.out).mono ?_
            rintro e zq1 ⟨rfl, hg⟩
            clear b1
            have HDq1_1 := Lib.hid (HDq0_1.out.frm hg (fun h => h))
            have HDq1_2 := Lib.hid (HDq0_2.out.frm hg (fun h => h))
            have HDq1_3 := Lib.hid (HDq0_3.out.frm hg (fun h => h))
            have HFq1 := Lib.hid (HFq0.out.trans hg)
            have HMq1 := Lib.hid (HMq0.out.keep hg)
            clear hg
            have b1 := HDq1_1.out
            go_wp2_with (first | (refine wpl_load_blk (by rfl) 25 _ (by rfl) _ (by rfl) _ _ (by exact b1) _ Tryd.underlying25 (by rfl) (by exact info_match) ?_))
            refine (Hab.out _ HMq1.out).mono ?_
            rintro e zq2 ⟨rfl, hg⟩
            clear b1
            have HDq2_1 := Lib.hid (HDq1_1.out.frm hg (fun h => h))
            have HDq2_2 := Lib.hid (HDq1_2.out.frm hg (fun h => h))
            have HDq2_3 := Lib.hid (HDq1_3.out.frm hg (fun h => h))
            have HFq2 := Lib.hid (HFq1.out.trans hg)
            have HMq2 := Lib.hid (HMq1.out.keep hg)
            clear hg
            have b1 := HDq2_1.out
            go_wp2_with (first | (refine wpl_load_blk (by rfl) 25 _ (by rfl) _ (by rfl) _ _ (by exact b1) _ Tryd.underlying25 (by rfl) (by exact info_match) ?_))
            refine (Hac.out _ HMq2.out).mono ?_
            rintro e zq3 ⟨rfl, hg⟩
            clear b1
            have HDq3_1 := Lib.hid (HDq2_1.out.frm hg (fun h => h))
            have HDq3_2 := Lib.hid (HDq2_2.out.frm hg (fun h => h))
            have HDq3_3 := Lib.hid (HDq2_3.out.frm hg (fun h => h))
            have HFq3 := Lib.hid (HFq2.out.trans hg)
            have HMq3 := Lib.hid (HMq2.out.keep hg)
            clear hg
            have b2 := HDq3_2.out
            go_wp2_with (first | (refine wpl_load_blk (by rfl) 25 _ (by rfl) _ (by rfl) _ _ (by exact b2) _ Tryd.underlying25 (by rfl) (by exact info_match) ?_))
            refine (Hbc.out _ HMq3.out).mono ?_
            rintro e zq4 ⟨rfl, hg⟩
            clear b2
            have HDq4_1 := Lib.hid (HDq3_1.out.frm hg (fun h => h))
            have HDq4_2 := Lib.hid (HDq3_2.out.frm hg (fun h => h))
            have HDq4_3 := Lib.hid (HDq3_3.out.frm hg (fun h => h))
            have HFq4 := Lib.hid (HFq3.out.trans hg)
            have HMq4 := Lib.hid (HMq3.out.keep hg)
            clear hg
            have b1 := HDq4_1.out
            go_wp2_with (first | (refine wpl_load_blk (by rfl) 25 _ (by rfl) _ (by rfl) _ _ (by exact b1) _ Tryd.underlying25 (by rfl) (by exact info_match) ?_))
            refine (Hab.out _ HMq4.out).mono ?_
            rintro e zq5 ⟨rfl, hg⟩
            clear b1
            have HDq5_1 := Lib.hid (HDq4_1.out.frm hg (fun h => h))
            have HDq5_2 := Lib.hid (HDq4_2.out.frm hg (fun h => h))
            have HDq5_3 := Lib.hid (HDq4_3.out.frm hg (fun h => h))
            have HFq5 := Lib.hid (HFq4.out.trans hg)
            have HMq5 := Lib.hid (HMq4.out.keep hg)
            clear hg
            go_wp2_with fail
            refine (Hsl.out _ HMq5.out).mono ?_
            rintro e zq6 ⟨rfl, hg⟩
            have HDq6_1 := Lib.hid (HDq5_1.out.frm hg (fun h => h))
            have HDq6_2 := Lib.hid (HDq5_2.out.frm hg (fun h => h))
            have HDq6_3 := Lib.hid (HDq5_3.out.frm hg (fun h => h))
            have HFq6 := Lib.hid (HFq5.out.trans hg)
            have HMq6 := Lib.hid (HMq5.out.keep hg)
            clear hg
            have b3 := HDq6_3.out
            go_wp2_with (first | (refine wpl_load_blk (by rfl) 25 _ (by rfl) _ (by rfl) _ _ (by exact b3) _ Tryd.underlying25 (by rfl) (by exact info_match) ?_) | (refine wpl_addg (by rfl) _ _ (by rfl) _ _ _ (by rfl) (by rfl) (Hadd.out _) ?_))
            refine (Hcq.out _ HMq6.out).mono ?_
            rintro e zq7 ⟨rfl, hg⟩
            clear b3
            have HDq7_1 := Lib.hid (HDq6_1.out.frm hg (fun h => h))
            have HDq7_2 := Lib.hid (HDq6_2.out.frm hg (fun h => h))
            have HDq7_3 := Lib.hid (HDq6_3.out.frm hg (fun h => h))
            have HFq7 := Lib.hid (HFq6.out.trans hg)
            have HMq7 := Lib.hid (HMq6.out.keep hg)
            clear hg
            go_wp2_with fail
            refine (mlives_any _ HMq7.out).mono ?_
            rintro e zq8 ⟨rfl, hg⟩
            have HDq8_1 := Lib.hid (HDq7_1.out.frm hg (fun h => h))
            have HDq8_2 := Lib.hid (HDq7_2.out.frm hg (fun h => h))
            have HDq8_3 := Lib.hid (HDq7_3.out.frm hg (fun h => h))
            have HFq8 := Lib.hid (HFq7.out.trans hg)
            have HMq8 := Lib.hid (HMq7.out.keep hg)
            clear hg
            go_wp2_with fail
            go_ret
            exact ⟨rfl, HFq8.out.below (Nat.le_refl _) (fun _ _ h => h)⟩
          · have e1 := He1.out
            have e2 := He2.out
            have b1 := HB1.out
            go_wp2_with (first | (refine wpl_load_blk (by rfl) 25 _ (by rfl) _ (by rfl) _ _ (by exact b1) _ Tryd.underlying25 (by rfl) (by exact info_match) ?_))
            refine (Haa.out _ HM.out).mono ?_
            rintro e zq0 ⟨rfl, hg⟩
            clear b1
            have HDq0_1 := Lib.hid (HB1.out.frm hg (fun h => h))
            have HDq0_2 := Lib.hid (HB2.out.frm hg (fun h => h))
            have HDq0_3 := Lib.hid (HB3.out.frm hg (fun h => h))
            have HFq0 := Lib.hid (Hf.out.trans hg)
            have HMq0 := Lib.hid (HM.out.keep hg)
            clear hg
            have b1 := HDq0_1.out
            go_wp2_with (first | (refine wpl_load_blk (by rfl) 25 _ (by rfl) _ (by rfl) _ _ (by exact b1) _ Tryd.underlying25 (by rfl) (by exact info_match) ?_))
            refine (Hab.out _ HMq0.out).mono ?_
            rintro e zq1 ⟨rfl, hg⟩
            clear b1
            have HDq1_1 := Lib.hid (HDq0_1.out.frm hg (fun h => h))
            have HDq1_2 := Lib.hid (HDq0_2.out.frm hg (fun h => h))
            have HDq1_3 := Lib.hid (HDq0_3.out.frm hg (fun h => h))
            have HFq1 := Lib.hid (HFq0.out.trans hg)
            have HMq1 := Lib.hid (HMq0.out.keep hg)
            clear hg
            have b1 := HDq1_1.out
            go_wp2_with (first | (refine wpl_load_blk (by rfl) 25 _ (by rfl) _ (by rfl) _ _ (by exact b1) _ Tryd.underlying25 (by rfl) (by exact info_match) ?_))
            refine (Hab.out _ HMq1.out).mono ?_
            rintro e zq2 ⟨rfl, hg⟩
            clear b1
            have HDq2_1 := Lib.hid (HDq1_1.out.frm hg (fun h => h))
            have HDq2_2 := Lib.hid (HDq1_2.out.frm hg (fun h => h))
            have HDq2_3 := Lib.hid (HDq1_3.out.frm hg (fun h => h))
            have HFq2 := Lib.hid (HFq1.out.trans hg)
            have HMq2 := Lib.hid (HMq1.out.keep hg)
            clear hg
            have b1 := HDq2_1.out
            go_wp2_with (first | (refine wpl_load_blk (by rfl) 25 _ (by rfl) _ (by rfl) _ _ (by exact b1) _ Tryd.underlying25 (by rfl) (by exact info_match) ?_))
            refine (Hac.out _ HMq2.out).mono ?_
            rintro e zq3 ⟨rfl, hg⟩
            clear b1
            have HDq3_1 := Lib.hid (HDq2_1.out.frm hg (fun h => h))
            have HDq3_2 := Lib.hid (HDq2_2.out.frm hg (fun h => h))
            have HDq3_3 := Lib.hid (HDq2_3.out.frm hg (fun h => h))
            have HFq3 := Lib.hid (HFq2.out.trans hg)
            have HMq3 := Lib.hid (HMq2.out.keep hg)
            clear hg
            have b2 := HDq3_2.out
            go_wp2_with (first | (refine wpl_load_blk (by rfl) 25 _ (by rfl) _ (by rfl) _ _ (by exact b2) _ Tryd.underlying25 (by rfl) (by exact info_match) ?_))
            refine (Hbc.out _ HMq3.out).mono ?_
            rintro e zq4 ⟨rfl, hg⟩
            clear b2
            have HDq4_1 := Lib.hid (HDq3_1.out.frm hg (fun h => h))
            have HDq4_2 := Lib.hid (HDq3_2.out.frm hg (fun h => h))
            have HDq4_3 := Lib.hid (HDq3_3.out.frm hg (fun h => h))
            have HFq4 := Lib.hid (HFq3.out.trans hg)
            have HMq4 := Lib.hid (HMq3.out.keep hg)
            clear hg
            have b1 := HDq4_1.out
            go_wp2_with (first | (refine wpl_load_blk (by rfl) 25 _ (by rfl) _ (by rfl) _ _ (by exact b1) _ Tryd.underlying25 (by rfl) (by exact info_match) ?_))
            refine (Hab.out _ HMq4.out).mono ?_
            rintro e zq5 ⟨rfl, hg⟩
            clear b1
            have HDq5_1 := Lib.hid (HDq4_1.out.frm hg (fun h => h))
            have HDq5_2 := Lib.hid (HDq4_2.out.frm hg (fun h => h))
            have HDq5_3 := Lib.hid (HDq4_3.out.frm hg (fun h => h))
            have HFq5 := Lib.hid (HFq4.out.trans hg)
            have HMq5 := Lib.hid (HMq4.out.keep hg)
            clear hg
            go_wp2_with fail
            refine (Hsl.out _ HMq5.out).mono ?_
            rintro e zq6 ⟨rfl, hg⟩
            have HDq6_1 := Lib.hid (HDq5_1.out.frm hg (fun h => h))
            have HDq6_2 := Lib.hid (HDq5_2.out.frm hg (fun h => h))
            have HDq6_3 := Lib.hid (HDq5_3.out.frm hg (fun h => h))
            have HFq6 := Lib.hid (HFq5.out.trans hg)
            have HMq6 := Lib.hid (HMq5.out.keep hg)
            clear hg
            have b3 := HDq6_3.out
            go_wp2_with (first | (refine wpl_load_blk (by rfl) 25 _ (by rfl) _ (by rfl) _ _ (by exact b3) _ Tryd.underlying25 (by rfl) (by exact info_match) ?_) | (refine wpl_addg (by rfl) _ _ (by rfl) _ _ _ (by rfl) (by rfl) (Hadd.out _) ?_))
            refine (Hcq.out _ HMq6.out).mono ?_
            rintro e zq7 ⟨rfl, hg⟩
            clear b3
            have HDq7_1 := Lib.hid (HDq6_1.out.frm hg (fun h => h))
            have HDq7_2 := Lib.hid (HDq6_2.out.frm hg (fun h => h))
            have HDq7_3 := Lib.hid (HDq6_3.out.frm hg (fun h => h))
            have HFq7 := Lib.hid (HFq6.out.trans hg)
            have HMq7 := Lib.hid (HMq6.out.keep hg)
            clear hg
            go_wp2_with fail
            refine (mlives_any _ HMq7.out).mono ?_
            rintro e zq8 ⟨rfl, hg⟩
            have HDq8_1 := Lib.hid (HDq7_1.out.frm hg (fun h => h))
            have HDq8_2 := Lib.hid (HDq7_2.out.frm hg (fun h => h))
            have HDq8_3 := Lib.hid (HDq7_3.out.frm hg (fun h => h))
            have HFq8 := Lib.hid (HFq7.out.trans hg)
            have HMq8 := Lib.hid (HMq7.out.keep hg)
            clear hg
            go_wp2_with fail
            go_ret
            exact ⟨rfl, HFq8.out.below (Nat.le_refl _) (fun _ _ h => h)⟩
      · cases vac
        · cases vq
          · have e1 := He1.out
            have e2 := He2.out
            have b1 := HB1.out
            go_wp2_with (first | (refine wpl_load_blk (by rfl) 25 _ (by rfl) _ (by rfl) _ _ (by exact b1) _ Tryd.underlying25 (by rfl) (by exact info_match) ?_))
            refine (Haa.out _ HM.out).mono ?_
            rintro e zq0 ⟨rfl, hg⟩
            clear b1
            have HDq0_1 := Lib.hid (HB1.out.frm hg (fun h => h))
            have HDq0_2 := Lib.hid (HB2.out.frm hg (fun h => h))
            have HDq0_3 := Lib.hid (HB3.out.frm hg (fun h => h))
            have HFq0 := Lib.hid (Hf.out.trans hg)
            have HMq0 := Lib.hid (HM.out.keep hg)
            clear hg
            have b1 := HDq0_1.out
            go_wp2_with (first | (refine wpl_load_blk (by rfl) 25 _ (by rfl) _ (by rfl) _ _ (by exact b1) _ Tryd.underlying25 (by rfl) (by exact info_match) ?_))
            refine (Hab.out _ HMq0.out).mono ?_
            rintro e zq1 ⟨rfl, hg⟩
            clear b1
            have HDq1_1 := Lib.hid (HDq0_1.out.frm hg (fun h => h))
            have HDq1_2 := Lib.hid (HDq0_2.out.frm hg (fun h => h))
            have HDq1_3 := Lib.hid (HDq0_3.out.frm hg (fun h => h))
            have HFq1 := Lib.hid (HFq0.out.trans hg)
            have HMq1 := Lib.hid (HMq0.out.keep hg)
            clear hg
            have b1 := HDq1_1.out
            go_wp2_with (first | (refine wpl_load_blk (by rfl) 25 _ (by rfl) _ (by rfl) _ _ (by exact b1) _ Tryd.underlying25 (by rfl) (by exact info_match) ?_))
            refine (Hab.out _ HMq1.out).mono ?_
            rintro e zq2 ⟨rfl, hg⟩
            clear b1
            have HDq2_1 := Lib.hid (HDq1_1.out.frm hg (fun h => h))
            have HDq2_2 := Lib.hid (HDq1_2.out.frm hg (fun h => h))
            have HDq2_3 := Lib.hid (HDq1_3.out.frm hg (fun h => h))
            have HFq2 := Lib.hid (HFq1.out.trans hg)
            have HMq2 := Lib.hid (HMq1.out.keep hg)
            clear hg
            have b1 := HDq2_1.out
            go_wp2_with (first | (refine wpl_load_blk (by rfl) 25 _ (by rfl) _ (by rfl) _ _ (by exact b1) _ Tryd.underlying25 (by rfl) (by exact info_match) ?_))
            refine (Hac.out _ HMq2.out).mono ?_
            rintro e zq3 ⟨rfl, hg⟩
            clear b1
            have HDq3_1 := Lib.hid (HDq2_1.out.frm hg (fun h => h))
            have HDq3_2 := Lib.hid (HDq2_2.out.frm hg (fun h => h))
            have HDq3_3 := Lib.hid (HDq2_3.out.frm hg (fun h => h))
            have HFq3 := Lib.hid (HFq2.out.trans hg)
            have HMq3 := Lib.hid (HMq2.out.keep hg)
            clear hg
            have b1 := HDq3_1.out
            go_wp2_with (first | (refine wpl_load_blk (by rfl) 25 _ (by rfl) _ (by rfl) _ _ (by exact b1) _ Tryd.underlying25 (by rfl) (by exact info_match) ?_))
            refine (Hab.out _ HMq3.out).mono ?_
            rintro e zq4 ⟨rfl, hg⟩
            clear b1
            have HDq4_1 := Lib.hid (HDq3_1.out.frm hg (fun h => h))
            have HDq4_2 := Lib.hid (HDq3_2.out.frm hg (fun h => h))
            have HDq4_3 := Lib.hid (HDq3_3.out.frm hg (fun h => h))
            have HFq4 := Lib.hid (HFq3.out.trans hg)
            have HMq4 := Lib.hid (HMq3.out.keep hg)
            clear hg
            go_wp2_with fail
            refine (Hsl.out _ HMq4.out).mono ?_
            rintro e zq5 ⟨rfl, hg⟩
            have HDq5_1 := Lib.hid (HDq4_1.out.frm hg (fun h => h))
            have HDq5_2 := Lib.hid (HDq4_2.out.frm hg (fun h => h))
            have HDq5_3 := Lib.hid (HDq4_3.out.frm hg (fun h => h))
            have HFq5 := Lib.hid (HFq4.out.trans hg)
            have HMq5 := Lib.hid (HMq4.out.keep hg)
            clear hg
            have b3 := HDq5_3.out
            go_wp2_with (first | (refine wpl_load_blk (by rfl) 25 _ (by rfl) _ (by rfl) _ _ (by exact b3) _ Tryd.underlying25 (by rfl) (by exact info_match) ?_) | (refine wpl_addg (by rfl) _ _ (by rfl) _ _ _ (by rfl) (by rfl) (Hadd.out _) ?_))
            refine (Hcq.out _ HMq5.out).mono ?_
            rintro e zq6 ⟨rfl, hg⟩
            clear b3
            have HDq6_1 := Lib.hid (HDq5_1.out.frm hg (fun h => h))
            have HDq6_2 := Lib.hid (HDq5_2.out.frm hg (fun h => h))
            have HDq6_3 := Lib.hid (HDq5_3.out.frm hg (fun h => h))
            have HFq6 := Lib.hid (HFq5.out.trans hg)
            have HMq6 := Lib.hid (HMq5.out.keep hg)
            clear hg
            go_wp2_with fail
            refine (mlives_any _ HMq6.out).mono ?_
            rintro e zq7 ⟨rfl, hg⟩
            have HDq7_1 := Lib.hid (HDq6_1.out.frm hg (fun h => h))
            have HDq7_2 := Lib.hid (HDq6_2.out.frm hg (fun h => h))
            have HDq7_3 := Lib.hid (HDq6_3.out.frm hg (fun h => h))
            have HFq7 := Lib.hid (HFq6.out.trans hg)
            have HMq7 := Lib.hid (HMq6.out.keep hg)
            clear hg
            go_wp2_with fail
            go_ret
            exact ⟨rfl, HFq7.out.below (Nat.le_refl _) (fun _ _ h => h)⟩
          · have e1 := He1.out
            have e2 := He2.out
            have b1 := HB1.out
            go_wp2_with (first | (refine wpl_load_blk (by rfl) 25 _ (by rfl) _ (by rfl) _ _ (by exact b1) _ Tryd.underlying25 (by rfl) (by exact info_match) ?_))
            refine (Haa.out _ HM.out).mono ?_
            rintro e zq0 ⟨rfl, hg⟩
            clear b1
            have HDq0_1 := Lib.hid (HB1.out.frm hg (fun h => h))
            have HDq0_2 := Lib.hid (HB2.out.frm hg (fun h => h))
            have HDq0_3 := Lib.hid (HB3.out.frm hg (fun h => h))
            have HFq0 := Lib.hid (Hf.out.trans hg)
            have HMq0 := Lib.hid (HM.out.keep hg)
            clear hg
            have b1 := HDq0_1.out
            go_wp2_with (first | (refine wpl_load_blk (by rfl) 25 _ (by rfl) _ (by rfl) _ _ (by exact b1) _ Tryd.underlying25 (by rfl) (by exact info_match) ?_))
            refine (Hab.out _ HMq0.out).mono ?_
            rintro e zq1 ⟨rfl, hg⟩
            clear b1
            have HDq1_1 := Lib.hid (HDq0_1.out.frm hg (fun h => h))
            have HDq1_2 := Lib.hid (HDq0_2.out.frm hg (fun h => h))
            have HDq1_3 := Lib.hid (HDq0_3.out.frm hg (fun h => h))
            have HFq1 := Lib.hid (HFq0.out.trans hg)
            have HMq1 := Lib.hid (HMq0.out.keep hg)
            clear hg
            have b1 := HDq1_1.out
            go_wp2_with (first | (refine wpl_load_blk (by rfl) 25 _ (by rfl) _ (by rfl) _ _ (by exact b1) _ Tryd.underlying25 (by rfl) (by exact info_match) ?_))
            refine (Hab.out _ HMq1.out).mono ?_
            rintro e zq2 ⟨rfl, hg⟩
            clear b1
            have HDq2_1 := Lib.hid (HDq1_1.out.frm hg (fun h => h))
            have HDq2_2 := Lib.hid (HDq1_2.out.frm hg (fun h => h))
            have HDq2_3 := Lib.hid (HDq1_3.out.frm hg (fun h => h))
            have HFq2 := Lib.hid (HFq1.out.trans hg)
            have HMq2 := Lib.hid (HMq1.out.keep hg)
            clear hg
            have b1 := HDq2_1.out
            go_wp2_with (first | (refine wpl_load_blk (by rfl) 25 _ (by rfl) _ (by rfl) _ _ (by exact b1) _ Tryd.underlying25 (by rfl) (by exact info_match) ?_))
            refine (Hac.out _ HMq2.out).mono ?_
            rintro e zq3 ⟨rfl, hg⟩
            clear b1
            have HDq3_1 := Lib.hid (HDq2_1.out.frm hg (fun h => h))
            have HDq3_2 := Lib.hid (HDq2_2.out.frm hg (fun h => h))
            have HDq3_3 := Lib.hid (HDq2_3.out.frm hg (fun h => h))
            have HFq3 := Lib.hid (HFq2.out.trans hg)
            have HMq3 := Lib.hid (HMq2.out.keep hg)
            clear hg
            have b1 := HDq3_1.out
            go_wp2_with (first | (refine wpl_load_blk (by rfl) 25 _ (by rfl) _ (by rfl) _ _ (by exact b1) _ Tryd.underlying25 (by rfl) (by exact info_match) ?_))
            refine (Hab.out _ HMq3.out).mono ?_
            rintro e zq4 ⟨rfl, hg⟩
            clear b1
            have HDq4_1 := Lib.hid (HDq3_1.out.frm hg (fun h => h))
            have HDq4_2 := Lib.hid (HDq3_2.out.frm hg (fun h => h))
            have HDq4_3 := Lib.hid (HDq3_3.out.frm hg (fun h => h))
            have HFq4 := Lib.hid (HFq3.out.trans hg)
            have HMq4 := Lib.hid (HMq3.out.keep hg)
            clear hg
            go_wp2_with fail
            refine (Hsl.out _ HMq4.out).mono ?_
            rintro e zq5 ⟨rfl, hg⟩
            have HDq5_1 := Lib.hid (HDq4_1.out.frm hg (fun h => h))
            have HDq5_2 := Lib.hid (HDq4_2.out.frm hg (fun h => h))
            have HDq5_3 := Lib.hid (HDq4_3.out.frm hg (fun h => h))
            have HFq5 := Lib.hid (HFq4.out.trans hg)
            have HMq5 := Lib.hid (HMq4.out.keep hg)
            clear hg
            have b3 := HDq5_3.out
            go_wp2_with (first | (refine wpl_load_blk (by rfl) 25 _ (by rfl) _ (by rfl) _ _ (by exact b3) _ Tryd.underlying25 (by rfl) (by exact info_match) ?_) | (refine wpl_addg (by rfl) _ _ (by rfl) _ _ _ (by rfl) (by rfl) (Hadd.out _) ?_))
            refine (Hcq.out _ HMq5.out).mono ?_
            rintro e zq6 ⟨rfl, hg⟩
            clear b3
            have HDq6_1 := Lib.hid (HDq5_1.out.frm hg (fun h => h))
            have HDq6_2 := Lib.hid (HDq5_2.out.frm hg (fun h => h))
            have HDq6_3 := Lib.hid (HDq5_3.out.frm hg (fun h => h))
            have HFq6 := Lib.hid (HFq5.out.trans hg)
            have HMq6 := Lib.hid (HMq5.out.keep hg)
            clear hg
            go_wp2_with fail
            refine (mlives_any _ HMq6.out).mono ?_
            rintro e zq7 ⟨rfl, hg⟩
            have HDq7_1 := Lib.hid (HDq6_1.out.frm hg (fun h => h))
            have HDq7_2 := Lib.hid (HDq6_2.out.frm hg (fun h => h))
            have HDq7_3 := Lib.hid (HDq6_3.out.frm hg (fun h => h))
            have HFq7 := Lib.hid (HFq6.out.trans hg)
            have HMq7 := Lib.hid (HMq6.out.keep hg)
            clear hg
            go_wp2_with fail
            go_ret
            exact ⟨rfl, HFq7.out.below (Nat.le_refl _) (fun _ _ h => h)⟩
        · cases vq
          · have e1 := He1.out
            have e2 := He2.out
            have b1 := HB1.out
            go_wp2_with (first | (refine wpl_load_blk (by rfl) 25 _ (by rfl) _ (by rfl) _ _ (by exact b1) _ Tryd.underlying25 (by rfl) (by exact info_match) ?_))
            refine (Haa.out _ HM.out).mono ?_
            rintro e zq0 ⟨rfl, hg⟩
            clear b1
            have HDq0_1 := Lib.hid (HB1.out.frm hg (fun h => h))
            have HDq0_2 := Lib.hid (HB2.out.frm hg (fun h => h))
            have HDq0_3 := Lib.hid (HB3.out.frm hg (fun h => h))
            have HFq0 := Lib.hid (Hf.out.trans hg)
            have HMq0 := Lib.hid (HM.out.keep hg)
            clear hg
            have b1 := HDq0_1.out
            go_wp2_with (first | (refine wpl_load_blk (by rfl) 25 _ (by rfl) _ (by rfl) _ _ (by exact b1) _ Tryd.underlying25 (by rfl) (by exact info_match) ?_))
            refine (Hab.out _ HMq0.out).mono ?_
            rintro e zq1 ⟨rfl, hg⟩
            clear b1
            have HDq1_1 := Lib.hid (HDq0_1.out.frm hg (fun h => h))
            have HDq1_2 := Lib.hid (HDq0_2.out.frm hg (fun h => h))
            have HDq1_3 := Lib.hid (HDq0_3.out.frm hg (fun h => h))
            have HFq1 := Lib.hid (HFq0.out.trans hg)
            have HMq1 := Lib.hid (HMq0.out.keep hg)
            clear hg
            have b1 := HDq1_1.out
            go_wp2_with (first | (refine wpl_load_blk (by rfl) 25 _ (by rfl) _ (by rfl) _ _ (by exact b1) _ Tryd.underlying25 (by rfl) (by exact info_match) ?_))
            refine (Hab.out _ HMq1.out).mono ?_
            rintro e zq2 ⟨rfl, hg⟩
            clear b1
            have HDq2_1 := Lib.hid (HDq1_1.out.frm hg (fun h => h))
            have HDq2_2 := Lib.hid (HDq1_2.out.frm hg (fun h => h))
            have HDq2_3 := Lib.hid (HDq1_3.out.frm hg (fun h => h))
            have HFq2 := Lib.hid (HFq1.out.trans hg)
            have HMq2 := Lib.hid (HMq1.out.keep hg)
            clear hg
            have b1 := HDq2_1.out
            go_wp2_with (first | (refine wpl_load_blk (by rfl) 25 _ (by rfl) _ (by rfl) _ _ (by exact b1) _ Tryd.underlying25 (by rfl) (by exact info_match) ?_))
            refine (Hac.out _ HMq2.out).mono ?_
            rintro e zq3 ⟨rfl, hg⟩
            clear b1
            have HDq3_1 := Lib.hid (HDq2_1.out.frm hg (fun h => h))
            have HDq3_2 := Lib.hid (HDq2_2.out.frm hg (fun h => h))
            have HDq3_3 := Lib.hid (HDq2_3.out.frm hg (fun h => h))
            have HFq3 := Lib.hid (HFq2.out.trans hg)
            have HMq3 := Lib.hid (HMq2.out.keep hg)
            clear hg
            have b2 := HDq3_2.out
            go_wp2_with (first | (refine wpl_load_blk (by rfl) 25 _ (by rfl) _ (by rfl) _ _ (by exact b2) _ Tryd.underlying25 (by rfl) (by exact info_match) ?_))
            refine (Hbc.out _ HMq3.out).mono ?_
            rintro e zq4 ⟨rfl, hg⟩
            clear b2
            have HDq4_1 := Lib.hid (HDq3_1.out.frm hg (fun h => h))
            have HDq4_2 := Lib.hid (HDq3_2.out.frm hg (fun h => h))
            have HDq4_3 := Lib.hid (HDq3_3.out.frm hg (fun h => h))
            have HFq4 := Lib.hid (HFq3.out.trans hg)
            have HMq4 := Lib.hid (HMq3.out.keep hg)
            clear hg
            have b1 := HDq4_1.out
            go_wp2_with (first | (refine wpl_load_blk (by rfl) 25 _ (by rfl) _ (by rfl) _ _ (by exact b1) _ Tryd.underlying25 (by rfl) (by exact info_match) ?_))
            refine (Hab.out _ HMq4.out).mono ?_
            rintro e zq5 ⟨rfl, hg⟩
            clear b1
            have HDq5_1 := Lib.hid (HDq4_1.out.frm hg (fun h => h))
            have HDq5_2 := Lib.hid (HDq4_2.out.frm hg (fun h => h))
            have HDq5_3 := Lib.hid (HDq4_3.out.frm hg (fun h => h))
            have HFq5 := Lib.hid (HFq4.out.trans hg)
            have HMq5 := Lib.hid (HMq4.out.keep hg)
            clear hg
            have b2 := HDq5_2.out
            go_wp2_with (first | (refine wpl_load_blk (by rfl) 25 _ (by rfl) _ (by rfl) _ _ (by exact b2) _ Tryd.underlying25 (by rfl) (by exact info_match) ?_))
            refine (Hba.out _ HMq5.out).mono ?_
            rintro e zq6 ⟨rfl, hg⟩
            clear b2
            have HDq6_1 := Lib.hid (HDq5_1.out.frm hg (fun h => h))
            have HDq6_2 := Lib.hid (HDq5_2.out.frm hg (fun h => h))
            have HDq6_3 := Lib.hid (HDq5_3.out.frm hg (fun h => h))
            have HFq6 := Lib.hid (HFq5.out.trans hg)
            have HMq6 := Lib.hid (HMq5.out.keep hg)
            clear hg
            have b1 := HDq6_1.out
            go_wp2_with (first | (refine wpl_load_blk (by rfl) 25 _ (by rfl) _ (by rfl) _ _ (by exact b1) _ Tryd.underlying25 (by rfl) (by exact info_match) ?_))
            refine (Hab.out _ HMq6.out).mono ?_
            rintro e zq7 ⟨rfl, hg⟩
            clear b1
            have HDq7_1 := Lib.hid (HDq6_1.out.frm hg (fun h => h))
            have HDq7_2 := Lib.hid (HDq6_2.out.frm hg (fun h => h))
            have HDq7_3 := Lib.hid (HDq6_3.out.frm hg (fun h => h))
            have HFq7 := Lib.hid (HFq6.out.trans hg)
            have HMq7 := Lib.hid (HMq6.out.keep hg)
            clear hg
            go_wp2_with fail
            refine (Hsl.out _ HMq7.out).mono ?_
            rintro e zq8 ⟨rfl, hg⟩
            have HDq8_1 := Lib.hid (HDq7_1.out.frm hg (fun h => h))
            have HDq8_2 := Lib.hid (HDq7_2.out.frm hg (fun h => h))
            have HDq8_3 := Lib.hid (HDq7_3.out.frm hg (fun h => h))
            have HFq8 := Lib.hid (HFq7.out.trans hg)
            have HMq8 := Lib.hid (HMq7.out.keep hg)
            clear hg
            have b3 := HDq8_3.out
            go_wp2_with (first | (refine wpl_load_blk (by rfl) 25 _ (by rfl) _ (by rfl) _ _ (by exact b3) _ Tryd.underlying25 (by rfl) (by exact info_match) ?_) | (refine wpl_addg (by rfl) _ _ (by rfl) _ _ _ (by rfl) (by rfl) (Hadd.out _) ?_))
            refine (Hcq.out _ HMq8.out).mono ?_
            rintro e zq9 ⟨rfl, hg⟩
            clear b3
            have HDq9_1 := Lib.hid (HDq8_1.out.frm hg (fun h => h))
            have HDq9_2 := Lib.hid (HDq8_2.out.frm hg (fun h => h))
            have HDq9_3 := Lib.hid (HDq8_3.out.frm hg (fun h => h))
            have HFq9 := Lib.hid (HFq8.out.trans hg)
            have HMq9 := Lib.hid (HMq8.out.keep hg)
            clear hg
            go_wp2_with fail
            refine (mlives_any _ HMq9.out).mono ?_
            rintro e zq10 ⟨rfl, hg⟩
            have HDq10_1 := Lib.hid (HDq9_1.out.frm hg (fun h => h))
            have HDq10_2 := Lib.hid (HDq9_2.out.frm hg (fun h => h))
            have HDq10_3 := Lib.hid (HDq9_3.out.frm hg (fun h => h))
            have HFq10 := Lib.hid (HFq9.out.trans hg)
            have HMq10 := Lib.hid (HMq9.out.keep hg)
            clear hg
            go_wp2_with fail
            go_ret
            exact ⟨rfl, HFq10.out.below (Nat.le_refl _) (fun _ _ h => h)⟩
          · have e1 := He1.out
            have e2 := He2.out
            have b1 := HB1.out
            go_wp2_with (first | (refine wpl_load_blk (by rfl) 25 _ (by rfl) _ (by rfl) _ _ (by exact b1) _ Tryd.underlying25 (by rfl) (by exact info_match) ?_))
            refine (Haa.out _ HM.out).mono ?_
            rintro e zq0 ⟨rfl, hg⟩
            clear b1
            have HDq0_1 := Lib.hid (HB1.out.frm hg (fun h => h))
            have HDq0_2 := Lib.hid (HB2.out.frm hg (fun h => h))
            have HDq0_3 := Lib.hid (HB3.out.frm hg (fun h => h))
            have HFq0 := Lib.hid (Hf.out.trans hg)
            have HMq0 := Lib.hid (HM.out.keep hg)
            clear hg
            have b1 := HDq0_1.out
            go_wp2_with (first | (refine wpl_load_blk (by rfl) 25 _ (by rfl) _ (by rfl) _ _ (by exact b1) _ Tryd.underlying25 (by rfl) (by exact info_match) ?_))
            refine (Hab.out _ HMq0.out).mono ?_
            rintro e zq1 ⟨rfl, hg⟩
            clear b1
            have HDq1_1 := Lib.hid (HDq0_1.out.frm hg (fun h => h))
            have HDq1_2 := Lib.hid (HDq0_2.out.frm hg (fun h => h))
            have HDq1_3 := Lib.hid (HDq0_3.out.frm hg (fun h => h))
            have HFq1 := Lib.hid (HFq0.out.trans hg)
            have HMq1 := Lib.hid (HMq0.out.keep hg)
            clear hg
            have b1 := HDq1_1.out
            go_wp2_with (first | (refine wpl_load_blk (by rfl) 25 _ (by rfl) _ (by rfl) _ _ (by exact b1) _ Tryd.underlying25 (by rfl) (by exact info_match) ?_))
            refine (Hab.out _ HMq1.out).mono ?_
            rintro e zq2 ⟨rfl, hg⟩
            clear b1
            have HDq2_1 := Lib.hid (HDq1_1.out.frm hg (fun h => h))
            have HDq2_2 := Lib.hid (HDq1_2.out.frm hg (fun h => h))
            have HDq2_3 := Lib.hid (HDq1_3.out.frm hg (fun h => h))
            have HFq2 := Lib.hid (HFq1.out.trans hg)
            have HMq2 := Lib.hid (HMq1.out.keep hg)
            clear hg
            have b1 := HDq2_1.out
            go_wp2_with (first | (refine wpl_load_blk (by rfl) 25 _ (by rfl) _ (by rfl) _ _ (by exact b1) _ Tryd.underlying25 (by rfl) (by exact info_match) ?_))
            refine (Hac.out _ HMq2.out).mono ?_
            rintro e zq3 ⟨rfl, hg⟩
            clear b1
            have HDq3_1 := Lib.hid (HDq2_1.out.frm hg (fun h => h))
            have HDq3_2 := Lib.hid (HDq2_2.out.frm hg (fun h => h))
            have HDq3_3 := Lib.hid (HDq2_3.out.frm hg (fun h => h))
            have HFq3 := Lib.hid (HFq2.out.trans hg)
            have HMq3 := Lib.hid (HMq2.out.keep hg)
            clear hg
            have b2 := HDq3_2.out
            go_wp2_with (first | (refine wpl_load_blk (by rfl) 25 _ (by rfl) _ (by rfl) _ _ (by exact b2) _ Tryd.underlying25 (by rfl) (by exact info_match) ?_))
            refine (Hbc.out _ HMq3.out).mono ?_
            rintro e zq4 ⟨rfl, hg⟩
            clear b2
            have HDq4_1 := Lib.hid (HDq3_1.out.frm hg (fun h => h))
            have HDq4_2 := Lib.hid (HDq3_2.out.frm hg (fun h => h))
            have HDq4_3 := Lib.hid (HDq3_3.out.frm hg (fun h => h))
            have HFq4 := Lib.hid (HFq3.out.trans hg)
            have HMq4 := Lib.hid (HMq3.out.keep hg)
            clear hg
            have b1 := HDq4_1.out
            go_wp2_with (first | (refine wpl_load_blk (by rfl) 25 _ (by rfl) _ (by rfl) _ _ (by exact b1) _ Tryd.underlying25 (by rfl) (by exact info_match) ?_))
            refine (Hab.out _ HMq4.out).mono ?_
            rintro e zq5 ⟨rfl, hg⟩
            clear b1
            have HDq5_1 := Lib.hid (HDq4_1.out.frm hg (fun h => h))
            have HDq5_2 := Lib.hid (HDq4_2.out.frm hg (fun h => h))
            have HDq5_3 := Lib.hid (HDq4_3.out.frm hg (fun h => h))
            have HFq5 := Lib.hid (HFq4.out.trans hg)
            have HMq5 := Lib.hid (HMq4.out.keep hg)
            clear hg
            have b2 := HDq5_2.out
            go_wp2_with (first | (refine wpl_load_blk (by rfl) 25 _ (by rfl) _ (by rfl) _ _ (by exact b2) _ Tryd.underlying25 (by rfl) (by exact info_match) ?_))
            refine (Hba.out _ HMq5.out).mono ?_
            rintro e zq6 ⟨rfl, hg⟩
            clear b2
            have HDq6_1 := Lib.hid (HDq5_1.out.frm hg (fun h => h))
            have HDq6_2 := Lib.hid (HDq5_2.out.frm hg (fun h => h))
            have HDq6_3 := Lib.hid (HDq5_3.out.frm hg (fun h => h))
            have HFq6 := Lib.hid (HFq5.out.trans hg)
            have HMq6 := Lib.hid (HMq5.out.keep hg)
            clear hg
            have b1 := HDq6_1.out
            go_wp2_with (first | (refine wpl_load_blk (by rfl) 25 _ (by rfl) _ (by rfl) _ _ (by exact b1) _ Tryd.underlying25 (by rfl) (by exact info_match) ?_))
            refine (Hab.out _ HMq6.out).mono ?_
            rintro e zq7 ⟨rfl, hg⟩
            clear b1
            have HDq7_1 := Lib.hid (HDq6_1.out.frm hg (fun h => h))
            have HDq7_2 := Lib.hid (HDq6_2.out.frm hg (fun h => h))
            have HDq7_3 := Lib.hid (HDq6_3.out.frm hg (fun h => h))
            have HFq7 := Lib.hid (HFq6.out.trans hg)
            have HMq7 := Lib.hid (HMq6.out.keep hg)
            clear hg
            go_wp2_with fail
            refine (Hsl.out _ HMq7.out).mono ?_
            rintro e zq8 ⟨rfl, hg⟩
            have HDq8_1 := Lib.hid (HDq7_1.out.frm hg (fun h => h))
            have HDq8_2 := Lib.hid (HDq7_2.out.frm hg (fun h => h))
            have HDq8_3 := Lib.hid (HDq7_3.out.frm hg (fun h => h))
            have HFq8 := Lib.hid (HFq7.out.trans hg)
            have HMq8 := Lib.hid (HMq7.out.keep hg)
            clear hg
            have b3 := HDq8_3.out
            go_wp2_with (first | (refine wpl_load_blk (by rfl) 25 _ (by rfl) _ (by rfl) _ _ (by exact b3) _ Tryd.underlying25 (by rfl) (by exact info_match) ?_) | (refine wpl_addg (by rfl) _ _ (by rfl) _ _ _ (by rfl) (by rfl) (Hadd.out _) ?_))
            refine (Hcq.out _ HMq8.out).mono ?_
            rintro e zq9 ⟨rfl, hg⟩
            clear b3
            have HDq9_1 := Lib.hid (HDq8_1.out.frm hg (fun h => h))
            have HDq9_2 := Lib.hid (HDq8_2.out.frm hg (fun h => h))
            have HDq9_3 := Lib.hid (HDq8_3.out.frm hg (fun h => h))
            have HFq9 := Lib.hid (HFq8.out.trans hg)
            have HMq9 := Lib.hid (HMq8.out.keep hg)
            clear hg
            go_wp2_with fail
            refine (mlives_any _ HMq9.out).mono ?_
            rintro e zq10 ⟨rfl, hg⟩
            have HDq10_1 := Lib.hid (HDq9_1.out.frm hg (fun h => h))
            have HDq10_2 := Lib.hid (HDq9_2.out.frm hg (fun h => h))
            have HDq10_3 := Lib.hid (HDq9_3.out.frm hg (fun h => h))
            have HFq10 := Lib.hid (HFq9.out.trans hg)
            have HMq10 := Lib.hid (HMq9.out.keep hg)
            clear hg
            go_wp2_with fail
            go_ret
            exact ⟨rfl, HFq10.out.below (Nat.le_refl _) (fun _ _ h => h)⟩
  · cases vba
    · cases vbc
      · cases vac
        · cases vq
          · have e1 := He1.out
            have e2 := He2.out
            have b1 := HB1.out
            go_wp2_with (first | (refine wpl_load_blk (by rfl) 25 _ (by rfl) _ (by rfl) _ _ (by exact b1) _ Tryd.underlying25 (by rfl) (by exact info_match) ?_))
            refine (Haa.out _ HM.out).mono ?_
            rintro e zq0 ⟨rfl, hg⟩
            clear b1
            have HDq0_1 := Lib.hid (HB1.out.frm hg (fun h => h))
            have HDq0_2 := Lib.hid (HB2.out.frm hg (fun h => h))
            have HDq0_3 := Lib.hid (HB3.out.frm hg (fun h => h))
            have HFq0 := Lib.hid (Hf.out.trans hg)
            have HMq0 := Lib.hid (HM.out.keep hg)
            clear hg
            have b1 := HDq0_1.out
            go_wp2_with (first | (refine wpl_load_blk (by rfl) 25 _ (by rfl) _ (by rfl) _ _ (by exact b1) _ Tryd.underlying25 (by rfl) (by exact info_match) ?_))
            refine (Hab.out _ HMq0.out).mono ?_
            rintro e zq1 ⟨rfl, hg⟩
            clear b1
            have HDq1_1 := Lib.hid (HDq0_1.out.frm hg (fun h => h))
            have HDq1_2 := Lib.hid (HDq0_2.out.frm hg (fun h => h))
            have HDq1_3 := Lib.hid (HDq0_3.out.frm hg (fun h => h))
            have HFq1 := Lib.hid (HFq0.out.trans hg)
            have HMq1 := Lib.hid (HMq0.out.keep hg)
            clear hg
            have b2 := HDq1_2.out
            go_wp2_with (first | (refine wpl_load_blk (by rfl) 25 _ (by rfl) _ (by rfl) _ _ (by exact b2) _ Tryd.underlying25 (by rfl) (by exact info_match) ?_))
            refine (Hba.out _ HMq1.out).mono ?_
            rintro e zq2 ⟨rfl, hg⟩
            clear b2
            have HDq2_1 := Lib.hid (HDq1_1.out.frm hg (fun h => h))
            have HDq2_2 := Lib.hid (HDq1_2.out.frm hg (fun h => h))
            have HDq2_3 := Lib.hid (HDq1_3.out.frm hg (fun h => h))
            have HFq2 := Lib.hid (HFq1.out.trans hg)
            have HMq2 := Lib.hid (HMq1.out.keep hg)
            clear hg
            have b1 := HDq2_1.out
            go_wp2_with (first | (refine wpl_load_blk (by rfl) 25 _ (by rfl) _ (by rfl) _ _ (by exact b1) _ Tryd.underlying25 (by rfl) (by exact info_match) ?_))
            refine (Hab.out _ HMq2.out).mono ?_
            rintro e zq3 ⟨rfl, hg⟩
            clear b1
            have HDq3_1 := Lib.hid (HDq2_1.out.frm hg (fun h => h))
            have HDq3_2 := Lib.hid (HDq2_2.out.frm hg (fun h => h))
            have HDq3_3 := Lib.hid (HDq2_3.out.frm hg (fun h => h))
            have HFq3 := Lib.hid (HFq2.out.trans hg)
            have HMq3 := Lib.hid (HMq2.out.keep hg)
            clear hg
            have b2 := HDq3_2.out
            go_wp2_with (first | (refine wpl_load_blk (by rfl) 25 _ (by rfl) _ (by rfl) _ _ (by exact b2) _ Tryd.underlying25 (by rfl) (by exact info_match) ?_))
            refine (Hbc.out _ HMq3.out).mono ?_
            rintro e zq4 ⟨rfl, hg⟩
            clear b2
            have HDq4_1 := Lib.hid (HDq3_1.out.frm hg (fun h => h))
            have HDq4_2 := Lib.hid (HDq3_2.out.frm hg (fun h => h))
            have HDq4_3 := Lib.hid (HDq3_3.out.frm hg (fun h => h))
            have HFq4 := Lib.hid (HFq3.out.trans hg)
            have HMq4 := Lib.hid (HMq3.out.keep hg)
            clear hg
            have b1 := HDq4_1.out
            go_wp2_with (first | (refine wpl_load_blk (by rfl) 25 _ (by rfl) _ (by rfl) _ _ (by exact b1) _ Tryd.underlying25 (by rfl) (by exact info_match) ?_))
            refine (Hac.out _ HMq4.out).mono ?_
            rintro e zq5 ⟨rfl, hg⟩
            clear b1
            have HDq5_1 := Lib.hid (HDq4_1.out.frm hg (fun h => h))
            have HDq5_2 := Lib.hid (HDq4_2.out.frm hg (fun h => h))
            have HDq5_3 := Lib.hid (HDq4_3.out.frm hg (fun h => h))
            have HFq5 := Lib.hid (HFq4.out.trans hg)
            have HMq5 := Lib.hid (HMq4.out.keep hg)
            clear hg
            have b1 := HDq5_1.out
            go_wp2_with (first | (refine wpl_load_blk (by rfl) 25 _ (by rfl) _ (by rfl) _ _ (by exact b1) _ Tryd.underlying25 (by rfl) (by exact info_match) ?_))
            refine (Hab.out _ HMq5.out).mono ?_
            rintro e zq6 ⟨rfl, hg⟩
            clear b1
            have HDq6_1 := Lib.hid (HDq5_1.out.frm hg (fun h => h))
            have HDq6_2 := Lib.hid (HDq5_2.out.frm hg (fun h => h))
            have HDq6_3 := Lib.hid (HDq5_3.out.frm hg (fun h => h))
            have HFq6 := Lib.hid (HFq5.out.trans hg)
            have HMq6 := Lib.hid (HMq5.out.keep hg)
            clear hg
            have b1 := HDq6_1.out
            have b2 := HDq6_2.out
            go_wp2_with (first | (refine wpl_load_blk (by rfl) 25 _ (by rfl) _ (by rfl) _ _ (by exact b1) _ Tryd.underlying25 (by rfl) (by exact info_match) ?_) | (refine wpl_load_blk (by rfl) 25 _ (by rfl) _ (by rfl) _ _ (by exact b2) _ Tryd.underlying25 (by rfl) (by exact info_match) ?_))
            refine ((Hcm2.out (by simp) (by simp)) _).mono ?_
            rintro e zq7 ⟨rfl, hg⟩
            clear b1 b2
            have HDq7_1 := Lib.hid (HDq6_1.out.frm hg (fun h => h))
            have HDq7_2 := Lib.hid (HDq6_2.out.frm hg (fun h => h))
            have HDq7_3 := Lib.hid (HDq6_3.out.frm hg (fun h => h))
            have HFq7 := Lib.hid (HFq6.out.trans hg)
            have HMq7 := Lib.hid (HMq6.out.keep hg)
            clear hg
            go_wp2_with fail
            refine (Hsl.out _ HMq7.out).mono ?_
            rintro e zq8 ⟨rfl, hg⟩
            have HDq8_1 := Lib.hid (HDq7_1.out.frm hg (fun h => h))
            have HDq8_2 := Lib.hid (HDq7_2.out.frm hg (fun h => h))
            have HDq8_3 := Lib.hid (HDq7_3.out.frm hg (fun h => h))
            have HFq8 := Lib.hid (HFq7.out.trans hg)
            have HMq8 := Lib.hid (HMq7.out.keep hg)
            clear hg
            have b3 := HDq8_3.out
            go_wp2_with (first | (refine wpl_load_blk (by rfl) 25 _ (by rfl) _ (by rfl) _ _ (by exact b3) _ Tryd.underlying25 (by rfl) (by exact info_match) ?_) | (refine wpl_addg (by rfl) _ _ (by rfl) _ _ _ (by rfl) (by rfl) (Hadd.out _) ?_))
            refine (Hcq.out _ HMq8.out).mono ?_
            rintro e zq9 ⟨rfl, hg⟩
            clear b3
            have HDq9_1 := Lib.hid (HDq8_1.out.frm hg (fun h => h))
            have HDq9_2 := Lib.hid (HDq8_2.out.frm hg (fun h => h))
            have HDq9_3 := Lib.hid (HDq8_3.out.frm hg (fun h => h))
            have HFq9 := Lib.hid (HFq8.out.trans hg)
            have HMq9 := Lib.hid (HMq8.out.keep hg)
            clear hg
            go_wp2_with fail
            refine (mlives_any _ HMq9.out).mono ?_
            rintro e zq10 ⟨rfl, hg⟩
            have HDq10_1 := Lib.hid (HDq9_1.out.frm hg (fun h => h))
            have HDq10_2 := Lib.hid (HDq9_2.out.frm hg (fun h => h))
            have HDq10_3 := Lib.hid (HDq9_3.out.frm hg (fun h => h))
            have HFq10 := Lib.hid (HFq9.out.trans hg)
            have HMq10 := Lib.hid (HMq9.out.keep hg)
            clear hg
            go_wp2_with fail
            go_ret
            exact ⟨rfl, HFq10.out.below (Nat.le_refl _) (fun _ _ h => h)⟩
          · have e1 := He1.out
            have e2 := He2.out
            have b1 := HB1.out
            go_wp2_with (first | (refine wpl_load_blk (by rfl) 25 _ (by rfl) _ (by rfl) _ _ (by exact b1) _ Tryd.underlying25 (by rfl) (by exact info_match) ?_))
            refine (Haa.out _ HM.out).mono ?_
            rintro e zq0 ⟨rfl, hg⟩
            clear b1
            have HDq0_1 := Lib.hid (HB1.out.frm hg (fun h => h))
            have HDq0_2 := Lib.hid (HB2.out.frm hg (fun h => h))
            have HDq0_3 := Lib.hid (HB3.out.frm hg (fun h => h))
            have HFq0 := Lib.hid (Hf.out.trans hg)
            have HMq0 := Lib.hid (HM.out.keep hg)
            clear hg
            have b1 := HDq0_1.out
            go_wp2_with (first | (refine wpl_load_blk (by rfl) 25 _ (by rfl) _ (by rfl) _ _ (by exact b1) _ Tryd.underlying25 (by rfl) (by exact info_match) ?_))
            refine (Hab.out _ HMq0.out).mono ?_
            rintro e zq1 ⟨rfl, hg⟩
            clear b1
            have HDq1_1 := Lib.hid (HDq0_1.out.frm hg (fun h => h))
            have HDq1_2 := Lib.hid (HDq0_2.out.frm hg (fun h => h))
            have HDq1_3 := Lib.hid (HDq0_3.out.frm hg (fun h => h))
            have HFq1 := Lib.hid (HFq0.out.trans hg)
            have HMq1 := Lib.hid (HMq0.out.keep hg)
            clear hg
            have b2 := HDq1_2.out
            go_wp2_with (first | (refine wpl_load_blk (by rfl) 25 _ (by rfl) _ (by rfl) _ _ (by exact b2) _ Tryd.underlying25 (by rfl) (by exact info_match) ?_))
            refine (Hba.out _ HMq1.out).mono ?_
            rintro e zq2 ⟨rfl, hg⟩
            clear b2
            have HDq2_1 := Lib.hid (HDq1_1.out.frm hg (fun h => h))
            have HDq2_2 := Lib.hid (HDq1_2.out.frm hg (fun h => h))
            have HDq2_3 := Lib.hid (HDq1_3.out.frm hg (fun h => h))
            have HFq2 := Lib.hid (HFq1.out.trans hg)
            have HMq2 := Lib.hid (HMq1.out.keep hg)
            clear hg
            have b1 := HDq2_1.out
            go_wp2_with (first | (refine wpl_load_blk (by rfl) 25 _ (by rfl) _ (by rfl) _ _ (by exact b1) _ Tryd.underlying25 (by rfl) (by exact info_match) ?_))
            refine (Hab.out _ HMq2.out).mono ?_
            rintro e zq3 ⟨rfl, hg⟩
            clear b1
            have HDq3_1 := Lib.hid (HDq2_1.out.frm hg (fun h => h))
            have HDq3_2 := Lib.hid (HDq2_2.out.frm hg (fun h => h))
            have HDq3_3 := Lib.hid (HDq2_3.out.frm hg (fun h => h))
            have HFq3 := Lib.hid (HFq2.out.trans hg)
            have HMq3 := Lib.hid (HMq2.out.keep hg)
            clear hg
            have b2 := HDq3_2.out
            go_wp2_with (first | (refine wpl_load_blk (by rfl) 25 _ (by rfl) _ (by rfl) _ _ (by exact b2) _ Tryd.underlying25 (by rfl) (by exact info_match) ?_))
            refine (Hbc.out _ HMq3.out).mono ?_
            rintro e zq4 ⟨rfl, hg⟩
            clear b2
            have HDq4_1 := Lib.hid (HDq3_1.out.frm hg (fun h => h))
            have HDq4_2 := Lib.hid (HDq3_2.out.frm hg (fun h => h))
            have HDq4_3 := Lib.hid (HDq3_3.out.frm hg (fun h => h))
            have HFq4 := Lib.hid (HFq3.out.trans hg)
            have HMq4 := Lib.hid (HMq3.out.keep hg)
            clear hg
            have b1 := HDq4_1.out
            go_wp2_with (first | (refine wpl_load_blk (by rfl) 25 _ (by rfl) _ (by rfl) _ _ (by exact b1) _ Tryd.underlying25 (by rfl) (by exact info_match) ?_))
            refine (Hac.out _ HMq4.out).mono ?_
            rintro e zq5 ⟨rfl, hg⟩
            clear b1
            have HDq5_1 := Lib.hid (HDq4_1.out.frm hg (fun h => h))
            have HDq5_2 := Lib.hid (HDq4_2.out.frm hg (fun h => h))
            have HDq5_3 := Lib.hid (HDq4_3.out.frm hg (fun h => h))
            have HFq5 := Lib.hid (HFq4.out.trans hg)
            have HMq5 := Lib.hid (HMq4.out.keep hg)
            clear hg
            have b1 := HDq5_1.out
            go_wp2_with (first | (refine wpl_load_blk (by rfl) 25 _ (by rfl) _ (by rfl) _ _ (by exact b1) _ Tryd.underlying25 (by rfl) (by exact info_match) ?_))
            refine (Hab.out _ HMq5.out).mono ?_
            rintro e zq6 ⟨rfl, hg⟩
            clear b1
            have HDq6_1 := Lib.hid (HDq5_1.out.frm hg (fun h => h))
            have HDq6_2 := Lib.hid (HDq5_2.out.frm hg (fun h => h))
            have HDq6_3 := Lib.hid (HDq5_3.out.frm hg (fun h => h))
            have HFq6 := Lib.hid (HFq5.out.trans hg)
            have HMq6 := Lib.hid (HMq5.out.keep hg)
            clear hg
            go_wp2_with fail
            refine (Hsl.out _ HMq6.out).mono ?_
            rintro e zq7 ⟨rfl, hg⟩
            have HDq7_1 := Lib.hid (HDq6_1.out.frm hg (fun h => h))
            have HDq7_2 := Lib.hid (HDq6_2.out.frm hg (fun h => h))
            have HDq7_3 := Lib.hid (HDq6_3.out.frm hg (fun h => h))
            have HFq7 := Lib.hid (HFq6.out.trans hg)
            have HMq7 := Lib.hid (HMq6.out.keep hg)
            clear hg
            have b3 := HDq7_3.out
            go_wp2_with (first | (refine wpl_load_blk (by rfl) 25 _ (by rfl) _ (by rfl) _ _ (by exact b3) _ Tryd.underlying25 (by rfl) (by exact info_match) ?_) | (refine wpl_addg (by rfl) _ _ (by rfl) _ _ _ (by rfl) (by rfl) (Hadd.out _) ?_))
            refine (Hcq.out _ HMq7.out).mono ?_
            rintro e zq8 ⟨rfl, hg⟩
            clear b3
            have HDq8_1 := Lib.hid (HDq7_1.out.frm hg (fun h => h))
            have HDq8_2 := Lib.hid (HDq7_2.out.frm hg (fun h => h))
            have HDq8_3 := Lib.hid (HDq7_3.out.frm hg (fun h => h))
            have HFq8 := Lib.hid (HFq7.out.trans hg)
            have HMq8 := Lib.hid (HMq7.out.keep hg)
            clear hg
            go_wp2_with fail
            refine (mlives_any _ HMq8.out).mono ?_
            rintro e zq9 ⟨rfl, hg⟩
            have HDq9_1 := Lib.hid (HDq8_1.out.frm hg (fun h => h))
            have HDq9_2 := Lib.hid (HDq8_2.out.frm hg (fun h => h))
            have HDq9_3 := Lib.hid (HDq8_3.out.frm hg (fun h => h))
            have HFq9 := Lib.hid (HFq8.out.trans hg)
            have HMq9 := Lib.hid (HMq8.out.keep hg)
            clear hg
            go_wp2_with fail
            go_ret
            exact ⟨rfl, HFq9.out.below (Nat.le_refl _) (fun _ _ h => h)⟩
        · cases vq
          · have e1 := He1.out
            have e2 := He2.out
            have b1 := HB1.out
            go_wp2_with (first | (refine wpl_load_blk (by rfl) 25 _ (by rfl) _ (by rfl) _ _ (by exact b1) _ Tryd.underlying25 (by rfl) (by exact info_match) ?_))
            refine (Haa.out _ HM.out).mono ?_
            rintro e zq0 ⟨rfl, hg⟩
            clear b1
            have HDq0_1 := Lib.hid (HB1.out.frm hg (fun h => h))
            have HDq0_2 := Lib.hid (HB2.out.frm hg (fun h => h))
            have HDq0_3 := Lib.hid (HB3.out.frm hg (fun h => h))
            have HFq0 := Lib.hid (Hf.out.trans hg)
            have HMq0 := Lib.hid (HM.out.keep hg)
            clear hg
            have b1 := HDq0_1.out
            go_wp2_with (first | (refine wpl_load_blk (by rfl) 25 _ (by rfl) _ (by rfl) _ _ (by exact b1) _ Tryd.underlying25 (by rfl) (by exact info_match) ?_))
            refine (Hab.out _ HMq0.out).mono ?_
            rintro e zq1 ⟨rfl, hg⟩
            clear b1
            have HDq1_1 := Lib.hid (HDq0_1.out.frm hg (fun h => h))
            have HDq1_2 := Lib.hid (HDq0_2.out.frm hg (fun h => h))
            have HDq1_3 := Lib.hid (HDq0_3.out.frm hg (fun h => h))
            have HFq1 := Lib.hid (HFq0.out.trans hg)
            have HMq1 := Lib.hid (HMq0.out.keep hg)
            clear hg
            have b2 := HDq1_2.out
            go_wp2_with (first | (refine wpl_load_blk (by rfl) 25 _ (by rfl) _ (by rfl) _ _ (by exact b2) _ Tryd.underlying25 (by rfl) (by exact info_match) ?_))
            refine (Hba.out _ HMq1.out).mono ?_
            rintro e zq2 ⟨rfl, hg⟩
            clear b2
            have HDq2_1 := Lib.hid (HDq1_1.out.frm hg (fun h => h))
            have HDq2_2 := Lib.hid (HDq1_2.out.frm hg (fun h => h))
            have HDq2_3 := Lib.hid (HDq1_3.out.frm hg (fun h => h))
            have HFq2 := Lib.hid (HFq1.out.trans hg)
            have HMq2 := Lib.hid (HMq1.out.keep hg)
            clear hg
            have b1 := HDq2_1.out
            go_wp2_with (first | (refine wpl_load_blk (by rfl) 25 _ (by rfl) _ (by rfl) _ _ (by exact b1) _ Tryd.underlying25 (by rfl) (by exact info_match) ?_))
            refine (Hab.out _ HMq2.out).mono ?_
            rintro e zq3 ⟨rfl, hg⟩
            clear b1
            have HDq3_1 := Lib.hid (HDq2_1.out.frm hg (fun h => h))
            have HDq3_2 := Lib.hid (HDq2_2.out.frm hg (fun h => h))
            have HDq3_3 := Lib.hid (HDq2_3.out.frm hg (fun h => h))
            have HFq3 := Lib.hid (HFq2.out.trans hg)
            have HMq3 := Lib.hid (HMq2.out.keep hg)
            clear hg
            have b2 := HDq3_2.out
            go_wp2_with (first | (refine wpl_load_blk (by rfl) 25 _ (by rfl) _ (by rfl) _ _ (by exact b2) _ Tryd.underlying25 (by rfl) (by exact info_match) ?_))
            refine (Hbc.out _ HMq3.out).mono ?_
            rintro e zq4 ⟨rfl, hg⟩
            clear b2
            have HDq4_1 := Lib.hid (HDq3_1.out.frm hg (fun h => h))
            have HDq4_2 := Lib.hid (HDq3_2.out.frm hg (fun h => h))
            have HDq4_3 := Lib.hid (HDq3_3.out.frm hg (fun h => h))
            have HFq4 := Lib.hid (HFq3.out.trans hg)
            have HMq4 := Lib.hid (HMq3.out.keep hg)
            clear hg
            have b1 := HDq4_1.out
            go_wp2_with (first | (refine wpl_load_blk (by rfl) 25 _ (by rfl) _ (by rfl) _ _ (by exact b1) _ Tryd.underlying25 (by rfl) (by exact info_match) ?_))
            refine (Hac.out _ HMq4.out).mono ?_
            rintro e zq5 ⟨rfl, hg⟩
            clear b1
            have HDq5_1 := Lib.hid (HDq4_1.out.frm hg (fun h => h))
            have HDq5_2 := Lib.hid (HDq4_2.out.frm hg (fun h => h))
            have HDq5_3 := Lib.hid (HDq4_3.out.frm hg (fun h => h))
            have HFq5 := Lib.hid (HFq4.out.trans hg)
            have HMq5 := Lib.hid (HMq4.out.keep hg)
            clear hg
            have b2 := HDq5_2.out
            go_wp2_with (first | (refine wpl_load_blk (by rfl) 25 _ (by rfl) _ (by rfl) _ _ (by exact b2) _ Tryd.underlying25 (by rfl) (by exact info_match) ?_))
            refine (Hbc.out _ HMq5.out).mono ?_
            rintro e zq6 ⟨rfl, hg⟩
            clear b2
            have HDq6_1 := Lib.hid (HDq5_1.out.frm hg (fun h => h))
            have HDq6_2 := Lib.hid (HDq5_2.out.frm hg (fun h => h))
            have HDq6_3 := Lib.hid (HDq5_3.out.frm hg (fun h => h))
            have HFq6 := Lib.hid (HFq5.out.trans hg)
            have HMq6 := Lib.hid (HMq5.out.keep hg)
            clear hg
            have b1 := HDq6_1.out
            go_wp2_with (first | (refine wpl_load_blk (by rfl) 25 _ (by rfl) _ (by rfl) _ _ (by exact b1) _ Tryd.underlying25 (by rfl) (by exact info_match) ?_))
            refine (Hab.out _ HMq6.out).mono ?_
            rintro e zq7 ⟨rfl, hg⟩
            clear b1
            have HDq7_1 := Lib.hid (HDq6_1.out.frm hg (fun h => h))
            have HDq7_2 := Lib.hid (HDq6_2.out.frm hg (fun h => h))
            have HDq7_3 := Lib.hid (HDq6_3.out.frm hg (fun h => h))
            have HFq7 := Lib.hid (HFq6.out.trans hg)
            have HMq7 := Lib.hid (HMq6.out.keep hg)
            clear hg
            have b1 := HDq7_1.out
            have b2 := HDq7_2.out
            go_wp2_with (first | (refine wpl_load_blk (by rfl) 25 _ (by rfl) _ (by rfl) _ _ (by exact b1) _ Tryd.underlying25 (by rfl) (by exact info_match) ?_) | (refine wpl_load_blk (by rfl) 25 _ (by rfl) _ (by rfl) _ _ (by exact b2) _ Tryd.underlying25 (by rfl) (by exact info_match) ?_))
            refine ((Hcm2.out (by simp) (by simp)) _).mono ?_
            rintro e zq8 ⟨rfl, hg⟩
            clear b1 b2
            have HDq8_1 := Lib.hid (HDq7_1.out.frm hg (fun h => h))
            have HDq8_2 := Lib.hid (HDq7_2.out.frm hg (fun h => h))
            have HDq8_3 := Lib.hid (HDq7_3.out.frm hg (fun h => h))
            have HFq8 := Lib.hid (HFq7.out.trans hg)
            have HMq8 := Lib.hid (HMq7.out.keep hg)
            clear hg
            go_wp2_with fail
            refine (Hsl.out _ HMq8.out).mono ?_
            rintro e zq9 ⟨rfl, hg⟩
            have HDq9_1 := Lib.hid (HDq8_1.out.frm hg (fun h => h))
            have HDq9_2 := Lib.hid (HDq8_2.out.frm hg (fun h => h))
            have HDq9_3 := Lib.hid (HDq8_3.out.frm hg (fun h => h))
            have HFq9 := Lib.hid (HFq8.out.trans hg)
            have HMq9 := Lib.hid (HMq8.out.keep hg)
            clear hg
            have b3 := HDq9_3.out
            go_wp2_with (first | (refine wpl_load_blk (by rfl) 25 _ (by rfl) _ (by rfl) _ _ (by exact b3) _ Tryd.underlying25 (by rfl) (by exact info_match) ?_) | (refine wpl_addg (by rfl) _ _ (by rfl) _ _ _ (by rfl) (by rfl) (Hadd.out _) ?_))
            refine (Hcq.out _ HMq9.out).mono ?_
            rintro e zq10 ⟨rfl, hg⟩
            clear b3
            have HDq10_1 := Lib.hid (HDq9_1.out.frm hg (fun h => h))
            have HDq10_2 := Lib.hid (HDq9_2.out.frm hg (fun h => h))
            have HDq10_3 := Lib.hid (HDq9_3.out.frm hg (fun h => h))
            have HFq10 := Lib.hid (HFq9.out.trans hg)
            have HMq10 := Lib.hid (HMq9.out.keep hg)
            clear hg
            go_wp2_with fail
            refine (mlives_any _ HMq10.out).mono ?_
            rintro e zq11 ⟨rfl, hg⟩
            have HDq11_1 := Lib.hid (HDq10_1.out.frm hg (fun h => h))
            have HDq11_2 := Lib.hid (HDq10_2.out.frm hg (fun h => h))
            have HDq11_3 := Lib.hid (HDq10_3.out.frm hg (fun h => h))
            have HFq11 := Lib.hid (HFq10.out.trans hg)
            have HMq11 := Lib.hid (HMq10.out.keep hg)
            clear hg
            go_wp2_with fail
            go_ret
            exact ⟨rfl, HFq11.out.below (Nat.le_refl _) (fun _ _ h => h)⟩
          · have e1 := He1.out
            have e2 := He2.out
            have b1 := HB1.out
            go_wp2_with (first | (refine wpl_load_blk (by rfl) 25 _ (by rfl) _ (by rfl) _ _ (by exact b1) _ Tryd.underlying25 (by rfl) (by exact info_match) ?_))
            refine (Haa.out _ HM.out).mono ?_
            rintro e zq0 ⟨rfl, hg⟩
            clear b1
            have HDq0_1 := Lib.hid (HB1.out.frm hg (fun h => h))
            have HDq0_2 := Lib.hid (HB2.out.frm hg (fun h => h))
            have HDq0_3 := Lib.hid (HB3.out.frm hg (fun h => h))
            have HFq0 := Lib.hid (Hf.out.trans hg)
            have HMq0 := Lib.hid (HM.out.keep hg)
            clear hg
            have b1 := HDq0_1.out
            go_wp2_with (first | (refine wpl_load_blk (by rfl) 25 _ (by rfl) _ (by rfl) _ _ (by exact b1) _ Tryd.underlying25 (by rfl) (by exact info_match) ?_))
            refine (Hab.out _ HMq0.out).mono ?_
            rintro e zq1 ⟨rfl, hg⟩
            clear b1
            have HDq1_1 := Lib.hid (HDq0_1.out.frm hg (fun h => h))
            have HDq1_2 := Lib.hid (HDq0_2.out.frm hg (fun h => h))
            have HDq1_3 := Lib.hid (HDq0_3.out.frm hg (fun h => h))
            have HFq1 := Lib.hid (HFq0.out.trans hg)
            have HMq1 := Lib.hid (HMq0.out.keep hg)
            clear hg
            have b2 := HDq1_2.out
            go_wp2_with (first | (refine wpl_load_blk (by rfl) 25 _ (by rfl) _ (by rfl) _ _ (by exact b2) _ Tryd.underlying25 (by rfl) (by exact info_match) ?_))
            refine (Hba.out _ HMq1.out).mono ?_
            rintro e zq2 ⟨rfl, hg⟩
            clear b2
            have HDq2_1 := Lib.hid (HDq1_1.out.frm hg (fun h => h))
            have HDq2_2 := Lib.hid (HDq1_2.out.frm hg (fun h => h))
            have HDq2_3 := Lib.hid (HDq1_3.out.frm hg (fun h => h))
            have HFq2 := Lib.hid (HFq1.out.trans hg)
            have HMq2 := Lib.hid (HMq1.out.keep hg)
            clear hg
            have b1 := HDq2_1.out
            go_wp2_with (first | (refine wpl_load_blk (by rfl) 25 _ (by rfl) _ (by rfl) _ _ (by exact b1) _ Tryd.underlying25 (by rfl) (by exact info_match) ?_))
            refine (Hab.out _ HMq2.out).mono ?_
            rintro e zq3 ⟨rfl, hg⟩
            clear b1
            have HDq3_1 := Lib.hid (HDq2_1.out.frm hg (fun h => h))
            have HDq3_2 := Lib.hid (HDq2_2.out.frm hg (fun h => h))
            have HDq3_3 := Lib.hid (HDq2_3.out.frm hg (fun h => h))
            have HFq3 := Lib.hid (HFq2.out.trans hg)
            have HMq3 := Lib.hid (HMq2.out.keep hg)
            clear hg
            have b2 := HDq3_2.out
            go_wp2_with (first | (refine wpl_load_blk (by rfl) 25 _ (by rfl) _ (by rfl) _ _ (by exact b2) _ Tryd.underlying25 (by rfl) (by exact info_match) ?_))
            refine (Hbc.out _ HMq3.out).mono ?_
            rintro e zq4 ⟨rfl, hg⟩
            clear b2
            have HDq4_1 := Lib.hid (HDq3_1.out.frm hg (fun h => h))
            have HDq4_2 := Lib.hid (HDq3_2.out.frm hg (fun h => h))
            have HDq4_3 := Lib.hid (HDq3_3.out.frm hg (fun h => h))
            have HFq4 := Lib.hid (HFq3.out.trans hg)
            have HMq4 := Lib.hid (HMq3.out.keep hg)
            clear hg
            have b1 := HDq4_1.out
            go_wp2_with (first | (refine wpl_load_blk (by rfl) 25 _ (by rfl) _ (by rfl) _ _ (by exact b1) _ Tryd.underlying25 (by rfl) (by exact info_match) ?_))
            refine (Hac.out _ HMq4.out).mono ?_
            rintro e zq5 ⟨rfl, hg⟩
            clear b1
            have HDq5_1 := Lib.hid (HDq4_1.out.frm hg (fun h => h))
            have HDq5_2 := Lib.hid (HDq4_2.out.frm hg (fun h => h))
            have HDq5_3 := Lib.hid (HDq4_3.out.frm hg (fun h => h))
            have HFq5 := Lib.hid (HFq4.out.trans hg)
            have HMq5 := Lib.hid (HMq4.out.keep hg)
            clear hg
            have b2 := HDq5_2.out
            go_wp2_with (first | (refine wpl_load_blk (by rfl) 25 _ (by rfl) _ (by rfl) _ _ (by exact b2) _ Tryd.underlying25 (by rfl) (by exact info_match) ?_))
            refine (Hbc.out _ HMq5.out).mono ?_
            rintro e zq6 ⟨rfl, hg⟩
            clear b2
            have HDq6_1 := Lib.hid (HDq5_1.out.frm hg (fun h => h))
            have HDq6_2 := Lib.hid (HDq5_2.out.frm hg (fun h => h))
            have HDq6_3 := Lib.hid (HDq5_3.out.frm hg (fun h => h))
            have HFq6 := Lib.hid (HFq5.out.trans hg)
            have HMq6 := Lib.hid (HMq5.out.keep hg)
            clear hg
            have b1 := HDq6_1.out
            go_wp2_with (first | (refine wpl_load_blk (by rfl) 25 _ (by rfl) _ (by rfl) _ _ (by exact b1) _ Tryd.underlying25 (by rfl) (by exact info_match) ?_))
            refine (Hab.out _ HMq6.out).mono ?_
            rintro e zq7 ⟨rfl, hg⟩
            clear b1
            have HDq7_1 := Lib.hid (HDq6_1.out.frm hg (fun h => h))
            have HDq7_2 := Lib.hid (HDq6_2.out.frm hg (fun h => h))
            have HDq7_3 := Lib.hid (HDq6_3.out.frm hg (fun h => h))
            have HFq7 := Lib.hid (HFq6.out.trans hg)
            have HMq7 := Lib.hid (HMq6.out.keep hg)
            clear hg
            go_wp2_with fail
            refine (Hsl.out _ HMq7.out).mono ?_
            rintro e zq8 ⟨rfl, hg⟩
            have HDq8_1 := Lib.hid (HDq7_1.out.frm hg (fun h => h))
            have HDq8_2 := Lib.hid (HDq7_2.out.frm hg (fun h => h))
            have HDq8_3 := Lib.hid (HDq7_3.out.frm hg (fun h => h))
            have HFq8 := Lib.hid (HFq7.out.trans hg)
            have HMq8 := Lib.hid (HMq7.out.keep hg)
            clear hg
            have b3 := HDq8_3.out
            go_wp2_with (first | (refine wpl_load_blk (by rfl) 25 _ (by rfl) _ (by rfl) _ _ (by exact b3) _ Tryd.underlying25 (by rfl) (by exact info_match) ?_) | (refine wpl_addg (by rfl) _ _ (by rfl) _ _ _ (by rfl) (by rfl) (Hadd.out _) ?_))
            refine (Hcq.out _ HMq8.out).mono ?_
            rintro e zq9 ⟨rfl, hg⟩
            clear b3
            have HDq9_1 := Lib.hid (HDq8_1.out.frm hg (fun h => h))
            have HDq9_2 := Lib.hid (HDq8_2.out.frm hg (fun h => h))
            have HDq9_3 := Lib.hid (HDq8_3.out.frm hg (fun h => h))
            have HFq9 := Lib.hid (HFq8.out.trans hg)
            have HMq9 := Lib.hid (HMq8.out.keep hg)
            clear hg
            go_wp2_with fail
            refine (mlives_any _ HMq9.out).mono ?_
            rintro e zq10 ⟨rfl, hg⟩
            have HDq10_1 := Lib.hid (HDq9_1.out.frm hg (fun h => h))
            have HDq10_2 := Lib.hid (HDq9_2.out.frm hg (fun h => h))
            have HDq10_3 := Lib.hid (HDq9_3.out.frm hg (fun h => h))
            have HFq10 := Lib.hid (HFq9.out.trans hg)
            have HMq10 := Lib.hid (HMq9.out.keep hg)
            clear hg
            go_wp2_with fail
            go_ret
            exact ⟨rfl, HFq10.out.below (Nat.le_refl _) (fun _ _ h => h)⟩
      · cases vac
        · cases vq
          · exact absurd (Hq3.out rfl rfl) (by decide)
          · exact absurd (Hq3.out rfl rfl) (by decide)
        · cases vq
          · have e1 := He1.out
            have e2 := He2.out
            have b1 := HB1.out
            go_wp2_with (first | (refine wpl_load_blk (by rfl) 25 _ (by rfl) _ (by rfl) _ _ (by exact b1) _ Tryd.underlying25 (by rfl) (by exact info_match) ?_))
            refine (Haa.out _ HM.out).mono ?_
            rintro e zq0 ⟨rfl, hg⟩
            clear b1
            have HDq0_1 := Lib.hid (HB1.out.frm hg (fun h => h))
            have HDq0_2 := Lib.hid (HB2.out.frm hg (fun h => h))
            have HDq0_3 := Lib.hid (HB3.out.frm hg (fun h => h))
            have HFq0 := Lib.hid (Hf.out.trans hg)
            have HMq0 := Lib.hid (HM.out.keep hg)
            clear hg
            have b1 := HDq0_1.out
            go_wp2_with (first | (refine wpl_load_blk (by rfl) 25 _ (by rfl) _ (by rfl) _ _ (by exact b1) _ Tryd.underlying25 (by rfl) (by exact info_match) ?_))
            refine (Hab.out _ HMq0.out).mono ?_
            rintro e zq1 ⟨rfl, hg⟩
            clear b1
            have HDq1_1 := Lib.hid (HDq0_1.out.frm hg (fun h => h))
            have HDq1_2 := Lib.hid (HDq0_2.out.frm hg (fun h => h))
            have HDq1_3 := Lib.hid (HDq0_3.out.frm hg (fun h => h))
            have HFq1 := Lib.hid (HFq0.out.trans hg)
            have HMq1 := Lib.hid (HMq0.out.keep hg)
            clear hg
            have b2 := HDq1_2.out
            go_wp2_with (first | (refine wpl_load_blk (by rfl) 25 _ (by rfl) _ (by rfl) _ _ (by exact b2) _ Tryd.underlying25 (by rfl) (by exact info_match) ?_))
            refine (Hba.out _ HMq1.out).mono ?_
            rintro e zq2 ⟨rfl, hg⟩
            clear b2
            have HDq2_1 := Lib.hid (HDq1_1.out.frm hg (fun h => h))
            have HDq2_2 := Lib.hid (HDq1_2.out.frm hg (fun h => h))
            have HDq2_3 := Lib.hid (HDq1_3.out.frm hg (fun h => h))
            have HFq2 := Lib.hid (HFq1.out.trans hg)
            have HMq2 := Lib.hid (HMq1.out.keep hg)
            clear hg
            have b1 := HDq2_1.out
            go_wp2_with (first | (refine wpl_load_blk (by rfl) 25 _ (by rfl) _ (by rfl) _ _ (by exact b1) _ Tryd.underlying25 (by rfl) (by exact info_match) ?_))
            refine (Hab.out _ HMq2.out).mono ?_
            rintro e zq3 ⟨rfl, hg⟩
            clear b1
            have HDq3_1 := Lib.hid (HDq2_1.out.frm hg (fun h => h))
            have HDq3_2 := Lib.hid (HDq2_2.out.frm hg (fun h => h))
            have HDq3_3 := Lib.hid (HDq2_3.out.frm hg (fun h => h))
            have HFq3 := Lib.hid (HFq2.out.trans hg)
            have HMq3 := Lib.hid (HMq2.out.keep hg)
            clear hg
            have b2 := HDq3_2.out
            go_wp2_with (first | (refine wpl_load_blk (by rfl) 25 _ (by rfl) _ (by rfl) _ _ (by exact b2) _ Tryd.underlying25 (by rfl) (by exact info_match) ?_))
            refine (Hbc.out _ HMq3.out).mono ?_
            rintro e zq4 ⟨rfl, hg⟩
            clear b2
            have HDq4_1 := Lib.hid (HDq3_1.out.frm hg (fun h => h))
            have HDq4_2 := Lib.hid (HDq3_2.out.frm hg (fun h => h))
            have HDq4_3 := Lib.hid (HDq3_3.out.frm hg (fun h => h))
            have HFq4 := Lib.hid (HFq3.out.trans hg)
            have HMq4 := Lib.hid (HMq3.out.keep hg)
            clear hg
            have b1 := HDq4_1.out
            go_wp2_with (first | (refine wpl_load_blk (by rfl) 25 _ (by rfl) _ (by rfl) _ _ (by exact b1) _ Tryd.underlying25 (by rfl) (by exact info_match) ?_))
            refine (Hac.out _ HMq4.out).mono ?_
            rintro e zq5 ⟨rfl, hg⟩
            clear b1
            have HDq5_1 := Lib.hid (HDq4_1.out.frm hg (fun h => h))
            have HDq5_2 := Lib.hid (HDq4_2.out.frm hg (fun h => h))
            have HDq5_3 := Lib.hid (HDq4_3.out.frm hg (fun h => h))
            have HFq5 := Lib.hid (HFq4.out.trans hg)
            have HMq5 := Lib.hid (HMq4.out.keep hg)
            clear hg
            have b1 := HDq5_1.out
            go_wp2_with (first | (refine wpl_load_blk (by rfl) 25 _ (by rfl) _ (by rfl) _ _ (by exact b1) _ Tryd.underlying25 (by rfl) (by exact info_match) ?_))
            refine (Hac.out _ HMq5.out).mono ?_
            rintro e zq6 ⟨rfl, hg⟩
            clear b1
            have HDq6_1 := Lib.hid (HDq5_1.out.frm hg (fun h => h))
            have HDq6_2 := Lib.hid (HDq5_2.out.frm hg (fun h => h))
            have HDq6_3 := Lib.hid (HDq5_3.out.frm hg (fun h => h))
            have HFq6 := Lib.hid (HFq5.out.trans hg)
            have HMq6 := Lib.hid (HMq5.out.keep hg)
            clear hg
            have b2 := HDq6_2.out
            go_wp2_with (first | (refine wpl_load_blk (by rfl) 25 _ (by rfl) _ (by rfl) _ _ (by exact b2) _ Tryd.underlying25 (by rfl) (by exact info_match) ?_))
            refine (Hbc.out _ HMq6.out).mono ?_
            rintro e zq7 ⟨rfl, hg⟩
            clear b2
            have HDq7_1 := Lib.hid (HDq6_1.out.frm hg (fun h => h))
            have HDq7_2 := Lib.hid (HDq6_2.out.frm hg (fun h => h))
            have HDq7_3 := Lib.hid (HDq6_3.out.frm hg (fun h => h))
            have HFq7 := Lib.hid (HFq6.out.trans hg)
            have HMq7 := Lib.hid (HMq6.out.keep hg)
            clear hg
            have b1 := HDq7_1.out
            go_wp2_with (first | (refine wpl_load_blk (by rfl) 25 _ (by rfl) _ (by rfl) _ _ (by exact b1) _ Tryd.underlying25 (by rfl) (by exact info_match) ?_))
            refine (Hab.out _ HMq7.out).mono ?_
            rintro e zq8 ⟨rfl, hg⟩
            clear b1
            have HDq8_1 := Lib.hid (HDq7_1.out.frm hg (fun h => h))
            have HDq8_2 := Lib.hid (HDq7_2.out.frm hg (fun h => h))
            have HDq8_3 := Lib.hid (HDq7_3.out.frm hg (fun h => h))
            have HFq8 := Lib.hid (HFq7.out.trans hg)
            have HMq8 := Lib.hid (HMq7.out.keep hg)
            clear hg
            have b1 := HDq8_1.out
            go_wp2_with (first | (refine wpl_load_blk (by rfl) 25 _ (by rfl) _ (by rfl) _ _ (by exact b1) _ Tryd.underlying25 (by rfl) (by exact info_match) ?_))
            refine (Hab.out _ HMq8.out).mono ?_
            rintro e zq9 ⟨rfl, hg⟩
            clear b1
            have HDq9_1 := Lib.hid (HDq8_1.out.frm hg (fun h => h))
            have HDq9_2 := Lib.hid (HDq8_2.out.frm hg (fun h => h))
            have HDq9_3 := Lib.hid (HDq8_3.out.frm hg (fun h => h))
            have HFq9 := Lib.hid (HFq8.out.trans hg)
            have HMq9 := Lib.hid (HMq8.out.keep hg)
            clear hg
            have b1 := HDq9_1.out
            have b2 := HDq9_2.out
            go_wp2_with (first | (refine wpl_load_blk (by rfl) 25 _ (by rfl) _ (by rfl) _ _ (by exact b1) _ Tryd.underlying25 (by rfl) (by exact info_match) ?_) | (refine wpl_load_blk (by rfl) 25 _ (by rfl) _ (by rfl) _ _ (by exact b2) _ Tryd.underlying25 (by rfl) (by exact info_match) ?_))
            refine ((Hcm2.out (by simp) (by simp)) _).mono ?_
            rintro e zq10 ⟨rfl, hg⟩
            clear b1 b2
            have HDq10_1 := Lib.hid (HDq9_1.out.frm hg (fun h => h))
            have HDq10_2 := Lib.hid (HDq9_2.out.frm hg (fun h => h))
            have HDq10_3 := Lib.hid (HDq9_3.out.frm hg (fun h => h))
            have HFq10 := Lib.hid (HFq9.out.trans hg)
            have HMq10 := Lib.hid (HMq9.out.keep hg)
            clear hg
            go_wp2_with fail
            refine (Hsl.out _ HMq10.out).mono ?_
            rintro e zq11 ⟨rfl, hg⟩
            have HDq11_1 := Lib.hid (HDq10_1.out.frm hg (fun h => h))
            have HDq11_2 := Lib.hid (HDq10_2.out.frm hg (fun h => h))
            have HDq11_3 := Lib.hid (HDq10_3.out.frm hg (fun h => h))
            have HFq11 := Lib.hid (HFq10.out.trans hg)
            have HMq11 := Lib.hid (HMq10.out.keep hg)
            clear hg
            have b3 := HDq11_3.out
            go_wp2_with (first | (refine wpl_load_blk (by rfl) 25 _ (by rfl) _ (by rfl) _ _ (by exact b3) _ Tryd.underlying25 (by rfl) (by exact info_match) ?_) | (refine wpl_addg (by rfl) _ _ (by rfl) _ _ _ (by rfl) (by rfl) (Hadd.out _) ?_))
            refine (Hcq.out _ HMq11.out).mono ?_
            rintro e zq12 ⟨rfl, hg⟩
            clear b3
            have HDq12_1 := Lib.hid (HDq11_1.out.frm hg (fun h => h))
            have HDq12_2 := Lib.hid (HDq11_2.out.frm hg (fun h => h))
            have HDq12_3 := Lib.hid (HDq11_3.out.frm hg (fun h => h))
            have HFq12 := Lib.hid (HFq11.out.trans hg)
            have HMq12 := Lib.hid (HMq11.out.keep hg)
            clear hg
            go_wp2_with fail
            refine (mlives_any _ HMq12.out).mono ?_
            rintro e zq13 ⟨rfl, hg⟩
            have HDq13_1 := Lib.hid (HDq12_1.out.frm hg (fun h => h))
            have HDq13_2 := Lib.hid (HDq12_2.out.frm hg (fun h => h))
            have HDq13_3 := Lib.hid (HDq12_3.out.frm hg (fun h => h))
            have HFq13 := Lib.hid (HFq12.out.trans hg)
            have HMq13 := Lib.hid (HMq12.out.keep hg)
            clear hg
            go_wp2_with fail
            go_ret
            exact ⟨rfl, HFq13.out.below (Nat.le_refl _) (fun _ _ h => h)⟩
          · have e1 := He1.out
            have e2 := He2.out
            have b1 := HB1.out
            go_wp2_with (first | (refine wpl_load_blk (by rfl) 25 _ (by rfl) _ (by rfl) _ _ (by exact b1) _ Tryd.underlying25 (by rfl) (by exact info_match) ?_))
            refine (Haa.out _ HM.out).mono ?_
            rintro e zq0 ⟨rfl, hg⟩
            clear b1
            have HDq0_1 := Lib.hid (HB1.out.frm hg (fun h => h))
            have HDq0_2 := Lib.hid (HB2.out.frm hg (fun h => h))
            have HDq0_3 := Lib.hid (HB3.out.frm hg (fun h => h))
            have HFq0 := Lib.hid (Hf.out.trans hg)
            have HMq0 := Lib.hid (HM.out.keep hg)
            clear hg
            have b1 := HDq0_1.out
            go_wp2_with (first | (refine wpl_load_blk (by rfl) 25 _ (by rfl) _ (by rfl) _ _ (by exact b1) _ Tryd.underlying25 (by rfl) (by exact info_match) ?_))
            refine (Hab.out _ HMq0.out).mono ?_
            rintro e zq1 ⟨rfl, hg⟩
            clear b1
            have HDq1_1 := Lib.hid (HDq0_1.out.frm hg (fun h => h))
            have HDq1_2 := Lib.hid (HDq0_2.out.frm hg (fun h => h))
            have HDq1_3 := Lib.hid (HDq0_3.out.frm hg (fun h => h))
            have HFq1 := Lib.hid (HFq0.out.trans hg)
            have HMq1 := Lib.hid (HMq0.out.keep hg)
            clear hg
            have b2 := HDq1_2.out
            go_wp2_with (first | (refine wpl_load_blk (by rfl) 25 _ (by rfl) _ (by rfl) _ _ (by exact b2) _ Tryd.underlying25 (by rfl) (by exact info_match) ?_))
            refine (Hba.out _ HMq1.out).mono ?_
            rintro e zq2 ⟨rfl, hg⟩
            clear b2
            have HDq2_1 := Lib.hid (HDq1_1.out.frm hg (fun h => h))
            have HDq2_2 := Lib.hid (HDq1_2.out.frm hg (fun h => h))
            have HDq2_3 := Lib.hid (HDq1_3.out.frm hg (fun h => h))
            have HFq2 := Lib.hid (HFq1.out.trans hg)
            have HMq2 := Lib.hid (HMq1.out.keep hg)
            clear hg
            have b1 := HDq2_1.out
            go_wp2_with (first | (refine wpl_load_blk (by rfl) 25 _ (by rfl) _ (by rfl) _ _ (by exact b1) _ Tryd.underlying25 (by rfl) (by exact info_match) ?_))
            refine (Hab.out _ HMq2.out).mono ?_
            rintro e zq3 ⟨rfl, hg⟩
            clear b1
            have HDq3_1 := Lib.hid (HDq2_1.out.frm hg (fun h => h))
            have HDq3_2 := Lib.hid (HDq2_2.out.frm hg (fun h => h))
            have HDq3_3 := Lib.hid (HDq2_3.out.frm hg (fun h => h))
            have HFq3 := Lib.hid (HFq2.out.trans hg)
            have HMq3 := Lib.hid (HMq2.out.keep hg)
            clear hg
            have b2 := HDq3_2.out
            go_wp2_with (first | (refine wpl_load_blk (by rfl) 25 _ (by rfl) _ (by rfl) _ _ (by exact b2) _ Tryd.underlying25 (by rfl) (by exact info_match) ?_))
            refine (Hbc.out _ HMq3.out).mono ?_
            rintro e zq4 ⟨rfl, hg⟩
            clear b2
            have HDq4_1 := Lib.hid (HDq3_1.out.frm hg (fun h => h))
            have HDq4_2 := Lib.hid (HDq3_2.out.frm hg (fun h => h))
            have HDq4_3 := Lib.hid (HDq3_3.out.frm hg (fun h => h))
            have HFq4 := Lib.hid (HFq3.out.trans hg)
            have HMq4 := Lib.hid (HMq3.out.keep hg)
            clear hg
            have b1 := HDq4_1.out
            go_wp2_with (first | (refine wpl_load_blk (by rfl) 25 _ (by rfl) _ (by rfl) _ _ (by exact b1) _ Tryd.underlying25 (by rfl) (by exact info_match) ?_))
            refine (Hac.out _ HMq4.out).mono ?_
            rintro e zq5 ⟨rfl, hg⟩
            clear b1
            have HDq5_1 := Lib.hid (HDq4_1.out.frm hg (fun h => h))
            have HDq5_2 := Lib.hid (HDq4_2.out.frm hg (fun h => h))
            have HDq5_3 := Lib.hid (HDq4_3.out.frm hg (fun h => h))
            have HFq5 := Lib.hid (HFq4.out.trans hg)
            have HMq5 := Lib.hid (HMq4.out.keep hg)
            clear hg
            have b1 := HDq5_1.out
            go_wp2_with (first | (refine wpl_load_blk (by rfl) 25 _ (by rfl) _ (by rfl) _ _ (by exact b1) _ Tryd.underlying25 (by rfl) (by exact info_match) ?_))
            refine (Hac.out _ HMq5.out).mono ?_
            rintro e zq6 ⟨rfl, hg⟩
            clear b1
            have HDq6_1 := Lib.hid (HDq5_1.out.frm hg (fun h => h))
            have HDq6_2 := Lib.hid (HDq5_2.out.frm hg (fun h => h))
            have HDq6_3 := Lib.hid (HDq5_3.out.frm hg (fun h => h))
            have HFq6 := Lib.hid (HFq5.out.trans hg)
            have HMq6 := Lib.hid (HMq5.out.keep hg)
            clear hg
            have b2 := HDq6_2.out
            go_wp2_with (first | (refine wpl_load_blk (by rfl) 25 _ (by rfl) _ (by rfl) _ _ (by exact b2) _ Tryd.underlying25 (by rfl) (by exact info_match) ?_))
            refine (Hbc.out _ HMq6.out).mono ?_
            rintro e zq7 ⟨rfl, hg⟩
            clear b2
            have HDq7_1 := Lib.hid (HDq6_1.out.frm hg (fun h => h))
            have HDq7_2 := Lib.hid (HDq6_2.out.frm hg (fun h => h))
            have HDq7_3 := Lib.hid (HDq6_3.out.frm hg (fun h => h))
            have HFq7 := Lib.hid (HFq6.out.trans hg)
            have HMq7 := Lib.hid (HMq6.out.keep hg)
            clear hg
            have b1 := HDq7_1.out
            go_wp2_with (first | (refine wpl_load_blk (by rfl) 25 _ (by rfl) _ (by rfl) _ _ (by exact b1) _ Tryd.underlying25 (by rfl) (by exact info_match) ?_))
            refine (Hab.out _ HMq7.out).mono ?_
            rintro e zq8 ⟨rfl, hg⟩
            clear b1
            have HDq8_1 := Lib.hid (HDq7_1.out.frm hg (fun h => h))
            have HDq8_2 := Lib.hid (HDq7_2.out.frm hg (fun h => h))
            have HDq8_3 := Lib.hid (HDq7_3.out.frm hg (fun h => h))
            have HFq8 := Lib.hid (HFq7.out.trans hg)
            have HMq8 := Lib.hid (HMq7.out.keep hg)
            clear hg
            have b1 := HDq8_1.out
            go_wp2_with (first | (refine wpl_load_blk (by rfl) 25 _ (by rfl) _ (by rfl) _ _ (by exact b1) _ Tryd.underlying25 (by rfl) (by exact info_match) ?_))
            refine (Hab.out _ HMq8.out).mono ?_
            rintro e zq9 ⟨rfl, hg⟩
            clear b1
            have HDq9_1 := Lib.hid (HDq8_1.out.frm hg (fun h => h))
            have HDq9_2 := Lib.hid (HDq8_2.out.frm hg (fun h => h))
            have HDq9_3 := Lib.hid (HDq8_3.out.frm hg (fun h => h))
            have HFq9 := Lib.hid (HFq8.out.trans hg)
            have HMq9 := Lib.hid (HMq8.out.keep hg)
            clear hg
            go_wp2_with fail
            refine (Hsl.out _ HMq9.out).mono ?_
            rintro e zq10 ⟨rfl, hg⟩
            have HDq10_1 := Lib.hid (HDq9_1.out.frm hg (fun h => h))
            have HDq10_2 := Lib.hid (HDq9_2.out.frm hg (fun h => h))
            have HDq10_3 := Lib.hid (HDq9_3.out.frm hg (fun h => h))
            have HFq10 := Lib.hid (HFq9.out.trans hg)
            have HMq10 := Lib.hid (HMq9.out.keep hg)
            clear hg
            have b3 := HDq10_3.out
            go_wp2_with (first | (refine wpl_load_blk (by rfl) 25 _ (by rfl) _ (by rfl) _ _ (by exact b3) _ Tryd.underlying25 (by rfl) (by exact info_match) ?_) | (refine wpl_addg (by rfl) _ _ (by rfl) _ _ _ (by rfl) (by rfl) (Hadd.out _) ?_))
            refine (Hcq.out _ HMq10.out).mono ?_
            rintro e zq11 ⟨rfl, hg⟩
            clear b3
            have HDq11_1 := Lib.hid (HDq10_1.out.frm hg (fun h => h))
            have HDq11_2 := Lib.hid (HDq10_2.out.frm hg (fun h => h))
            have HDq11_3 := Lib.hid (HDq10_3.out.frm hg (fun h => h))
            have HFq11 := Lib.hid (HFq10.out.trans hg)
            have HMq11 := Lib.hid (HMq10.out.keep hg)
            clear hg
            go_wp2_with fail
            refine (mlives_any _ HMq11.out).mono ?_
            rintro e zq12 ⟨rfl, hg⟩
            have HDq12_1 := Lib.hid (HDq11_1.out.frm hg (fun h => h))
            have HDq12_2 := Lib.hid (HDq11_2.out.frm hg (fun h => h))
            have HDq12_3 := Lib.hid (HDq11_3.out.frm hg (fun h => h))
            have HFq12 := Lib.hid (HFq11.out.trans hg)
            have HMq12 := Lib.hid (HMq11.out.keep hg)
            clear hg
            go_wp2_with fail
            go_ret
            exact ⟨rfl, HFq12.out.below (Nat.le_refl _) (fun _ _ h => h)⟩
    · cases vbc
      · cases vac
        · cases vq
          · rcases Hk.out with ⟨_, _, h⟩ | h
            · cases h
            · exact absurd ⟨rfl, rfl⟩ h
          · have e1 := He1.out
            have e2 := He2.out
            have b1 := HB1.out
            go_wp2_with (first | (refine wpl_load_blk (by rfl) 25 _ (by rfl) _ (by rfl) _ _ (by exact b1) _ Tryd.underlying25 (by rfl) (by exact info_match) ?_))
            refine (Haa.out _ HM.out).mono ?_
            rintro e zq0 ⟨rfl, hg⟩
            clear b1
            have HDq0_1 := Lib.hid (HB1.out.frm hg (fun h => h))
            have HDq0_2 := Lib.hid (HB2.out.frm hg (fun h => h))
            have HDq0_3 := Lib.hid (HB3.out.frm hg (fun h => h))
            have HFq0 := Lib.hid (Hf.out.trans hg)
            have HMq0 := Lib.hid (HM.out.keep hg)
            clear hg
            have b1 := HDq0_1.out
            go_wp2_with (first | (refine wpl_load_blk (by rfl) 25 _ (by rfl) _ (by rfl) _ _ (by exact b1) _ Tryd.underlying25 (by rfl) (by exact info_match) ?_))
            refine (Hab.out _ HMq0.out).mono ?_
            rintro e zq1 ⟨rfl, hg⟩
            clear b1
            have HDq1_1 := Lib.hid (HDq0_1.out.frm hg (fun h => h))
            have HDq1_2 := Lib.hid (HDq0_2.out.frm hg (fun h => h))
            have HDq1_3 := Lib.hid (HDq0_3.out.frm hg (fun h => h))
            have HFq1 := Lib.hid (HFq0.out.trans hg)
            have HMq1 := Lib.hid (HMq0.out.keep hg)
            clear hg
            have b2 := HDq1_2.out
            go_wp2_with (first | (refine wpl_load_blk (by rfl) 25 _ (by rfl) _ (by rfl) _ _ (by exact b2) _ Tryd.underlying25 (by rfl) (by exact info_match) ?_))
            refine (Hba.out _ HMq1.out).mono ?_
            rintro e zq2 ⟨rfl, hg⟩
            clear b2
            have HDq2_1 := Lib.hid (HDq1_1.out.frm hg (fun h => h))
            have HDq2_2 := Lib.hid (HDq1_2.out.frm hg (fun h => h))
            have HDq2_3 := Lib.hid (HDq1_3.out.frm hg (fun h => h))
            have HFq2 := Lib.hid (HFq1.out.trans hg)
            have HMq2 := Lib.hid (HMq1.out.keep hg)
            clear hg
            have b1 := HDq2_1.out
            go_wp2_with (first | (refine wpl_load_blk (by rfl) 25 _ (by rfl) _ (by rfl) _ _ (by exact b1) _ Tryd.underlying25 (by rfl) (by exact info_match) ?_))
            refine (Hab.out _ HMq2.out).mono ?_
            rintro e zq3 ⟨rfl, hg⟩
            clear b1
            have HDq3_1 := Lib.hid (HDq2_1.out.frm hg (fun h => h))
            have HDq3_2 := Lib.hid (HDq2_2.out.frm hg (fun h => h))
            have HDq3_3 := Lib.hid (HDq2_3.out.frm hg (fun h => h))
            have HFq3 := Lib.hid (HFq2.out.trans hg)
            have HMq3 := Lib.hid (HMq2.out.keep hg)
            clear hg
            have b2 := HDq3_2.out
            go_wp2_with (first | (refine wpl_load_blk (by rfl) 25 _ (by rfl) _ (by rfl) _ _ (by exact b2) _ Tryd.underlying25 (by rfl) (by exact info_match) ?_))
            refine (Hbc.out _ HMq3.out).mono ?_
            rintro e zq4 ⟨rfl, hg⟩
            clear b2
            have HDq4_1 := Lib.hid (HDq3_1.out.frm hg (fun h => h))
            have HDq4_2 := Lib.hid (HDq3_2.out.frm hg (fun h => h))
            have HDq4_3 := Lib.hid (HDq3_3.out.frm hg (fun h => h))
            have HFq4 := Lib.hid (HFq3.out.trans hg)
            have HMq4 := Lib.hid (HMq3.out.keep hg)
            clear hg
            have b1 := HDq4_1.out
            go_wp2_with (first | (refine wpl_load_blk (by rfl) 25 _ (by rfl) _ (by rfl) _ _ (by exact b1) _ Tryd.underlying25 (by rfl) (by exact info_match) ?_))
            refine (Hac.out _ HMq4.out).mono ?_
            rintro e zq5 ⟨rfl, hg⟩
            clear b1
            have HDq5_1 := Lib.hid (HDq4_1.out.frm hg (fun h => h))
            have HDq5_2 := Lib.hid (HDq4_2.out.frm hg (fun h => h))
            have HDq5_3 := Lib.hid (HDq4_3.out.frm hg (fun h => h))
            have HFq5 := Lib.hid (HFq4.out.trans hg)
            have HMq5 := Lib.hid (HMq4.out.keep hg)
            clear hg
            have b1 := HDq5_1.out
            go_wp2_with (first | (refine wpl_load_blk (by rfl) 25 _ (by rfl) _ (by rfl) _ _ (by exact b1) _ Tryd.underlying25 (by rfl) (by exact info_match) ?_))
            refine (Hab.out _ HMq5.out).mono ?_
            rintro e zq6 ⟨rfl, hg⟩
            clear b1
            have HDq6_1 := Lib.hid (HDq5_1.out.frm hg (fun h => h))
            have HDq6_2 := Lib.hid (HDq5_2.out.frm hg (fun h => h))
            have HDq6_3 := Lib.hid (HDq5_3.out.frm hg (fun h => h))
            have HFq6 := Lib.hid (HFq5.out.trans hg)
            have HMq6 := Lib.hid (HMq5.out.keep hg)
            clear hg
            go_wp2_with fail
            refine (Hsl.out _ HMq6.out).mono ?_
            rintro e zq7 ⟨rfl, hg⟩
            have HDq7_1 := Lib.hid (HDq6_1.out.frm hg (fun h => h))
            have HDq7_2 := Lib.hid (HDq6_2.out.frm hg (fun h => h))
            have HDq7_3 := Lib.hid (HDq6_3.out.frm hg (fun h => h))
            have HFq7 := Lib.hid (HFq6.out.trans hg)
            have HMq7 := Lib.hid (HMq6.out.keep hg)
            clear hg
            have b3 := HDq7_3.out
            go_wp2_with (first | (refine wpl_load_blk (by rfl) 25 _ (by rfl) _ (by rfl) _ _ (by exact b3) _ Tryd.underlying25 (by rfl) (by exact info_match) ?_) | (refine wpl_addg (by rfl) _ _ (by rfl) _ _ _ (by rfl) (by rfl) (Hadd.out _) ?_))
            refine (Hcq.out _ HMq7.out).mono ?_
            rintro e zq8 ⟨rfl, hg⟩
            clear b3
            have HDq8_1 := Lib.hid (HDq7_1.out.frm hg (fun h => h))
            have HDq8_2 := Lib.hid (HDq7_2.out.frm hg (fun h => h))
            have HDq8_3 := Lib.hid (HDq7_3.out.frm hg (fun h => h))
            have HFq8 := Lib.hid (HFq7.out.trans hg)
            have HMq8 := Lib.hid (HMq7.out.keep hg)
            clear hg
            go_wp2_with fail
            refine (mlives_any _ HMq8.out).mono ?_
            rintro e zq9 ⟨rfl, hg⟩
            have HDq9_1 := Lib.hid (HDq8_1.out.frm hg (fun h => h))
            have HDq9_2 := Lib.hid (HDq8_2.out.frm hg (fun h => h))
            have HDq9_3 := Lib.hid (HDq8_3.out.frm hg (fun h => h))
            have HFq9 := Lib.hid (HFq8.out.trans hg)
            have HMq9 := Lib.hid (HMq8.out.keep hg)
            clear hg
            go_wp2_with fail
            go_ret
            exact ⟨rfl, HFq9.out.below (Nat.le_refl _) (fun _ _ h => h)⟩
        · cases vq
          · rcases Hk.out with ⟨_, _, h⟩ | h
            · cases h
            · exact absurd ⟨rfl, rfl⟩ h
          · have e1 := He1.out
            have e2 := He2.out
            have b1 := HB1.out
            go_wp2_with (first | (refine wpl_load_blk (by rfl) 25 _ (by rfl) _ (by rfl) _ _ (by exact b1) _ Tryd.underlying25 (by rfl) (by exact info_match) ?_))
            refine (Haa.out _ HM.out).mono ?_
            rintro e zq0 ⟨rfl, hg⟩
            clear b1
            have HDq0_1 := Lib.hid (HB1.out.frm hg (fun h => h))
            have HDq0_2 := Lib.hid (HB2.out.frm hg (fun h => h))
            have HDq0_3 := Lib.hid (HB3.out.frm hg (fun h => h))
            have HFq0 := Lib.hid (Hf.out.trans hg)
            have HMq0 := Lib.hid (HM.out.keep hg)
            clear hg
            have b1 := HDq0_1.out
            go_wp2_with (first | (refine wpl_load_blk (by rfl) 25 _ (by rfl) _ (by rfl) _ _ (by exact b1) _ Tryd.underlying25 (by rfl) (by exact info_match) ?_))
            refine (Hab.out _ HMq0.out).mono ?_
            rintro e zq1 ⟨rfl, hg⟩
            clear b1
            have HDq1_1 := Lib.hid (HDq0_1.out.frm hg (fun h => h))
            have HDq1_2 := Lib.hid (HDq0_2.out.frm hg (fun h => h))
            have HDq1_3 := Lib.hid (HDq0_3.out.frm hg (fun h => h))
            have HFq1 := Lib.hid (HFq0.out.trans hg)
            have HMq1 := Lib.hid (HMq0.out.keep hg)
            clear hg
            have b2 := HDq1_2.out
            go_wp2_with (first | (refine wpl_load_blk (by rfl) 25 _ (by rfl) _ (by rfl) _ _ (by exact b2) _ Tryd.underlying25 (by rfl) (by exact info_match) ?_))
            refine (Hba.out _ HMq1.out).mono ?_
            rintro e zq2 ⟨rfl, hg⟩
            clear b2
            have HDq2_1 := Lib.hid (HDq1_1.out.frm hg (fun h => h))
            have HDq2_2 := Lib.hid (HDq1_2.out.frm hg (fun h => h))
            have HDq2_3 := Lib.hid (HDq1_3.out.frm hg (fun h => h))
            have HFq2 := Lib.hid (HFq1.out.trans hg)
            have HMq2 := Lib.hid (HMq1.out.keep hg)
            clear hg
            have b1 := HDq2_1.out
            go_wp2_with (first | (refine wpl_load_blk (by rfl) 25 _ (by rfl) _ (by rfl) _ _ (by exact b1) _ Tryd.underlying25 (by rfl) (by exact info_match) ?_))
            refine (Hab.out _ HMq2.out).mono ?_
            rintro e zq3 ⟨rfl, hg⟩
            clear b1
            have HDq3_1 := Lib.hid (HDq2_1.out.frm hg (fun h => h))
            have HDq3_2 := Lib.hid (HDq2_2.out.frm hg (fun h => h))
            have HDq3_3 := Lib.hid (HDq2_3.out.frm hg (fun h => h))
            have HFq3 := Lib.hid (HFq2.out.trans hg)
            have HMq3 := Lib.hid (HMq2.out.keep hg)
            clear hg
            have b2 := HDq3_2.out
            go_wp2_with (first | (refine wpl_load_blk (by rfl) 25 _ (by rfl) _ (by rfl) _ _ (by exact b2) _ Tryd.underlying25 (by rfl) (by exact info_match) ?_))
            refine (Hbc.out _ HMq3.out).mono ?_
            rintro e zq4 ⟨rfl, hg⟩
            clear b2
            have HDq4_1 := Lib.hid (HDq3_1.out.frm hg (fun h => h))
            have HDq4_2 := Lib.hid (HDq3_2.out.frm hg (fun h => h))
            have HDq4_3 := Lib.hid (HDq3_3.out.frm hg (fun h => h))
            have HFq4 := Lib.hid (HFq3.out.trans hg)
            have HMq4 := Lib.hid (HMq3.out.keep hg)
            clear hg
            have b1 := HDq4_1.out
            go_wp2_with (first | (refine wpl_load_blk (by rfl) 25 _ (by rfl) _ (by rfl) _ _ (by exact b1) _ Tryd.underlying25 (by rfl) (by exact info_match) ?_))
            refine (Hac.out _ HMq4.out).mono ?_
            rintro e zq5 ⟨rfl, hg⟩
            clear b1
            have HDq5_1 := Lib.hid (HDq4_1.out.frm hg (fun h => h))
            have HDq5_2 := Lib.hid (HDq4_2.out.frm hg (fun h => h))
            have HDq5_3 := Lib.hid (HDq4_3.out.frm hg (fun h => h))
            have HFq5 := Lib.hid (HFq4.out.trans hg)
            have HMq5 := Lib.hid (HMq4.out.keep hg)
            clear hg
            have b2 := HDq5_2.out
            go_wp2_with (first | (refine wpl_load_blk (by rfl) 25 _ (by rfl) _ (by rfl) _ _ (by exact b2) _ Tryd.underlying25 (by rfl) (by exact info_match) ?_))
            refine (Hbc.out _ HMq5.out).mono ?_
            rintro e zq6 ⟨rfl, hg⟩
            clear b2
            have HDq6_1 := Lib.hid (HDq5_1.out.frm hg (fun h => h))
            have HDq6_2 := Lib.hid (HDq5_2.out.frm hg (fun h => h))
            have HDq6_3 := Lib.hid (HDq5_3.out.frm hg (fun h => h))
            have HFq6 := Lib.hid (HFq5.out.trans hg)
            have HMq6 := Lib.hid (HMq5.out.keep hg)
            clear hg
            have b1 := HDq6_1.out
            go_wp2_with (first | (refine wpl_load_blk (by rfl) 25 _ (by rfl) _ (by rfl) _ _ (by exact b1) _ Tryd.underlying25 (by rfl) (by exact info_match) ?_))
            refine (Hab.out _ HMq6.out).mono ?_
            rintro e zq7 ⟨rfl, hg⟩
            clear b1
            have HDq7_1 := Lib.hid (HDq6_1.out.frm hg (fun h => h))
            have HDq7_2 := Lib.hid (HDq6_2.out.frm hg (fun h => h))
            have HDq7_3 := Lib.hid (HDq6_3.out.frm hg (fun h => h))
            have HFq7 := Lib.hid (HFq6.out.trans hg)
            have HMq7 := Lib.hid (HMq6.out.keep hg)
            clear hg
            go_wp2_with fail
            refine (Hsl.out _ HMq7.out).mono ?_
            rintro e zq8 ⟨rfl, hg⟩
            have HDq8_1 := Lib.hid (HDq7_1.out.frm hg (fun h => h))
            have HDq8_2 := Lib.hid (HDq7_2.out.frm hg (fun h => h))
            have HDq8_3 := Lib.hid (HDq7_3.out.frm hg (fun h => h))
            have HFq8 := Lib.hid (HFq7.out.trans hg)
            have HMq8 := Lib.hid (HMq7.out.keep hg)
            clear hg
            have b3 := HDq8_3.out
            go_wp2_with (first | (refine wpl_load_blk (by rfl) 25 _ (by rfl) _ (by rfl) _ _ (by exact b3) _ Tryd.underlying25 (by rfl) (by exact info_match) ?_) | (refine wpl_addg (by rfl) _ _ (by rfl) _ _ _ (by rfl) (by rfl) (Hadd.out _) ?_))
            refine (Hcq.out _ HMq8.out).mono ?_
            rintro e zq9 ⟨rfl, hg⟩
            clear b3
            have HDq9_1 := Lib.hid (HDq8_1.out.frm hg (fun h => h))
            have HDq9_2 := Lib.hid (HDq8_2.out.frm hg (fun h => h))
            have HDq9_3 := Lib.hid (HDq8_3.out.frm hg (fun h => h))
            have HFq9 := Lib.hid (HFq8.out.trans hg)
            have HMq9 := Lib.hid (HMq8.out.keep hg)
            clear hg
            go_wp2_with fail
            refine (mlives_any _ HMq9.out).mono ?_
            rintro e zq10 ⟨rfl, hg⟩
            have HDq10_1 := Lib.hid (HDq9_1.out.frm hg (fun h => h))
            have HDq10_2 := Lib.hid (HDq9_2.out.frm hg (fun h => h))
            have HDq10_3 := Lib.hid (HDq9_3.out.frm hg (fun h => h))
            have HFq10 := Lib.hid (HFq9.out.trans hg)
            have HMq10 := Lib.hid (HMq9.out.keep hg)
            clear hg
            go_wp2_with fail
            go_ret
            exact ⟨rfl, HFq10.out.below (Nat.le_refl _) (fun _ _ h => h)⟩
      · cases vac
        · cases vq
          · rcases Hk.out with ⟨_, _, h⟩ | h
            · cases h
            · exact absurd ⟨rfl, rfl⟩ h
          · exact absurd (Hq3.out rfl rfl) (by decide)
        · cases vq
          · rcases Hk.out with ⟨_, _, h⟩ | h
            · cases h
            · exact absurd ⟨rfl, rfl⟩ h
          · have e1 := He1.out
            have e2 := He2.out
            have b1 := HB1.out
            go_wp2_with (first | (refine wpl_load_blk (by rfl) 25 _ (by rfl) _ (by rfl) _ _ (by exact b1) _ Tryd.underlying25 (by rfl) (by exact info_match) ?_))
            refine (Haa.out _ HM.out).mono ?_
            rintro e zq0 ⟨rfl, hg⟩
            clear b1
            have HDq0_1 := Lib.hid (HB1.out.frm hg (fun h => h))
            have HDq0_2 := Lib.hid (HB2.out.frm hg (fun h => h))
            have HDq0_3 := Lib.hid (HB3.out.frm hg (fun h => h))
            have HFq0 := Lib.hid (Hf.out.trans hg)
            have HMq0 := Lib.hid (HM.out.keep hg)
            clear hg
            have b1 := HDq0_1.out
            go_wp2_with (first | (refine wpl_load_blk (by rfl) 25 _ (by rfl) _ (by rfl) _ _ (by exact b1) _ Tryd.underlying25 (by rfl) (by exact info_match) ?_))
            refine (Hab.out _ HMq0.out).mono ?_
            rintro e zq1 ⟨rfl, hg⟩
            clear b1
            have HDq1_1 := Lib.hid (HDq0_1.out.frm hg (fun h => h))
            have HDq1_2 := Lib.hid (HDq0_2.out.frm hg (fun h => h))
            have HDq1_3 := Lib.hid (HDq0_3.out.frm hg (fun h => h))
            have HFq1 := Lib.hid (HFq0.out.trans hg)
            have HMq1 := Lib.hid (HMq0.out.keep hg)
            clear hg
            have b2 := HDq1_2.out
            go_wp2_with (first | (refine wpl_load_blk (by rfl) 25 _ (by rfl) _ (by rfl) _ _ (by exact b2) _ Tryd.underlying25 (by rfl) (by exact info_match) ?_))
            refine (Hba.out _ HMq1.out).mono ?_
            rintro e zq2 ⟨rfl, hg⟩
            clear b2
            have HDq2_1 := Lib.hid (HDq1_1.out.frm hg (fun h => h))
            have HDq2_2 := Lib.hid (HDq1_2.out.frm hg (fun h => h))
            have HDq2_3 := Lib.hid (HDq1_3.out.frm hg (fun h => h))
            have HFq2 := Lib.hid (HFq1.out.trans hg)
            have HMq2 := Lib.hid (HMq1.out.keep hg)
            clear hg
            have b1 := HDq2_1.out
            go_wp2_with (first | (refine wpl_load_blk (by rfl) 25 _ (by rfl) _ (by rfl) _ _ (by exact b1) _ Tryd.underlying25 (by rfl) (by exact info_match) ?_))
            refine (Hab.out _ HMq2.out).mono ?_
            rintro e zq3 ⟨rfl, hg⟩
            clear b1
            have HDq3_1 := Lib.hid (HDq2_1.out.frm hg (fun h => h))
            have HDq3_2 := Lib.hid (HDq2_2.out.frm hg (fun h => h))
            have HDq3_3 := Lib.hid (HDq2_3.out.frm hg (fun h => h))
            have HFq3 := Lib.hid (HFq2.out.trans hg)
            have HMq3 := Lib.hid (HMq2.out.keep hg)
            clear hg
            have b2 := HDq3_2.out
            go_wp2_with (first | (refine wpl_load_blk (by rfl) 25 _ (by rfl) _ (by rfl) _ _ (by exact b2) _ Tryd.underlying25 (by rfl) (by exact info_match) ?_))
            refine (Hbc.out _ HMq3.out).mono ?_
            rintro e zq4 ⟨rfl, hg⟩
            clear b2
            have HDq4_1 := Lib.hid (HDq3_1.out.frm hg (fun h => h))
            have HDq4_2 := Lib.hid (HDq3_2.out.frm hg (fun h => h))
            have HDq4_3 := Lib.hid (HDq3_3.out.frm hg (fun h => h))
            have HFq4 := Lib.hid (HFq3.out.trans hg)
            have HMq4 := Lib.hid (HMq3.out.keep hg)
            clear hg
            have b1 := HDq4_1.out
            go_wp2_with (first | (refine wpl_load_blk (by rfl) 25 _ (by rfl) _ (by rfl) _ _ (by exact b1) _ Tryd.underlying25 (by rfl) (by exact info_match) ?_))
            refine (Hac.out _ HMq4.out).mono ?_
            rintro e zq5 ⟨rfl, hg⟩
            clear b1
            have HDq5_1 := Lib.hid (HDq4_1.out.frm hg (fun h => h))
            have HDq5_2 := Lib.hid (HDq4_2.out.frm hg (fun h => h))
            have HDq5_3 := Lib.hid (HDq4_3.out.frm hg (fun h => h))
            have HFq5 := Lib.hid (HFq4.out.trans hg)
            have HMq5 := Lib.hid (HMq4.out.keep hg)
            clear hg
            have b1 := HDq5_1.out
            go_wp2_with (first | (refine wpl_load_blk (by rfl) 25 _ (by rfl) _ (by rfl) _ _ (by exact b1) _ Tryd.underlying25 (by rfl) (by exact info_match) ?_))
            refine (Hac.out _ HMq5.out).mono ?_
            rintro e zq6 ⟨rfl, hg⟩
            clear b1
            have HDq6_1 := Lib.hid (HDq5_1.out.frm hg (fun h => h))
            have HDq6_2 := Lib.hid (HDq5_2.out.frm hg (fun h => h))
            have HDq6_3 := Lib.hid (HDq5_3.out.frm hg (fun h => h))
            have HFq6 := Lib.hid (HFq5.out.trans hg)
            have HMq6 := Lib.hid (HMq5.out.keep hg)
            clear hg
            have b2 := HDq6_2.out
            go_wp2_with (first | (refine wpl_load_blk (by rfl) 25 _ (by rfl) _ (by rfl) _ _ (by exact b2) _ Tryd.underlying25 (by rfl) (by exact info_match) ?_))
            refine (Hbc.out _ HMq6.out).mono ?_
            rintro e zq7 ⟨rfl, hg⟩
            clear b2
            have HDq7_1 := Lib.hid (HDq6_1.out.frm hg (fun h => h))
            have HDq7_2 := Lib.hid (HDq6_2.out.frm hg (fun h => h))
            have HDq7_3 := Lib.hid (HDq6_3.out.frm hg (fun h => h))
            have HFq7 := Lib.hid (HFq6.out.trans hg)
            have HMq7 := Lib.hid (HMq6.out.keep hg)
            clear hg
            have b1 := HDq7_1.out
            go_wp2_with (first | (refine wpl_load_blk (by rfl) 25 _ (by rfl) _ (by rfl) _ _ (by exact b1) _ Tryd.underlying25 (by rfl) (by exact info_match) ?_))
            refine (Hab.out _ HMq7.out).mono ?_
            rintro e zq8 ⟨rfl, hg⟩
            clear b1
            have HDq8_1 := Lib.hid (HDq7_1.out.frm hg (fun h => h))
            have HDq8_2 := Lib.hid (HDq7_2.out.frm hg (fun h => h))
            have HDq8_3 := Lib.hid (HDq7_3.out.frm hg (fun h => h))
            have HFq8 := Lib.hid (HFq7.out.trans hg)
            have HMq8 := Lib.hid (HMq7.out.keep hg)
            clear hg
            have b1 := HDq8_1.out
            go_wp2_with (first | (refine wpl_load_blk (by rfl) 25 _ (by rfl) _ (by rfl) _ _ (by exact b1) _ Tryd.underlying25 (by rfl) (by exact info_match) ?_))
            refine (Hab.out _ HMq8.out).mono ?_
            rintro e zq9 ⟨rfl, hg⟩
            clear b1
            have HDq9_1 := Lib.hid (HDq8_1.out.frm hg (fun h => h))
            have HDq9_2 := Lib.hid (HDq8_2.out.frm hg (fun h => h))
            have HDq9_3 := Lib.hid (HDq8_3.out.frm hg (fun h => h))
            have HFq9 := Lib.hid (HFq8.out.trans hg)
            have HMq9 := Lib.hid (HMq8.out.keep hg)
            clear hg
            go_wp2_with fail
            refine (Hsl.out _ HMq9.out).mono ?_
            rintro e zq10 ⟨rfl, hg⟩
            have HDq10_1 := Lib.hid (HDq9_1.out.frm hg (fun h => h))
            have HDq10_2 := Lib.hid (HDq9_2.out.frm hg (fun h => h))
            have HDq10_3 := Lib.hid (HDq9_3.out.frm hg (fun h => h))
            have HFq10 := Lib.hid (HFq9.out.trans hg)
            have HMq10 := Lib.hid (HMq9.out.keep hg)
            clear hg
            have b3 := HDq10_3.out
            go_wp2_with (first | (refine wpl_load_blk (by rfl) 25 _ (by rfl) _ (by rfl) _ _ (by exact b3) _ Tryd.underlying25 (by rfl) (by exact info_match) ?_) | (refine wpl_addg (by rfl) _ _ (by rfl) _ _ _ (by rfl) (by rfl) (Hadd.out _) ?_))
            refine (Hcq.out _ HMq10.out).mono ?_
            rintro e zq11 ⟨rfl, hg⟩
            clear b3
            have HDq11_1 := Lib.hid (HDq10_1.out.frm hg (fun h => h))
            have HDq11_2 := Lib.hid (HDq10_2.out.frm hg (fun h => h))
            have HDq11_3 := Lib.hid (HDq10_3.out.frm hg (fun h => h))
            have HFq11 := Lib.hid (HFq10.out.trans hg)
            have HMq11 := Lib.hid (HMq10.out.keep hg)
            clear hg
            go_wp2_with fail
            refine (mlives_any _ HMq11.out).mono ?_
            rintro e zq12 ⟨rfl, hg⟩
            have HDq12_1 := Lib.hid (HDq11_1.out.frm hg (fun h => h))
            have HDq12_2 := Lib.hid (HDq11_2.out.frm hg (fun h => h))
            have HDq12_3 := Lib.hid (HDq11_3.out.frm hg (fun h => h))
            have HFq12 := Lib.hid (HFq11.out.trans hg)
            have HMq12 := Lib.hid (HMq11.out.keep hg)
            clear hg
            go_wp2_with fail
            go_ret
            exact ⟨rfl, HFq12.out.below (Nat.le_refl _) (fun _ _ h => h)⟩
end Go.Proofs.YtjehdldjfnaniaaDoor
