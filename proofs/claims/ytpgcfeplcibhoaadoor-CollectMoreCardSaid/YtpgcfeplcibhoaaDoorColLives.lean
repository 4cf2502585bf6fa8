/- lives of the statements: the document's example. -/
import Derived.Test.YtpgcfeplcibhoaaDoorColTr
import Derived.Test.YtpgcfeplcibhoaaDoorColPrint
set_option linter.unusedVariables false
set_option linter.unusedSimpArgs false
namespace Go.Proofs.YtpgcfeplcibhoaaDoor
open Go.RowKit

def lvB : List UInt8 := [55, 58, 49, 47, 48, 58, 50]
def lvU : List UInt8 := [55, 58, 49]
def lvS : Spn := ⟨⟨#[55, 58, 49, 47, 48, 58, 50]⟩, 3, 4, 6, true, 0⟩
theorem lvs_nm : nmB lvS = lvB := rfl
theorem lv_up : upL lvB = lvU := by decide
theorem lv_up2 : upL lvU = [] := by decide
theorem lv_ups : ups lvB = [lvU] := by
  rw [ups_cons (by rw [lv_up]; decide), lv_up, ups_nil lv_up2]
theorem lv_read : readL lvB = some (7, true) := readF_read (by decide +kernel)
theorem lv_rq : rq30 lvB = 7 := by decide +kernel
theorem lv_good : GoodS lvS := ⟨⟨⟨7, ⟨by decide, by decide⟩, lv_read, lv_rq⟩, by decide⟩, ⟨by decide, by decide⟩, ⟨by decide, by decide⟩, ⟨by decide, by decide⟩⟩
theorem lv_once : Once [lvS] := List.pairwise_singleton _ _
theorem lv_req : rqS lvS = 7 := by unfold rqS; rw [lvs_nm, reqL_of lv_read]
theorem lv_names (r : Int) : namesL [lvS] r = if r = 7 then [lvS.name] else [] := by
  unfold namesL
  by_cases h : r = 7
  · subst h; simp [lv_req]
  · have : ¬ 7 = r := fun e => h e.symm
    simp [lv_req, h, this]
theorem lv_fnd (l : List UInt8) : fndS [lvS] l = if l = lvB then some lvS else none := by
  unfold fndS
  by_cases h : l = lvB
  · subst h; simp [lvs_nm]
  · have : ¬ lvB = l := fun e => h e.symm
    simp [lvs_nm, h, this]
theorem lv_miss : missL [lvS] 7 = [bs lvU] := by
  unfold missL misS
  rw [lv_names, if_pos rfl]
  show (List.filter _ (addUps [] (ups lvB))).map bs = _
  rw [lv_ups]
  show (List.filter (fun a => (fndS [lvS] a).isNone) [lvU]).map bs = _
  rw [List.filter_cons, lv_fnd, if_pos (by decide)]; rfl
theorem lv_miss8 : missL [lvS] 8 = [] := by
  unfold missL misS
  rw [lv_names, if_neg (by decide)]; rfl
def lvT : List Nod := [goneN (bs lvU), ⟨lvS.name, false, lvS⟩]
theorem lv_tree : treeL [lvS] 7 = lvT := by
  unfold treeL nodesL
  rw [lv_miss, lv_names, if_pos rfl]
  have hc : cameN [lvS] lvS.name = ⟨lvS.name, false, lvS⟩ := by
    unfold cameN
    rw [show lvS.name.data.toList = lvB from rfl, lv_fnd, if_pos rfl]; rfl
  show putAll [] [cameN [lvS] lvS.name, goneN (bs lvU)] = _
  rw [hc]
  show putL [⟨lvS.name, false, lvS⟩] (goneN (bs lvU)) = _
  unfold putL
  rw [if_neg (by decide +kernel), if_neg (by decide +kernel)]
  rfl
theorem lv_print : prN lvT = [55, 58, 49, 32, 63, 10, 32, 55, 58, 49, 47, 48, 58, 50, 32, 51, 32, 52, 45, 54, 10] := by decide +kernel
theorem lv_take : takeL [] lvS = [lvS] := by
  have : isInB [] lvS = false := rfl
  unfold takeL
  rw [this, if_neg (by decide)]; rfl
set_option maxRecDepth 100000 in
set_option maxHeartbeats 4000000 in
theorem clives_any (w : World) : Calls Tryd.prog 20 #[] w fun e w' => e = .returned (.bool true) ∧ Frm noB w w' := by
  go_enter Tryd.func20, Tryd.ntmps20
  go_wp2_with fail
  refine (cnew_any _).mono ?_
  rintro e w1 ⟨b, O0, rfl, hc0, hf0, ho0⟩
  have htk := ctake_any b 0 [] O0 lvS w1 hc0 (by omega) (by simp) (by decide)
  rw [show isInB [] lvS = false from rfl, lv_take] at htk
  have Hc0 := Lib.hid hc0
  have Hf0 := Lib.hid hf0
  have Ho0 := Lib.hid ho0
  have Htk := Lib.hid htk
  clear hc0 hf0 ho0 htk
  go_upto_region 3 with (go_at_call 13; refine Htk.out.mono ?_; rintro e w2 ⟨rfl, O2, hc2, hf2, ho2⟩)
  have Hc2 := Lib.hid hc2
  have Hf2 := Lib.hid (Hf0.out.new hf2 (fun i hi e => by have := Ho0.out i e; omega))
  have Ho2 := Lib.hid (show ∀ i, O2 i → w.heap.size ≤ i from fun i hi => by rcases ho2 i hi with e | e; exact Ho0.out i e; exact Nat.le_trans Hf0.out.size e)
  have hG : ∀ s ∈ [lvS], GoodS s := fun s hs => by simp at hs; rw [hs]; exact lv_good
  have htr := tree_is b 1 [lvS] O2 7 w2 hc2 lv_once hG (by simp) (WalkArith.wf_i64 (by omega))
  rw [lv_tree] at htr
  have Htr := Lib.hid htr
  have HG := Lib.hid hG
  clear htr hG
  clear hc2 hf2 ho2
  go_upto_region 4 with (go_at_call 14; refine Htr.out.mono ?_; rintro e w3 ⟨v, rfl, ho3, hf3⟩)
  have Hc3 := Lib.hid (Hc2.out.keep hf3)
  have Hf3 := Lib.hid (Hf2.out.trans hf3)
  obtain ⟨va, vc, hv, _, hg⟩ := ho3.shape
  obtain ⟨g, rfl, _, hgw⟩ := hg (by decide)
  rw [show lvT.length = 2 from rfl] at hv
  subst hv
  have c0 : w3.cell? ⟨g, 0, none⟩ = some (.string ⟨#[55, 58, 49]⟩) := (nod_cells ho3 (j := 0) (x := goneN (bs lvU)) rfl).1
  have c1 : w3.cell? ⟨g, 1, none⟩ = some (.bool true) := (nod_cells ho3 (j := 0) (x := goneN (bs lvU)) rfl).2.1
  have d1 : w3.cell? ⟨g, 9, none⟩ = some (.bool false) := (nod_cells ho3 (j := 1) (x := ⟨lvS.name, false, lvS⟩) rfl).2.1
  have hst1 : ((⟨#[55, 58, 49]⟩ : ByteArray).toList == [55, 58, 49]) = true := by rw [ByteArray.toList_eq]; rfl
  have Ho3 := Lib.hid ho3
  clear ho3 hf3 hg
  have hw7 := fun W (hW : Frm noB w3 W) => whole_is b 1 [lvS] O2 7 W (Hc3.out.keep hW) HG.out (by simp) (WalkArith.wf_i64 (by omega))
  have hw8 := fun W (hW : Frm noB w3 W) => whole_is b 1 [lvS] O2 8 W (Hc3.out.keep hW) HG.out (by simp) (WalkArith.wf_i64 (by omega))
  rw [lv_miss] at hw7
  rw [lv_miss8] at hw8
  have hpr := fun W (hW : Frm noB w3 W) => cprint_any w2.heap.size _ lvT W (by exact Ho3.out.keep hW) (by decide) (by
    have := tree_good lv_once HG.out 7
    rw [lv_tree] at this
    exact this)
  rw [lv_print] at hpr
  obtain ⟨P, hP⟩ : ∃ P, P = bs [55, 58, 49, 32, 63, 10, 32, 55, 58, 49, 47, 48, 58, 50, 32, 51, 32, 52, 45, 54, 10] := ⟨_, rfl⟩
  have hst2 : (P.toList == [55, 58, 49, 32, 63, 10, 32, 55, 58, 49, 47, 48, 58, 50, 32, 51, 32, 52, 45, 54, 10]) = true := by rw [hP, ByteArray.toList_eq]; rfl
  simp only [← hP] at hpr
  clear hP
  have Hw7 := Lib.hid hw7
  have Hw8 := Lib.hid hw8
  have Hpr := Lib.hid hpr
  clear hw7 hw8 hpr
  go_wp2_with (first
    | (go_at_call 17; (with_reducible refine (Hw7.out _ (Frm.refl _ _)).mono ?_); rintro e w4 ⟨rfl, hf4⟩; have Hf4 := Lib.hid hf4; clear hf4)
    | (go_at_call 17; (with_reducible refine (Hw8.out _ Hf4.out).mono ?_); rintro e w5 ⟨rfl, hf5⟩; have Hf5 := Lib.hid (Hf4.out.trans hf5); clear hf5)
    | (go_at_call 18; (with_reducible refine (Hpr.out _ Hf5.out).mono ?_); rintro e w6 ⟨rfl, hf6⟩; have Hf6 := Lib.hid (Hf5.out.trans hf6); clear hf6))
  go_ret
  exact ⟨rfl, Hf3.out.trans Hf6.out⟩
end Go.Proofs.YtpgcfeplcibhoaaDoor
