/- lives of the statements of layer 29. -/
import Derived.Test.YtdamhohoeobfgaaDoorSampleTL
set_option linter.unusedVariables false
set_option linter.unusedSimpArgs false
namespace Go.Proofs.YtdamhohoeobfgaaDoor
open Go.RowKit

set_option maxRecDepth 100000 in
set_option maxHeartbeats 4000000 in
theorem lives_any (w : World) : Calls Tryd.prog 13 #[] w fun e w' => e = .returned (.bool true) ∧ Frm noB w w' := by
  have hA := Lib.hid ex_a
  have hB := Lib.hid ex_b
  have hC := Lib.hid ex_c
  have hD := Lib.hid ex_d
  go_enter Tryd.func13, Tryd.ntmps13
  go_wp2_with fail
  refine (TL.start 1 0 10 w).mono ?_
  rintro e w1 ⟨b, O1, rfl, h1⟩
  have H1 := Lib.hid h1
  clear h1
  go_wp2_with fail
  refine (H1.out.add (mm := 1) ex71 (by omega) (by decide) (by omega) (by omega)).mono ?_
  rintro e w2 ⟨v2, O2, rfl, ho2, h2, hf2, hfr2, hsb2⟩
  rw [hA.out.1] at ho2
  rw [hA.out.2] at h2
  obtain ⟨a2, c2, rfl, _, _⟩ := ho2.shape
  have H2 := Lib.hid h2
  have Ho2 := Lib.hid ho2
  have Hf2 := Lib.hid hf2
  have Hfr2 := Lib.hid hfr2
  have Hsb2 := Lib.hid hsb2
  clear h2 ho2 hf2 hfr2 hsb2
  go_wp2_with fail
  refine (H2.out.add (mm := 1) ex72 (by omega) (by decide) (by omega) (by omega)).mono ?_
  rintro e w3 ⟨v3, O3, rfl, ho3, h3, hf3, hfr3, hsb3⟩
  rw [hB.out.1] at ho3
  rw [hB.out.2] at h3
  obtain ⟨a3, c3, rfl, _, _⟩ := ho3.shape
  have H3 := Lib.hid h3
  have Ho3 := Lib.hid ho3
  have Hf3 := Lib.hid hf3
  have Hfr3 := Lib.hid hfr3
  have Hsb3 := Lib.hid hsb3
  clear h3 ho3 hf3 hfr3 hsb3
  go_wp2_with fail
  refine (H3.out.add (mm := 1) ex81 (by omega) (by decide) (by omega) (by omega)).mono ?_
  rintro e w4 ⟨v4, O4, rfl, ho4, h4, hf4, hfr4, hsb4⟩
  rw [hC.out.1] at ho4
  rw [hC.out.2] at h4
  have H4 := Lib.hid h4
  have Ho4 := Lib.hid ho4
  have Hf4 := Lib.hid hf4
  have Hfr4 := Lib.hid hfr4
  have Hsb4 := Lib.hid hsb4
  clear h4 ho4 hf4 hfr4 hsb4
  go_wp2_with fail
  refine (H4.out.over 8 9 true (by omega) (by omega) (by omega)).mono ?_
  rintro e w5 ⟨v5, O5, rfl, ho5, h5, hf5, hfr5, hsb5⟩
  rw [hD.out.1] at ho5
  rw [hD.out.2] at h5
  obtain ⟨a5, c5, rfl, _, _⟩ := ho5.shape
  have ho4b := Ho4.out.frm hfr5 Hf4.out
  obtain ⟨a4, c4, rfl, _, hg⟩ := ho4b.shape
  obtain ⟨g, rfl, hg1, hg2⟩ := hg (by decide)
  obtain ⟨x0, _⟩ := spn_cells ho4b (j := 0) (x := ex71) rfl
  obtain ⟨y0, _⟩ := spn_cells ho4b (j := 1) (x := ex72) rfl
  replace x0 : w5.cell? ⟨g, 0 * 6, none⟩ = some (.string ⟨#[55, 58, 49]⟩) := x0
  replace y0 : w5.cell? ⟨g, 1 * 6, none⟩ = some (.string ⟨#[55, 58, 50]⟩) := y0
  have q1 : ((⟨#[55, 58, 49]⟩ : ByteArray).toList == [55, 58, 49]) = true := by decide +kernel
  have q2 : ((⟨#[55, 58, 50]⟩ : ByteArray).toList == [55, 58, 50]) = true := by decide +kernel
  have hl := h5.len
  have hF := h5.frm
  have H5 := Lib.hid h5
  have Ho5 := Lib.hid ho5
  have Hf5 := Lib.hid hf5
  have Hfr5 := Lib.hid hfr5
  have Hsb5 := Lib.hid hsb5
  have Ho4b := Lib.hid ho4b
  have Hl := Lib.hid hl
  have HF := Lib.hid hF
  clear h5 ho5 hf5 hfr5 hsb5 ho4b hl hF
  go_wp2_with fail
  refine Hl.out.mono ?_
  rintro e w6 ⟨rfl, rfl⟩
  rw [show ((reqsL []).length : Int) = 0 from rfl]
  go_wp2_with fail
  go_ret
  exact ⟨rfl, HF.out⟩
end Go.Proofs.YtdamhohoeobfgaaDoor
