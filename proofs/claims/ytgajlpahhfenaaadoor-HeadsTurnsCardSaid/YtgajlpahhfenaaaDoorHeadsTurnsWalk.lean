/- The walk of the statement HeadsTurns. -/
import Derived.Test.YtgajlpahhfenaaaDoorHeadHV
set_option linter.unusedVariables false
namespace Go.Proofs.YtgajlpahhfenaaaDoor
open Go.RowKit

set_option maxRecDepth 100000 in
set_option maxHeartbeats 4000000 in
theorem headsTurns_walk (a0 : Option Addr) (len0 cap0 : Nat) (z0 : List Int) (a1 : Option Addr) (len1 cap1 : Nat) (z1 : List Int) (a2 : Option Addr) (len2 cap2 : Nat) (z2 : List Int) (a3 : Int) (w : World) (w0 : IsRow .i64 w a0 len0 cap0 z0) (w1 : IsRow .i64 w a1 len1 cap1 z1) (w2 : IsRow .i64 w a2 len2 cap2 z2) (w3 : (Lit.int .i64 a3).wf = true) :
    Calls Tryd.prog 10 #[.slice a0 len0 cap0, .slice a1 len1 cap1, .slice a2 len2 cap2, .int .i64 a3] w fun e w' => e = .returned (.bool true) ∧ Below w.heap.size w w' := by
  obtain ⟨xs, h0⟩ := w0.list
  obtain ⟨ys, h1⟩ := w1.list
  obtain ⟨zs, h2⟩ := w2.list
  have b3 := wf_i64 w3
  have hfd := fun (s t : ByteArray) (w : World) => field_hd0 s t w
  have hg := GoodL.gen (xs.take 12)
  have hgl : (genH (xs.take 12)).length ≤ 1000 := by have := hg.len; omega
  have H0 := Lib.hid h0
  have H1 := Lib.hid h1
  have H2 := Lib.hid h2
  have Hb3 := Lib.hid b3
  have Hg := Lib.hid hg
  have Hgl := Lib.hid hgl
  clear h0 h1 h2 b3 hg hgl
  clear w0 w1 w2 w3
  go_enter Tryd.func10, Tryd.ntmps10
  go_wp2_with fail
  with_reducible refine (heads_hv a0 len0 cap0 xs _ H0.out).mono ?_
  rintro e x1 ⟨va, rfl, ha, hf1⟩
  have h1' := H1.out.keep hf1
  have Ha := Lib.hid ha
  have Hf1 := Lib.hid hf1
  have H1' := Lib.hid h1'
  clear ha hf1 h1'
  go_wp2_with fail
  with_reducible refine (some_hv a1 len1 cap1 ys _ H1'.out).mono ?_
  rintro e x2 ⟨vb, rfl, hb, hf2⟩
  have ha2 := Ha.out.keep hf2
  have hf2 := Hf1.out.trans hf2
  have h2' := H2.out.keep hf2
  have Ha2 := Lib.hid ha2
  have Hb := Lib.hid hb
  have Hf2 := Lib.hid hf2
  have H2' := Lib.hid h2'
  clear ha2 hb hf2 h2'
  go_wp2_with fail
  with_reducible refine (names_hv a2 len2 cap2 zs _ H2'.out).mono ?_
  rintro e x3 ⟨vc, rfl, hc, hf3⟩
  have ha3 := Ha2.out.keep hf3
  have hb3_ := Hb.out.keep hf3
  have hf3 := Hf2.out.trans hf3
  have Ha3 := Lib.hid ha3
  have Hb3_ := Lib.hid hb3_
  have Hc := Lib.hid hc
  have Hf3 := Lib.hid hf3
  clear ha3 hb3_ hc hf3
  go_wp2_with fail
  with_reducible refine (one_hv a3 _ Hb3.out).mono ?_
  rintro e x4 ⟨rfl, hf4⟩
  have ha4 := Ha3.out.keep hf4
  have hb4 := Hb3_.out.keep hf4
  have hc4 := Hc.out.keep hf4
  have hf4 := Hf3.out.trans hf4
  have h1v := fun w => one_hv a3 w Hb3.out
  generalize (oneZ a3).name = nm at *
  generalize (oneZ a3).val = vl at *
  generalize genH (xs.take 12) = L at *
  generalize someH (ys.take 12) = M at *
  generalize namesH (zs.take 6) = N at *
  have hgv := fun w h => get_hv va L nm w h
  have hrv := fun w h => rget_hv va L nm w h
  generalize (getL L nm).getD ⟨#[]⟩ = gv at *
  generalize hasN L nm = gb at *
  have Ha4 := Lib.hid ha4
  have Hb4 := Lib.hid hb4
  have Hc4 := Lib.hid hc4
  have Hf4 := Lib.hid hf4
  have H1v := Lib.hid h1v
  have Hgv := Lib.hid hgv
  have Hrv := Lib.hid hrv
  clear ha4 hb4 hc4 hf4 h1v hgv hrv
  go_wp2_with fail
  with_reducible refine (Hgv.out _ Ha4.out).mono ?_
  rintro e x5 ⟨rfl, hf5⟩
  have ha5 := Ha4.out.keep hf5
  have hb5 := Hb4.out.keep hf5
  have hc5 := Hc4.out.keep hf5
  have hf5 := Hf4.out.trans hf5
  have Ha5 := Lib.hid ha5
  have Hb5 := Lib.hid hb5
  have Hc5 := Lib.hid hc5
  have Hf5 := Lib.hid hf5
  clear ha5 hb5 hc5 hf5
  go_wp2_with fail
  with_reducible refine (H1v.out _).mono ?_
  rintro e x6 ⟨rfl, hf6⟩
  have ha6 := Ha5.out.keep hf6
  have hb6 := Hb5.out.keep hf6
  have hc6 := Hc5.out.keep hf6
  have hf6 := Hf5.out.trans hf6
  have t1 : (gv.toList == gv.toList) = true := by simp
  have t2 : (gb == gb) = true := by simp
  have Ha6 := Lib.hid ha6
  have Hb6 := Lib.hid hb6
  have Hc6 := Lib.hid hc6
  have Hf6 := Lib.hid hf6
  clear ha6 hb6 hc6 hf6
  go_wp2_with fail
  with_reducible refine (Hrv.out _ Ha6.out).mono ?_
  rintro e x7 ⟨rfl, rfl⟩
  go_wp2_with fail
  with_reducible refine (set_hv va vb L M _ Ha6.out Hgl.out Hg.out.nd Hb6.out).mono ?_
  rintro e x8 ⟨vd, rfl, hd, hf8⟩
  have ha8 := Ha6.out.keep hf8
  have hb8 := Hb6.out.keep hf8
  have hc8 := Hc6.out.keep hf8
  have hf8 := Hf6.out.trans hf8
  have Ha8 := Lib.hid ha8
  have Hb8 := Lib.hid hb8
  have Hc8 := Lib.hid hc8
  have Hf8 := Lib.hid hf8
  have Hd := Lib.hid hd
  clear ha8 hb8 hc8 hf8 hd
  go_wp2_with fail
  with_reducible refine (rset_hv va vb L M _ Ha8.out Hgl.out Hb8.out).mono ?_
  rintro e x9 ⟨ve, rfl, he, hf9⟩
  have ha9 := Ha8.out.keep hf9
  have hd9 := Hd.out.keep hf9
  have hc9 := Hc8.out.keep hf9
  have hf9 := Hf8.out.trans hf9
  have Ha9 := Lib.hid ha9
  have Hc9 := Lib.hid hc9
  have Hf9 := Lib.hid hf9
  have Hd9 := Lib.hid hd9
  have He := Lib.hid he
  clear ha9 hc9 hf9 hd9 he
  go_wp2_with fail
  with_reducible refine (row_hv vd ve _ _ _ Hd9.out He.out).mono ?_
  rintro e y1 ⟨rfl, hg1⟩
  rw [rowB_self]
  have ha10 := Ha9.out.keep hg1
  have hc10 := Hc9.out.keep hg1
  have hf10 := Hf9.out.trans hg1
  have Ha10 := Lib.hid ha10
  have Hc10 := Lib.hid hc10
  have Hf10 := Lib.hid hf10
  clear ha10 hc10 hf10
  clear hg1
  go_wp2_with fail
  with_reducible refine (drop_hv va vc L N _ Ha10.out Hgl.out Hc10.out).mono ?_
  rintro e y2 ⟨vf, rfl, hf, hg2⟩
  have ha11 := Ha10.out.keep hg2
  have hc11 := Hc10.out.keep hg2
  have hf11 := Hf10.out.trans hg2
  have Ha11 := Lib.hid ha11
  have Hc11 := Lib.hid hc11
  have Hf11 := Lib.hid hf11
  have Hf := Lib.hid hf
  clear ha11 hc11 hf11 hf
  clear hg2
  go_wp2_with fail
  with_reducible refine (rdrop_hv va vc L N _ Ha11.out Hgl.out Hc11.out).mono ?_
  rintro e y3 ⟨vg, rfl, hh, hg3⟩
  have hf12 := Hf.out.keep hg3
  have hf13 := Hf11.out.trans hg3
  have Hf12 := Lib.hid hf12
  have Hf13 := Lib.hid hf13
  have Hh := Lib.hid hh
  clear hf12 hf13 hh
  clear hg3
  go_wp2_with fail
  with_reducible refine (row_hv vf vg _ _ _ Hf12.out Hh.out).mono ?_
  rintro e y4 ⟨rfl, hg4⟩
  rw [rowB_self]
  have hf14 := Hf13.out.trans hg4
  have Hf14 := Lib.hid hf14
  clear hf14
  clear hg4
  go_wp2_with fail
  with_reducible refine (hlives_any _).mono ?_
  rintro e y5 ⟨rfl, hg5⟩
  have hf15 := Hf14.out.trans hg5
  have Hf15 := Lib.hid hf15
  clear hf15
  clear hg5
  go_wp2_with fail
  go_ret
  exact ⟨rfl, Hf15.out.below (Nat.le_refl _) (fun _ _ h => h)⟩
end Go.Proofs.YtgajlpahhfenaaaDoor
