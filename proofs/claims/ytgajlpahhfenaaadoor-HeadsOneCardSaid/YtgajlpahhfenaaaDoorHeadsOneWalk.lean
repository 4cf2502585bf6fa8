/- The walk of the statement HeadsOne. -/
import Derived.Test.YtgajlpahhfenaaaDoorHeadHV
import Derived.Test.YtgajlpahhfenaaaDoorHeadEq
set_option linter.unusedVariables false
namespace Go.Proofs.YtgajlpahhfenaaaDoor
open Go.RowKit

set_option maxRecDepth 100000 in
set_option maxHeartbeats 4000000 in
theorem headsOne_walk (a0 : Option Addr) (len0 cap0 : Nat) (z0 : List Int) (a1 : Option Addr) (len1 cap1 : Nat) (z1 : List Int) (a2 : Int) (w : World) (w0 : IsRow .i64 w a0 len0 cap0 z0) (w1 : IsRow .i64 w a1 len1 cap1 z1) (w2 : (Lit.int .i64 a2).wf = true) :
    Calls Tryd.prog 9 #[.slice a0 len0 cap0, .slice a1 len1 cap1, .int .i64 a2] w fun e w' => e = .returned (.bool true) ∧ Below w.heap.size w w' := by
  obtain ⟨xs, h0⟩ := w0.list
  obtain ⟨ys, h1⟩ := w1.list
  have b2 := wf_i64 w2
  have hfd := fun (s t : ByteArray) (w : World) => field_hd0 s t w
  have hg := GoodL.gen (xs.take 12)
  have hg2 := GoodL.gen (ys.take 12)
  have H0 := Lib.hid h0
  have H1 := Lib.hid h1
  have Hg := Lib.hid hg
  have Hg2 := Lib.hid hg2
  have Hb2 := Lib.hid b2
  clear h0 h1 hg hg2 b2
  clear w0 w1 w2
  go_enter Tryd.func9, Tryd.ntmps9
  go_wp2_with fail
  with_reducible refine (heads_hv a0 len0 cap0 xs _ H0.out).mono ?_
  rintro e x1 ⟨va, rfl, ha, hf1⟩
  have h1' := H1.out.keep hf1
  have Ha := Lib.hid ha
  have Hf1 := Lib.hid hf1
  have H1' := Lib.hid h1'
  clear ha hf1 h1'
  go_wp2_with fail
  with_reducible refine (heads_hv a1 len1 cap1 ys _ H1'.out).mono ?_
  rintro e x2 ⟨vb, rfl, hb, hf2⟩
  have ha2 := Ha.out.keep hf2
  have hf2 := Hf1.out.trans hf2
  generalize genH (xs.take 12) = L at *
  generalize genH (ys.take 12) = M at *
  have hp1 := fun w h => print_hv va L w h Hg.out
  have hp2 := fun w h => print_hv vb M w h Hg2.out
  have hrow := fun w h h' => row_hv va vb L M w h h'
  have hst : ((bs (prL L)).toList == (bs (prL M)).toList) = rowB L M := by rw [str_beq, bs_list, bs_list]; exact print_row Hg.out Hg2.out
  have hpl : sameL L M = true → (((bs (prL L)).size : Int) == ((bs (prL M)).size : Int)) = true := fun h => by
    rw [bs_size, bs_size, perm_print (sameL_perm Hg.out.nd h)]; simp
  have hpg := fun (h : sameL L M = true) (s : ByteArray) => perm_get Hg.out.nd (sameL_perm Hg.out.nd h) s
  generalize bs (prL L) = P at *
  generalize bs (prL M) = Q at *
  generalize rowB L M = r at *
  have t1 : (r == r) = true := by simp
  have Ha2 := Lib.hid ha2
  have Hb := Lib.hid hb
  have Hf2 := Lib.hid hf2
  have Hp1 := Lib.hid hp1
  have Hp2 := Lib.hid hp2
  have Hrow := Lib.hid hrow
  have Hpl := Lib.hid hpl
  have Hpg := Lib.hid hpg
  clear ha2 hb hf2 hp1 hp2 hrow hpl hpg
  go_wp2_with fail
  with_reducible refine (Hp1.out _ Ha2.out).mono ?_
  rintro e y1 ⟨rfl, hg1⟩
  have ha3 := Ha2.out.keep hg1
  have hb3 := Hb.out.keep hg1
  have hf3 := Hf2.out.trans hg1
  have Ha3 := Lib.hid ha3
  have Hb3 := Lib.hid hb3
  have Hf3 := Lib.hid hf3
  clear ha3 hb3 hf3
  clear hg1
  go_wp2_with fail
  with_reducible refine (Hp2.out _ Hb3.out).mono ?_
  rintro e y2 ⟨rfl, hg2⟩
  have ha4 := Ha3.out.keep hg2
  have hb4 := Hb3.out.keep hg2
  have hf4 := Hf3.out.trans hg2
  have Ha4 := Lib.hid ha4
  have Hb4 := Lib.hid hb4
  have Hf4 := Lib.hid hf4
  clear ha4 hb4 hf4
  clear hg2
  go_wp2_with fail
  with_reducible refine (Hrow.out _ Ha4.out Hb4.out).mono ?_
  rintro e y3 ⟨rfl, hg3⟩
  have ha5 := Ha4.out.keep hg3
  have hb5 := Hb4.out.keep hg3
  have hf5 := Hf4.out.trans hg3
  have hsm := fun w h h' => same_hv va vb L M w h h'
  have Ha5 := Lib.hid ha5
  have Hb5 := Lib.hid hb5
  have Hf5 := Lib.hid hf5
  clear ha5 hb5 hf5
  clear hg3
  cases hs : sameL L M
  case false =>
    rw [hs] at hsm
    have Hsm := Lib.hid hsm
    have Hs := Lib.hid hs
    clear hsm hs
    go_wp2_with fail
    with_reducible refine (Hsm.out _ Ha5.out Hb5.out).mono ?_
    rintro e y4 ⟨rfl, hg4⟩
    have hf6 := Hf5.out.trans hg4
    have Hf6 := Lib.hid hf6
    clear hf6
    clear hg4
    go_wp2_with fail
    with_reducible refine (hlives_any _).mono ?_
    rintro e y5 ⟨rfl, hg5⟩
    have hf7 := Hf6.out.trans hg5
    have Hf7 := Lib.hid hf7
    clear hf7
    clear hg5
    go_wp2_with fail
    go_ret
    exact ⟨rfl, Hf7.out.below (Nat.le_refl _) (fun _ _ h => h)⟩
  case true =>
    rw [hs] at hsm
    have hlen := Hpl.out hs
    have hget := Hpg.out hs
    have Hsm := Lib.hid hsm
    have Hs := Lib.hid hs
    have Hget := Lib.hid hget
    clear hsm hs hget
    go_wp2_with fail
    with_reducible refine (Hsm.out _ Ha5.out Hb5.out).mono ?_
    rintro e y4 ⟨rfl, hg4⟩
    have ha6 := Ha5.out.keep hg4
    have hb6 := Hb5.out.keep hg4
    have hf6 := Hf5.out.trans hg4
    have Ha6 := Lib.hid ha6
    have Hb6 := Lib.hid hb6
    have Hf6 := Lib.hid hf6
    clear ha6 hb6 hf6
    clear hg4
    have hone := fun w => one_hv a2 w Hb2.out
    generalize (oneZ a2).name = nm at *
    generalize (oneZ a2).val = vl at *
    have hga := fun w h => get_hv va L nm w h
    have hgb := fun w h => get_hv vb M nm w h
    have e1 := Hget.out nm
    have e2 : hasN L nm = hasN M nm := by rw [← hasN_get, ← hasN_get, e1]
    rw [← e1, ← e2] at hgb
    generalize (getL L nm).getD ⟨#[]⟩ = p1 at *
    generalize hasN L nm = p2 at *
    have t2 : (p1.toList == p1.toList) = true := by simp
    have t3 : (p2 == p2) = true := by simp
    have Hone := Lib.hid hone
    have Hga := Lib.hid hga
    have Hgb := Lib.hid hgb
    have He1 := Lib.hid e1
    have He2 := Lib.hid e2
    clear hone hga hgb e1 e2
    go_wp2_with fail
    with_reducible refine (Hone.out _).mono ?_
    rintro e y5 ⟨rfl, hg5⟩
    have ha7 := Ha6.out.keep hg5
    have hb7 := Hb6.out.keep hg5
    have hf7 := Hf6.out.trans hg5
    have Ha7 := Lib.hid ha7
    have Hb7 := Lib.hid hb7
    have Hf7 := Lib.hid hf7
    clear ha7 hb7 hf7
    clear hg5
    go_wp2_with fail
    with_reducible refine (Hga.out _ Ha7.out).mono ?_
    rintro e y6 ⟨rfl, hg6⟩
    have ha8 := Ha7.out.keep hg6
    have hb8 := Hb7.out.keep hg6
    have hf8 := Hf7.out.trans hg6
    have Ha8 := Lib.hid ha8
    have Hb8 := Lib.hid hb8
    have Hf8 := Lib.hid hf8
    clear ha8 hb8 hf8
    clear hg6
    go_wp2_with fail
    with_reducible refine (Hone.out _).mono ?_
    rintro e y7 ⟨rfl, hg7⟩
    have ha9 := Ha8.out.keep hg7
    have hb9 := Hb8.out.keep hg7
    have hf9 := Hf8.out.trans hg7
    have Ha9 := Lib.hid ha9
    have Hb9 := Lib.hid hb9
    have Hf9 := Lib.hid hf9
    clear ha9 hb9 hf9
    clear hg7
    go_wp2_with fail
    with_reducible refine (Hgb.out _ Hb9.out).mono ?_
    rintro e y8 ⟨rfl, hg8⟩
    have ha10 := Ha9.out.keep hg8
    have hb10 := Hb9.out.keep hg8
    have hf10 := Hf9.out.trans hg8
    have Ha10 := Lib.hid ha10
    have Hb10 := Lib.hid hb10
    have Hf10 := Lib.hid hf10
    clear ha10 hb10 hf10
    clear hg8
    go_wp2_with fail
    with_reducible refine (Hp1.out _ Ha10.out).mono ?_
    rintro e y9 ⟨rfl, hg9⟩
    have hb11 := Hb10.out.keep hg9
    have hf11 := Hf10.out.trans hg9
    have Hb11 := Lib.hid hb11
    have Hf11 := Lib.hid hf11
    clear hb11 hf11
    clear hg9
    go_wp2_with fail
    with_reducible refine (Hp2.out _ Hb11.out).mono ?_
    rintro e y10 ⟨rfl, hg10⟩
    have hf12 := Hf11.out.trans hg10
    have Hf12 := Lib.hid hf12
    clear hf12
    clear hg10
    go_wp2_with fail
    with_reducible refine (hlives_any _).mono ?_
    rintro e y11 ⟨rfl, hg11⟩
    have hf13 := Hf12.out.trans hg11
    have Hf13 := Lib.hid hf13
    clear hf13
    clear hg11
    go_wp2_with fail
    go_ret
    exact ⟨rfl, Hf13.out.below (Nat.le_refl _) (fun _ _ h => h)⟩
end Go.Proofs.YtgajlpahhfenaaaDoor
