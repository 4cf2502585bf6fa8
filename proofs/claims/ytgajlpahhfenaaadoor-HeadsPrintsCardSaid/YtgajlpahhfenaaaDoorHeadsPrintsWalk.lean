/- The walk of the statement HeadsPrints. -/
import Derived.Test.YtgajlpahhfenaaaDoorHeadHV
import Derived.Test.YtgajlpahhfenaaaDoorHeadEq
import Derived.Test.YtgajlpahhfenaaaDoorHeadRPrint
set_option linter.unusedVariables false
namespace Go.Proofs.YtgajlpahhfenaaaDoor
open Go.RowKit

theorem rprint_hv (v : Value) (l : List Hd) (w : World) (h : HV w v l) (hg : GoodL l) : Calls Tryd.prog 28 #[v] w fun e w' => e = .returned (.string (bs (prL l))) ∧ Frm noB w w' := by
  obtain ⟨a, c, rfl, hr, _⟩ := h.shape
  exact ref_print a _ c l w hr (by have := hg.len; omega) hg.small
theorem rev_step {L : List Hd} {k : Nat} {x : Hd} (hx : L[k]? = some x) : (L.drop k).reverse = (L.drop (k + 1)).reverse ++ [x] := by
  have hd : L.drop k = x :: L.drop (k + 1) := by rw [List.drop_eq_getElem_cons (get_lt hx)]; congr 1; have := get_lt hx; rw [List.getElem?_eq_getElem this] at hx; simpa using hx
  rw [hd, List.reverse_cons]
set_option maxRecDepth 100000 in
set_option maxHeartbeats 4000000 in
theorem headsPrints_walk (a0 : Option Addr) (len0 cap0 : Nat) (z0 : List Int) (a1 : Option Addr) (len1 cap1 : Nat) (z1 : List Int) (w : World) (w0 : IsRow .i64 w a0 len0 cap0 z0) (w1 : IsRow .i64 w a1 len1 cap1 z1) :
    Calls Tryd.prog 8 #[.slice a0 len0 cap0, .slice a1 len1 cap1] w fun e w' => e = .returned (.bool true) ∧ Below w.heap.size w w' := by
  obtain ⟨xs, h0⟩ := w0.list
  obtain ⟨ys, h1⟩ := w1.list
  have hg := GoodL.gen (xs.take 12)
  have hg2 := GoodL.gen (ys.take 12)
  have H0 := Lib.hid h0
  have H1 := Lib.hid h1
  have Hg := Lib.hid hg
  have Hg2 := Lib.hid hg2
  clear h0 h1 hg hg2
  clear w0 w1
  go_enter Tryd.func8, Tryd.ntmps8
  go_wp2_with fail
  with_reducible refine (heads_hv a0 len0 cap0 xs _ H0.out).mono ?_
  rintro e x1 ⟨va, rfl, ha, hf1⟩
  have h1' := H1.out.keep hf1
  have Ha := Lib.hid ha
  have Hf1 := Lib.hid hf1
  have H1' := Lib.hid h1'
  clear ha hf1 h1'
  go_wp2_with fail
  with_reducible refine (heads_hv a1 len1 cap1 ys _ H1'.out).mono ?_
  rintro e x2 ⟨vb, rfl, hb, hf2⟩
  have ha2 := Ha.out.keep hf2
  have hf2 := Hf1.out.trans hf2
  generalize genH (xs.take 12) = L at *
  generalize genH (ys.take 12) = M at *
  obtain ⟨a1', a2', rfl, hra, hcc⟩ := ha2.shape
  clear hcc
  obtain ⟨n, hn⟩ : ∃ n, n = L.length := ⟨_, rfl⟩
  rw [← hn] at hra ha2 ⊢
  have hn8 : n ≤ 8 := by have := Hg.out.len; omega
  have Ha2 := Lib.hid ha2
  have Hb := Lib.hid hb
  have Hf2 := Lib.hid hf2
  have Hra := Lib.hid hra
  have Hn := Lib.hid hn
  clear ha2 hb hf2 hra hn
  go_wp2_with fail
  go_loopw [7, 8] (fun o i wr => ∃ j : Nat, j ≤ n ∧ i = .int .i64 ((j : Int) - 1) ∧ Own hdE wr x2.heap.size 25 o ((L.drop j).reverse) ∧ Frm noB x2 wr) (fun _ i _ => (intOf i + 1).toNat)
  case atStart => exact ⟨n, by omega, rfl, by rw [List.drop_of_length_le (by rw [← Hn.out]; exact Nat.le_refl _)]; exact Own.nil _ _ _ _, Frm.refl _ _⟩
  case round =>
    obtain ⟨j, hj, rfl, ho, hf⟩ := hrel
    by_cases hj0 : 0 < j
    · obtain ⟨k, rfl⟩ : ∃ k, j = k + 1 := ⟨j - 1, by omega⟩
      obtain ⟨x, hx⟩ := get_of_lt (l := L) (j := k) (by rw [← Hn.out]; omega)
      obtain ⟨b, off, rfl, hbl, c0, c1⟩ := hd_rd (Hra.out.keep hf) hx
      have hst := rev_step hx
      have hol : (L.drop (k + 1)).reverse.length ≤ 1000000 := by rw [List.length_reverse, List.length_drop, ← Hn.out]; omega
      generalize (L.drop (k + 1)).reverse = R at *
      have hwz := hf.size
      have e1 : (((k + 1 : Nat) : Int) - 1) = (k : Int) := by omega
      rw [e1]
      have Ho := Lib.hid ho
      have Hf := Lib.hid hf
      have Hx := Lib.hid hx
      have Hst := Lib.hid hst
      have Hol := Lib.hid hol
      have Hwz := Lib.hid hwz
      have He1 := Lib.hid e1
      clear ho hf hx hst hol hwz e1
      go_wp2_with (at_builtin; refine app_hd _ (by rfl) _ _ (by rfl) x2.heap.size _ R (by rfl) Ho.out x _ (by rfl) _ rfl (by rfl) Hol.out Hwz.out ?_)
      intro v' w3 ho2 _ hf3 _ _
      have hf4 := Hf.out.new hf3 (fun i hi hh => by have := (Ho.out.lt i hh.symm).1; omega)
      have Ho2 := Lib.hid ho2
      have Hf4 := Lib.hid hf4
      clear ho2 hf4
      clear hf3
      go_wp2_with fail
      go_roundw
      case rel => exact ⟨k, by omega, rfl, by rw [Hst.out]; exact Ho2.out, Hf4.out⟩
      case measure => simp [intOf]
    · obtain rfl : j = 0 := by omega
      have ha3 := Ha2.out.keep hf
      have hb3 := Hb.out.keep hf
      have hfw := Hf2.out.trans hf
      have hc3 : HV wr u7 L.reverse := ⟨_, ho⟩
      have hrv := sameL_rev Hg.out.nd
      have hcm := sameL_comm Hg.out.nd Hg2.out.nd
      have Ho := Lib.hid ho
      have Hf := Lib.hid hf
      have Ha3 := Lib.hid ha3
      have Hb3 := Lib.hid hb3
      have Hfw := Lib.hid hfw
      have Hc3 := Lib.hid hc3
      have Hrv := Lib.hid hrv
      have Hcm := Lib.hid hcm
      clear ho hf ha3 hb3 hfw hc3 hrv hcm
      go_wp2_with fail
      refine (print_hv _ L _ Ha3.out Hg.out).mono ?_
      rintro e y1 ⟨rfl, hg1⟩
      have ha4 := Ha3.out.keep hg1
      have hb4 := Hb3.out.keep hg1
      have hc4 := Hc3.out.keep hg1
      have hf4 := Hfw.out.trans hg1
      have hrp := fun w h => rprint_hv (.slice a1' n a2') L w h Hg.out
      generalize bs (prL L) = P at *
      have t1 : (P.toList == P.toList) = true := by simp
      have Ha4 := Lib.hid ha4
      have Hb4 := Lib.hid hb4
      have Hc4 := Lib.hid hc4
      have Hf4 := Lib.hid hf4
      have Hrp := Lib.hid hrp
      clear ha4 hb4 hc4 hf4 hrp
      clear hg1
      go_wp2_with fail
      refine (Hrp.out _ Ha4.out).mono ?_
      rintro e y2 ⟨rfl, hg2⟩
      have ha5 := Ha4.out.keep hg2
      have hb5 := Hb4.out.keep hg2
      have hc5 := Hc4.out.keep hg2
      have hf5 := Hf4.out.trans hg2
      have hs1 := fun w h h' => same_hv (.slice a1' n a2') vb L M w h h'
      have hs2 := fun w h h' => rsame_hv (.slice a1' n a2') vb L M w h h'
      have hs3 := fun w h h' => same_hv vb (.slice a1' n a2') M L w h h'
      rw [← Hcm.out] at hs3
      generalize sameL L M = s at *
      have t2 : (s == s) = true := by simp
      have Ha5 := Lib.hid ha5
      have Hb5 := Lib.hid hb5
      have Hc5 := Lib.hid hc5
      have Hf5 := Lib.hid hf5
      have Hs1 := Lib.hid hs1
      have Hs2 := Lib.hid hs2
      have Hs3 := Lib.hid hs3
      clear ha5 hb5 hc5 hf5 hs1 hs2 hs3
      clear hg2
      go_wp2_with fail
      refine (Hs1.out _ Ha5.out Hb5.out).mono ?_
      rintro e y3 ⟨rfl, hg3⟩
      have ha6 := Ha5.out.keep hg3
      have hb6 := Hb5.out.keep hg3
      have hc6 := Hc5.out.keep hg3
      have hf6 := Hf5.out.trans hg3
      have Ha6 := Lib.hid ha6
      have Hb6 := Lib.hid hb6
      have Hc6 := Lib.hid hc6
      have Hf6 := Lib.hid hf6
      clear ha6 hb6 hc6 hf6
      clear hg3
      go_wp2_with fail
      refine (Hs2.out _ Ha6.out Hb6.out).mono ?_
      rintro e y4 ⟨rfl, hg4⟩
      have ha7 := Ha6.out.keep hg4
      have hb7 := Hb6.out.keep hg4
      have hc7 := Hc6.out.keep hg4
      have hf7 := Hf6.out.trans hg4
      have Ha7 := Lib.hid ha7
      have Hb7 := Lib.hid hb7
      have Hc7 := Lib.hid hc7
      have Hf7 := Lib.hid hf7
      clear ha7 hb7 hc7 hf7
      clear hg4
      go_wp2_with fail
      refine (same_hv _ u7 L L.reverse _ Ha7.out Hc7.out).mono ?_
      rintro e y5 ⟨rfl, hg5⟩
      rw [Hrv.out]
      have ha8 := Ha7.out.keep hg5
      have hb8 := Hb7.out.keep hg5
      have hf8 := Hf7.out.trans hg5
      have Ha8 := Lib.hid ha8
      have Hb8 := Lib.hid hb8
      have Hf8 := Lib.hid hf8
      clear ha8 hb8 hf8
      clear hg5
      go_wp2_with fail
      refine (Hs3.out _ Hb8.out Ha8.out).mono ?_
      rintro e y6 ⟨rfl, hg6⟩
      have ha9 := Ha8.out.keep hg6
      have hb9 := Hb8.out.keep hg6
      have hf9 := Hf8.out.trans hg6
      have Ha9 := Lib.hid ha9
      have Hb9 := Lib.hid hb9
      have Hf9 := Lib.hid hf9
      clear ha9 hb9 hf9
      clear hg6
      go_wp2_with fail
      refine (Hs1.out _ Ha9.out Hb9.out).mono ?_
      rintro e y7 ⟨rfl, hg7⟩
      have hf10 := Hf9.out.trans hg7
      have Hf10 := Lib.hid hf10
      clear hf10
      clear hg7
      go_wp2_with fail
      refine (hlives_any _).mono ?_
      rintro e y8 ⟨rfl, hg8⟩
      have hf11 := Hf10.out.trans hg8
      have Hf11 := Lib.hid hf11
      clear hf11
      clear hg8
      go_wp2_with fail
      go_ret
      exact ⟨rfl, Hf11.out.below (Nat.le_refl _) (fun _ _ h => h)⟩
end Go.Proofs.YtgajlpahhfenaaaDoor
