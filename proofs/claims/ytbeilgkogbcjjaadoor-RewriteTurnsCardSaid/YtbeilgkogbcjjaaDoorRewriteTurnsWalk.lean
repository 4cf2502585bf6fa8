/- The walk of the statement RewriteTurns. -/
import Derived.Test.YtbeilgkogbcjjaaDoorRule
import Derived.Test.YtbeilgkogbcjjaaDoorRewPlain
import Derived.Test.YtbeilgkogbcjjaaDoorRewHeads
import Derived.Test.YtbeilgkogbcjjaaDoorShaped
import Derived.Test.YtbeilgkogbcjjaaDoorHeadEq
import Derived.Test.YtbeilgkogbcjjaaDoorStoreNew
import Derived.StillTailTactics
import Derived.Deep.RegionHeld3
import Derived.Outline
set_option linter.unusedVariables false
namespace Go.Proofs.YtbeilgkogbcjjaaDoor
open Go.RowKit

set_option maxRecDepth 100000 in
set_option maxHeartbeats 4000000 in
theorem rewriteTurns_walk (a0 : Option Addr) (len0 cap0 : Nat) (z0 : List Int) (a1 : Option Addr) (len1 cap1 : Nat) (z1 : List Int) (a2 : Int) (w : World) (w0 : IsRow .i64 w a0 len0 cap0 z0) (w1 : IsRow .i64 w a1 len1 cap1 z1) (w2 : (Lit.int .i64 a2).wf = true) (hmax : MaxL w) :
    Calls Tryd.prog 9 #[.slice a0 len0 cap0, .slice a1 len1 cap1, .int .i64 a2] w fun e w' => e = .returned (.bool true) ∧ Below w.heap.size w w' := by
  obtain ⟨xs, h0⟩ := w0.list
  have hcap := w0.caps
  obtain ⟨ys, h1⟩ := w1.list
  have hb2 := wf_i64 w2
  have H0 := Lib.hid h0
  have H1 := Lib.hid h1
  have Hb2 := Lib.hid hb2
  clear h0 h1 hb2
  clear w0 w1 w2
  go_enter Tryd.func9, Tryd.ntmps9
  go_wp2_with fail
  with_reducible refine (rule_any a0 len0 cap0 xs _ H0.out hcap.1 hcap.2).mono ?_
  rintro e x1 ⟨sv, dv, rfl, hs, hd, hf1⟩
  obtain ⟨sa, sc, rfl, _⟩ := hs.shape
  obtain ⟨da, dc, rfl, _⟩ := hd.shape
  obtain ⟨ns, hns⟩ : ∃ n, n = (genH ((xs.drop 4).take 4)).length := ⟨_, rfl⟩
  obtain ⟨nd, hnd⟩ : ∃ n, n = (namesH ((xs.drop 8).take 6)).length := ⟨_, rfl⟩
  rw [← hns] at hs ⊢
  rw [← hnd] at hd ⊢
  have hgS := GoodL.gen ((xs.drop 4).take 4)
  generalize genH ((xs.drop 4).take 4) = SS at *
  generalize namesH ((xs.drop 8).take 6) = DD at *
  have hbo := ofZ_ok (numAt xs 0)
  have hbl := ofZ_len (numAt xs 0)
  have hpx := pfx_cases (numAt xs 3) (numAt xs 1)
  generalize ofZ (numAt xs 0) = b at *
  generalize decide (around (numAt xs 2) 4 = 1) = ex at *
  generalize pfxOf (numAt xs 3) (numAt xs 1) = pfx at *
  obtain ⟨mp, hmp⟩ : ∃ mp, mp = bs (pathOf b) := ⟨_, rfl⟩
  rw [← hmp]
  unfold ruleV ruleC
  have fa := (Frm.refl noB x1).alloc (.cells (ruleC mp ex pfx (.slice sa ns sc) (.slice da nd dc)) 35)
  have hB := Blk.made x1 (ruleC mp ex pfx (.slice sa ns sc) (.slice da nd dc)) 35
  unfold ruleC at fa hB
  have hs1 := hs.keep fa
  have hd1 := hd.keep fa
  have hf2 := hf1.trans fa
  have hm2 := hmax.keep hf2
  have Hs := Lib.hid hs
  have Hd := Lib.hid hd
  have Hf1 := Lib.hid hf1
  have Hns := Lib.hid hns
  have Hnd := Lib.hid hnd
  have Hmp := Lib.hid hmp
  have Hfa := Lib.hid fa
  have HB := Lib.hid hB
  have Hs1 := Lib.hid hs1
  have Hd1 := Lib.hid hd1
  have Hf2 := Lib.hid hf2
  have Hm2 := Lib.hid hm2
  have Hbo := Lib.hid hbo
  have Hbl := Lib.hid hbl
  have Hpx := Lib.hid hpx
  have HgS := Lib.hid hgS
  clear hs hd hf1 hns hnd hmp fa hB hs1 hd1 hf2 hm2 hbo hbl hpx hgS
  go_wp2_with (refine wpl_store_new _ (by rfl) 35 _ _ (by rfl) _ (by rfl) (by first | rfl | simp) _ _ _ (by rfl) (by exact info_rule) (by rfl) (by kernel_rfl) ?_)
  refine (heads_hv a1 len1 cap1 ys _ (H1.out.keep Hf2.out)).mono ?_
  rintro e x3 ⟨va, rfl, ha, hf3⟩
  have hs4 := Hs1.out.keep hf3
  have hd4 := Hd1.out.keep hf3
  have hB4 := HB.out.frm hf3 (fun h => h)
  have hf4 := Hf2.out.trans hf3
  have hga := GoodL.gen (ys.take 12)
  generalize genH (ys.take 12) = A at *
  have bL := hB4
  have hh := fun w hl hs hd => rew_heads_any mp ex pfx (.slice sa ns sc) (.slice da nd dc) va A SS DD w hl (by have := hga.len; omega) hga.nd hs hd
  unfold ruleV ruleC at hh
  have hgB := turn_good hga HgS.out DD
  have htin := fun s h1 h2 => turn_in (l := A) DD (s := s) HgS.out.nd h1 h2
  have htout := fun s h => turn_out A SS DD (s := s) h
  generalize setAll (dropL A DD) SS = Bl at *
  have Hs4 := Lib.hid hs4
  have Hd4 := Lib.hid hd4
  have Hf4 := Lib.hid hf4
  have Hf3 := Lib.hid hf3
  have Ha := Lib.hid ha
  have Hga := Lib.hid hga
  have HB4 := Lib.hid hB4
  have Hh := Lib.hid hh
  have HgB := Lib.hid hgB
  have Htin := Lib.hid htin
  have Htout := Lib.hid htout
  clear hs4 hd4 hf4 hf3 ha hga hB4 hh hgB htin htout
  go_wp2_with (refine wpl_load_blk (by rfl) 35 _ (by rfl) _ (by rfl) _ _ (by exact bL) _ Tryd.underlying35 (by rfl) (by exact info_rule) ?_)
  refine (Hh.out _ Ha.out Hs4.out Hd4.out).mono ?_
  rintro e x5 ⟨vb, rfl, hb, hg5⟩
  obtain ⟨ba, bc, rfl, _⟩ := hb.shape
  obtain ⟨nb, hnb⟩ : ∃ n, n = Bl.length := ⟨_, rfl⟩
  rw [← hnb] at hb ⊢
  have hf5 := Hf4.out.trans hg5
  have ha5 := Ha.out.keep hg5
  have hs5 := Hs4.out.keep hg5
  have hd5 := Hd4.out.keep hg5
  have hB5 := HB4.out.frm hg5 (fun h => h)
  clear bL
  have Hf5 := Lib.hid hf5
  have Ha5 := Lib.hid ha5
  have Hs5 := Lib.hid hs5
  have Hd5 := Lib.hid hd5
  have HB5 := Lib.hid hB5
  have Hb := Lib.hid hb
  have Hg5 := Lib.hid hg5
  have Hnb := Lib.hid hnb
  clear hf5 ha5 hs5 hd5 hB5 hb hg5 hnb
  go_wp2_with fail
  refine (one_hv a2 _ Hb2.out).mono ?_
  rintro e x6 ⟨rfl, hg6⟩
  generalize (oneZ a2).name = s
  generalize (oneZ a2).val = sv
  have hfd := fun w => field_hd0 s sv w
  have hf6 := Hf5.out.trans hg6
  have ha6 := Ha5.out.keep hg6
  have hs6 := Hs5.out.keep hg6
  have hd6 := Hd5.out.keep hg6
  have hB6 := HB5.out.frm hg6 (fun h => h)
  have hb6 := Hb.out.keep hg6
  have Hf6 := Lib.hid hf6
  have Ha6 := Lib.hid ha6
  have Hs6 := Lib.hid hs6
  have Hd6 := Lib.hid hd6
  have HB6 := Lib.hid hB6
  have Hb6 := Lib.hid hb6
  have Hg6 := Lib.hid hg6
  clear hf6 ha6 hs6 hd6 hB6 hb6 hg6
  go_wp2_with fail
  refine (get_hv va A s _ Ha6.out).mono ?_
  rintro e x7 ⟨rfl, hg7⟩
  clear hfd
  have hf7 := Hf6.out.trans hg7
  have hs7 := Hs6.out.keep hg7
  have hd7 := Hd6.out.keep hg7
  have hB7 := HB6.out.frm hg7 (fun h => h)
  have hb7 := Hb6.out.keep hg7
  have Hf7 := Lib.hid hf7
  have Hs7 := Lib.hid hs7
  have Hd7 := Lib.hid hd7
  have HB7 := Lib.hid hB7
  have Hb7 := Lib.hid hb7
  have Hg7 := Lib.hid hg7
  clear hf7 hs7 hd7 hB7 hb7 hg7
  go_wp2_with fail
  refine (get_hv _ Bl s _ Hb7.out).mono ?_
  rintro e x8 ⟨rfl, hg8⟩
  have hf8 := Hf7.out.trans hg8
  have hs8 := Hs7.out.keep hg8
  have hd8 := Hd7.out.keep hg8
  have hB8 := HB7.out.frm hg8 (fun h => h)
  have hb8 := Hb7.out.keep hg8
  have b9 := (hB8.cell 9).trans (show _ = some (Value.slice sa ns sc) from rfl)
  have Hf8 := Lib.hid hf8
  have Hs8 := Lib.hid hs8
  have Hd8 := Lib.hid hd8
  have HB8 := Lib.hid hB8
  have Hb8 := Lib.hid hb8
  have Hg8 := Lib.hid hg8
  clear hf8 hs8 hd8 hB8 hb8 hg8
  go_wp2_with fail
  refine (get_hv _ SS s _ Hs8.out).mono ?_
  rintro e x9 ⟨rfl, hg9⟩
  have hf9 := Hf8.out.trans hg9
  have hd9 := Hd8.out.keep hg9
  have hB9 := HB8.out.frm hg9 (fun h => h)
  have hb9 := Hb8.out.keep hg9
  clear b9
  have b10 := (hB9.cell 10).trans (show _ = some (Value.slice da nd dc) from rfl)
  have Hf9 := Lib.hid hf9
  have Hd9 := Lib.hid hd9
  have HB9 := Lib.hid hB9
  have Hb9 := Lib.hid hb9
  have Hg9 := Lib.hid hg9
  clear hf9 hd9 hB9 hb9 hg9
  go_wp2_with fail
  refine (hastext_sv _ DD s _ Hd9.out).mono ?_
  rintro e x10 ⟨rfl, hg10⟩
  subst hg10
  have Hchk := Lib.hid <| check_hv _ Bl _ Hb9.out HgB.out
  clear b10
  have hkey : (hasN SS s = true ∧ nb < 8 ∧ hasN Bl s = true ∧ getL Bl s = getL SS s) ∨ (hasN SS s = true ∧ ¬ nb < 8) ∨ (hasN SS s = false ∧ hasT DD s = true ∧ hasN Bl s = false) ∨ (hasN SS s = false ∧ hasT DD s = false ∧ hasN Bl s = hasN A s ∧ getL Bl s = getL A s) := by
    rw [Hnb.out]
    cases hS : hasN SS s with
    | true =>
      by_cases hl : Bl.length < 8
      · have e1 := Htin.out s hl hS
        exact .inl ⟨rfl, hl, by rw [← hasN_get, e1, hasN_get]; exact hS, e1⟩
      · exact .inr (.inl ⟨rfl, hl⟩)
    | false =>
      have e1 := Htout.out s hS
      cases hD : hasT DD s with
      | true =>
        rw [if_pos hD] at e1
        exact .inr (.inr (.inl ⟨rfl, rfl, by rw [← hasN_get, e1]; rfl⟩))
      | false =>
        rw [if_neg (by rw [hD]; simp)] at e1
        exact .inr (.inr (.inr ⟨rfl, rfl, by rw [← hasN_get, e1, hasN_get], e1⟩))
  have hnb8 : nb ≤ 8 := by rw [Hnb.out]; exact HgB.out.len
  clear Hnb
  rcases hkey with ⟨hS, hl, hI, hG⟩ | ⟨hS, hl⟩ | ⟨hS, hD, hI⟩ | ⟨hS, hD, hI, hG⟩
  · rw [hG, hI, hS]; generalize (getL SS s).getD ⟨#[]⟩ = vS; clear hG hI hS
    skip
    go_wp2_with fail
    refine Hchk.out.mono ?_
    rintro e x11 ⟨rfl, hg11⟩
    have hf11 := Hf9.out.trans hg11
    have hm11 := hmax.keep hf11
    have Hf11 := Lib.hid hf11
    have Hm11 := Lib.hid hm11
    clear hf11 hm11
    clear hg11
    go_wp2_with fail
    refine (rlives_any _ Hm11.out).mono ?_
    rintro e yz ⟨rfl, hgz⟩
    have Hfz := Lib.hid (Hf11.out.trans hgz)
    clear hgz
    go_wp2_with fail
    go_ret
    exact ⟨rfl, Hfz.out.below (Nat.le_refl _) (fun _ _ h => h)⟩
  · rw [hS]; clear hS; have hl2 : decide ((nb : Int) < 8) = false := by simp; omega
    have hl3 : decide (nb < 8) = false := by simp; omega
    skip
    go_wp2_with fail
    refine Hchk.out.mono ?_
    rintro e x11 ⟨rfl, hg11⟩
    have hf11 := Hf9.out.trans hg11
    have hm11 := hmax.keep hf11
    have Hf11 := Lib.hid hf11
    have Hm11 := Lib.hid hm11
    clear hf11 hm11
    clear hg11
    go_wp2_with fail
    refine (rlives_any _ Hm11.out).mono ?_
    rintro e yz ⟨rfl, hgz⟩
    have Hfz := Lib.hid (Hf11.out.trans hgz)
    clear hgz
    go_wp2_with fail
    go_ret
    exact ⟨rfl, Hfz.out.below (Nat.le_refl _) (fun _ _ h => h)⟩
  · rw [hS, hD, hI]; clear hS hD hI
    skip
    go_wp2_with fail
    refine Hchk.out.mono ?_
    rintro e x11 ⟨rfl, hg11⟩
    have hf11 := Hf9.out.trans hg11
    have hm11 := hmax.keep hf11
    have Hf11 := Lib.hid hf11
    have Hm11 := Lib.hid hm11
    clear hf11 hm11
    clear hg11
    go_wp2_with fail
    refine (rlives_any _ Hm11.out).mono ?_
    rintro e yz ⟨rfl, hgz⟩
    have Hfz := Lib.hid (Hf11.out.trans hgz)
    clear hgz
    go_wp2_with fail
    go_ret
    exact ⟨rfl, Hfz.out.below (Nat.le_refl _) (fun _ _ h => h)⟩
  · rw [hS, hD, hI, hG]; generalize (getL A s).getD ⟨#[]⟩ = vS; clear hG hS hD; generalize hasN A s = hA at *; clear hI
    skip
    go_wp2_with fail
    refine Hchk.out.mono ?_
    rintro e x11 ⟨rfl, hg11⟩
    have hf11 := Hf9.out.trans hg11
    have hm11 := hmax.keep hf11
    have Hf11 := Lib.hid hf11
    have Hm11 := Lib.hid hm11
    clear hf11 hm11
    clear hg11
    go_wp2_with fail
    refine (rlives_any _ Hm11.out).mono ?_
    rintro e yz ⟨rfl, hgz⟩
    have Hfz := Lib.hid (Hf11.out.trans hgz)
    clear hgz
    go_wp2_with fail
    go_ret
    exact ⟨rfl, Hfz.out.below (Nat.le_refl _) (fun _ _ h => h)⟩
end Go.Proofs.YtbeilgkogbcjjaaDoor
