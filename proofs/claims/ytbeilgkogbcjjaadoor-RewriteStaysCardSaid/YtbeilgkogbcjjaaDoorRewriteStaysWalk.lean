/- The walk of the statement RewriteStays. -/
import Derived.Test.YtbeilgkogbcjjaaDoorRule
import Derived.Test.YtbeilgkogbcjjaaDoorRewHeads
import Derived.Test.YtbeilgkogbcjjaaDoorShaped
import Derived.Test.YtbeilgkogbcjjaaDoorHeadEq
import Derived.Test.YtbeilgkogbcjjaaDoorStoreNew
import Derived.StillTailTactics
import Derived.Deep.RegionHeld3
import Derived.Outline
set_option linter.unusedVariables false
namespace Go.Proofs.YtbeilgkogbcjjaaDoor
open Go.RowKit

set_option maxRecDepth 100000 in
set_option maxHeartbeats 4000000 in
theorem rewriteStays_walk (a0 : Option Addr) (len0 cap0 : Nat) (z0 : List Int) (a1 : Int) (w : World) (w0 : IsRow .i64 w a0 len0 cap0 z0) (w1 : (Lit.int .i64 a1).wf = true) (hmax : MaxL w) :
    Calls Tryd.prog 4 #[.slice a0 len0 cap0, .int .i64 a1] w fun e w' => e = .returned (.bool true) ∧ Below w.heap.size w w' := by
  obtain ⟨xs, h0⟩ := w0.list
  have hcap := w0.caps
  have hb1 := wf_i64 w1
  have H0 := Lib.hid h0
  have Hb1 := Lib.hid hb1
  clear h0 hb1
  clear w0 w1
  go_enter Tryd.func4, Tryd.ntmps4
  go_wp2_with fail
  with_reducible refine (rule_any a0 len0 cap0 xs _ H0.out hcap.1 hcap.2).mono ?_
  rintro e x1 ⟨sv, dv, rfl, hs, hd, hf1⟩
  obtain ⟨sa, sc, rfl, _⟩ := hs.shape
  obtain ⟨da, dc, rfl, _⟩ := hd.shape
  obtain ⟨ns, hns⟩ : ∃ n, n = (genH ((xs.drop 4).take 4)).length := ⟨_, rfl⟩
  obtain ⟨nd, hnd⟩ : ∃ n, n = (namesH ((xs.drop 8).take 6)).length := ⟨_, rfl⟩
  rw [← hns] at hs ⊢
  rw [← hnd] at hd ⊢
  have hgS := GoodL.gen ((xs.drop 4).take 4)
  generalize genH ((xs.drop 4).take 4) = SS at *
  generalize namesH ((xs.drop 8).take 6) = DD at *
  have hbo := ofZ_ok (numAt xs 0)
  have hbl := ofZ_len (numAt xs 0)
  have hpx := pfx_cases (numAt xs 3) (numAt xs 1)
  generalize ofZ (numAt xs 0) = b at *
  generalize decide (around (numAt xs 2) 4 = 1) = ex at *
  generalize pfxOf (numAt xs 3) (numAt xs 1) = pfx at *
  obtain ⟨mp, hmp⟩ : ∃ mp, mp = bs (pathOf b) := ⟨_, rfl⟩
  rw [← hmp]
  unfold ruleV ruleC
  have fa := (Frm.refl noB x1).alloc (.cells (ruleC mp ex pfx (.slice sa ns sc) (.slice da nd dc)) 35)
  have hB := Blk.made x1 (ruleC mp ex pfx (.slice sa ns sc) (.slice da nd dc)) 35
  unfold ruleC at fa hB
  have hs1 := hs.keep fa
  have hd1 := hd.keep fa
  have hf2 := hf1.trans fa
  have hm2 := hmax.keep hf2
  have Hs := Lib.hid hs
  have Hd := Lib.hid hd
  have Hf1 := Lib.hid hf1
  have Hns := Lib.hid hns
  have Hnd := Lib.hid hnd
  have Hmp := Lib.hid hmp
  have Hfa := Lib.hid fa
  have HB := Lib.hid hB
  have Hs1 := Lib.hid hs1
  have Hd1 := Lib.hid hd1
  have Hf2 := Lib.hid hf2
  have Hm2 := Lib.hid hm2
  have Hbo := Lib.hid hbo
  have Hbl := Lib.hid hbl
  have Hpx := Lib.hid hpx
  have HgS := Lib.hid hgS
  clear hs hd hf1 hns hnd hmp fa hB hs1 hd1 hf2 hm2 hbo hbl hpx hgS
  go_upto_region 2 with (refine wpl_store_new _ (by rfl) 35 _ _ (by rfl) _ (by rfl) (by first | rfl | simp) _ _ _ (by rfl) (by exact info_rule) (by rfl) (by kernel_rfl) ?_)
  generalize x1.alloc (.cells #[.string mp, .bool ex, .slice none 0 0, .slice none 0 0, .int .i64 0, .int .i64 0, .int .i64 0, .int .i64 0, .string pfx, .slice sa ns sc, .slice da nd dc, .int .i64 0, .int .i64 0, .int .i64 0, .int .i64 0, .int .i64 0, .int .i64 0, .int .i64 0, .int .i64 0] 35) = W at *
  have b0 := (HB.out.cell 0).trans (show _ = some (Value.string mp) from rfl)
  obtain ⟨Z1, hZ1⟩ : ∃ Z, Z = ofZ a1 := ⟨_, rfl⟩
  have ho1 := fun w => of_any a1 w Hb1.out.1 Hb1.out.2
  have hz1 := ofZ_ok a1
  have hl1 := ofZ_len a1
  rw [← hZ1] at ho1 hz1 hl1
  have hmps : mp.size ≤ 60 := by rw [Hmp.out, bs_size]; exact Hbl.out
  obtain ⟨q1, hq1⟩ : ∃ q, q = bs (pathOf Z1) := ⟨_, rfl⟩
  rw [← hq1] at ho1
  have hs1 : q1.size ≤ 60 := by rw [hq1, bs_size]; exact hl1
  have hsum : (9223372036854775807 < mp.size + q1.size) = False := by simp; omega
  obtain ⟨A, hA⟩ : ∃ A, A = mp ++ q1 := ⟨_, rfl⟩
  have hAs : A.size ≤ 200 := by rw [hA, ByteArray.size_append]; omega
  have Ho1 := Lib.hid ho1
  have Hz1 := Lib.hid hz1
  have Hl1 := Lib.hid hl1
  have HZ1 := Lib.hid hZ1
  have Hq1 := Lib.hid hq1
  have HAs := Lib.hid hAs
  have Hs1 := Lib.hid hs1
  have Hmps := Lib.hid hmps
  have HA := Lib.hid hA
  clear ho1 hz1 hl1 hZ1 hq1 hAs hs1 hmps hA
  have tok1 : True := trivial
  go_region_held3 (fun X => X.cell? ⟨x1.heap.size, 0, none⟩ = some (.string mp)) (first | (with_reducible assumption) | exact b0 | exact cell_frm ((Frm.refl noB _).alloc _) (fun h => h) c1)
    (first
      | (have _t := tok1; go_at_call 11; (with_reducible refine (Ho1.out _).mono ?_); rintro e y1 ⟨rfl, hg1⟩; have c0 := cell_frm hg1 (fun h => h) b0; clear tok1)
      | (go_at_call 11; (with_reducible refine (Ho1.out _).mono ?_); rintro e y2 ⟨rfl, hg2⟩; have c1 := cell_frm hg2 (fun h => h) c0))
  rw [← HA.out]
  clear hsum b0 c0 c1
  have hL := Blk.made y2 #[.string q1, .string A] 9
  have hy2 := ((Hf2.out.drew).trans hg1).trans hg2
  have hf3 := hy2.alloc (.cells #[.string q1, .string A] 9)
  have hB3 := (((HB.out.frm (Frm.refl noB W).drew (fun h => h)).frm hg1 (fun h => h)).frm hg2 (fun h => h)).alloc (.cells #[.string q1, .string A] 9)
  generalize y2.alloc (.cells #[.string q1, .string A] 9) = W3 at *
  have HL := Lib.hid hL
  have Hf3 := Lib.hid hf3
  have HB3 := Lib.hid hB3
  have Hy2 := Lib.hid hy2
  have Hg1 := Lib.hid hg1
  have Hg2 := Lib.hid hg2
  clear hL hf3 hB3 hy2 hg1 hg2
  have hpfs : pfx.size ≤ 1000 := by
    rcases Hpx.out with h | ⟨c, _, h, hl⟩
    · rw [← ba_len, h]; simp
    · rw [← ba_len, h]; omega
  have hpx2 : pfx.data.toList = [] ∨ ∃ c, PartsOk c ∧ pfx.data.toList = pathOf c := by
    rcases Hpx.out with h | ⟨c, hc, h, _⟩
    · exact .inl h
    · exact .inr ⟨c, hc, h⟩
  have hpx3 : pfx.data.toList.length ≤ 60 := by
    rcases Hpx.out with h | ⟨c, _, h, hl⟩
    · rw [h]; simp
    · rw [h]; exact hl
  have Hpfs := Lib.hid hpfs
  have Hpx2 := Lib.hid hpx2
  have Hpx3 := Lib.hid hpx3
  clear hpfs hpx2 hpx3
  go_wp2_with fail
  go_loopw [7] (fun i wr => ∃ k : Nat, k ≤ 2 ∧ i = .int .i64 k ∧ Blk wr y2.heap.size #[.string q1, .string A] 9 ∧ Blk wr x1.heap.size #[.string mp, .bool ex, .slice none 0 0, .slice none 0 0, .int .i64 0, .int .i64 0, .int .i64 0, .int .i64 0, .string pfx, .slice sa ns sc, .slice da nd dc, .int .i64 0, .int .i64 0, .int .i64 0, .int .i64 0, .int .i64 0, .int .i64 0, .int .i64 0, .int .i64 0] 35 ∧ Frm noB w wr) (fun i _ => 2 - (intOf i).toNat)
  case atStart => exact ⟨0, by omega, rfl, HL.out, HB3.out, Hf3.out⟩
  case round =>
    obtain ⟨k, hk, rfl, hL5, hR5, hf5⟩ := hrel
    obtain ⟨w5, hw5⟩ : ∃ W, W = wr := ⟨_, rfl⟩
    subst hw5
    by_cases hlt : k < 2
    · obtain ⟨x, hx, hxs⟩ : ∃ x, (#[.string q1, .string A] : Array Value)[k]? = some (.string x) ∧ x.size ≤ 300 := by
        have hc : k = 0 ∨ k = 1 := by omega
        rcases hc with rfl | rfl
        · exact ⟨q1, rfl, by have := Hs1.out; omega⟩
        · exact ⟨A, rfl, by have := HAs.out; omega⟩
      have c5 := (hL5.cell k).trans hx
      have i1 : (0 : Int) ≤ (k : Int) := by omega
      have i2 : (k : Int) < 2 := by omega
      have his := fun w h => path_any x w (by omega) h
      have hr1 := fun w h => rew_path_any b Hbo.out (by have := Hbl.out; omega) ex pfx Hpfs.out sa ns sc da nd dc x (by omega) w h
      have hon := fun w h => on_any mp ex none 0 0 x w (by omega) h
      have hst := fun h => rew_stays (b := b) (pfx := pfx.data.toList) (path := x.data.toList) (ex := ex) Hbo.out Hpx2.out Hpx3.out h
      have hoff := fun h => rew_off (b := b) (pfx := pfx.data.toList) (path := x.data.toList) (ex := ex) h
      have hexa := fun h => rew_exact (b := b) (pfx := pfx.data.toList) (path := x.data.toList) h
      have hPs : (bs (rewP pfx.data.toList b ex x.data.toList)).size ≤ 1000 := rew_small (by rw [ba_len]; have := Hpfs.out; omega) (by rw [ba_len]; omega)
      have hpP := fun w h => path_any (bs (rewP pfx.data.toList b ex x.data.toList)) w (by omega) h
      rw [bs_list] at hpP
      unfold ruleV ruleC at hr1
      rw [← Hmp.out] at hr1
      have hm5 := hmax.keep hf5
      cases hi : isPathL x.data.toList
      · rw [hi] at his
        have His := Lib.hid his
        have Hi := Lib.hid hi
        have Hr1 := Lib.hid hr1
        have Hxs := Lib.hid hxs
        have Hx := Lib.hid hx
        have HL5 := Lib.hid hL5
        have HR5 := Lib.hid hR5
        have Hf5 := Lib.hid hf5
        have Hon := Lib.hid hon
        have Hst := Lib.hid hst
        have Hoff := Lib.hid hoff
        have Hexa := Lib.hid hexa
        have HPs := Lib.hid hPs
        have HpP := Lib.hid hpP
        have Hm5 := Lib.hid hm5
        clear his hi hr1 hxs hx hL5 hR5 hf5 hon hst hoff hexa hPs hpP hm5
        go_wp2_with fail
        refine (His.out _ Hm5.out).mono ?_
        rintro e y5 ⟨rfl, hg5⟩
        have HL6 := Lib.hid (hg5)
        go_wp2_with fail
        go_roundw
        case rel => exact ⟨k + 1, by omega, by go_num, HL5.out.frm HL6.out (fun h => h), HR5.out.frm HL6.out (fun h => h), Hf5.out.trans HL6.out⟩
        case measure => simp [intOf]; omega
      · rw [hi] at his
        have hons : onL mp ex x = true ∨ onL mp ex x = false := by cases onL mp ex x <;> simp
        have hon0 : onL mp ex x = false → bs (rewP pfx.data.toList b ex x.data.toList) = x := fun h => by
          rw [hoff, bs_of]
          unfold onL at h
          rw [Hmp.out, bs_list] at h
          rw [← h]
          congr 1
          cases ex
          · rfl
          · rw [if_pos rfl, if_pos rfl]
            exact decide_eq_decide.2 ⟨fun e => by rw [e, bs_of], fun e => by rw [← e, bs_list]⟩
        have hon1 : ex = true → pfx.data.toList ≠ [] → onL mp ex x = true → bs (rewP pfx.data.toList b ex x.data.toList) = pfx := fun e1 h2 h => by
          subst e1
          rw [hexa h2, bs_of]
          unfold onL at h
          rw [Hmp.out, if_pos rfl] at h
          rw [← h]
          congr 1
          exact decide_eq_decide.2 ⟨fun e => by rw [e, bs_of], fun e => by rw [← e, bs_list]⟩
        rw [hst hi] at hpP
        generalize bs (rewP pfx.data.toList b ex x.data.toList) = P at *
        generalize onL mp ex x = ox at *
        have hR5' := hR5
        have hL5' := hL5
        have His := Lib.hid his
        have Hi := Lib.hid hi
        have Hr1 := Lib.hid hr1
        have Hxs := Lib.hid hxs
        have Hx := Lib.hid hx
        have HL5 := Lib.hid hL5
        have HR5 := Lib.hid hR5
        have Hf5 := Lib.hid hf5
        have Hon := Lib.hid hon
        have Hst := Lib.hid hst
        have Hoff := Lib.hid hoff
        have Hexa := Lib.hid hexa
        have HPs := Lib.hid hPs
        have HpP := Lib.hid hpP
        have Hm5 := Lib.hid hm5
        have Hon0 := Lib.hid hon0
        have Hon1 := Lib.hid hon1
        clear his hi hr1 hxs hx hL5 hR5 hf5 hon hst hoff hexa hPs hpP hm5 hon0 hon1
        go_wp2_with fail
        refine (His.out _ Hm5.out).mono ?_
        rintro e y5 ⟨rfl, hg5⟩
        have hm6 := Hm5.out.keep hg5
        have hR6 := hR5'.frm hg5 (fun h => h)
        have hL6 := hL5'.frm hg5 (fun h => h)
        have HF6 := Lib.hid hg5
        clear hR5' hL5' hg5 c5
        have Hm6 := Lib.hid hm6
        clear hm6
        go_upto_region 7 with fail
        refine wp_region_noPanic ?_
        refine wp_region_held_drew (S := fun X => Blk X x1.heap.size #[.string mp, .bool ex, .slice none 0 0, .slice none 0 0, .int .i64 0, .int .i64 0, .int .i64 0, .int .i64 0, .string pfx, .slice sa ns sc, .slice da nd dc, .int .i64 0, .int .i64 0, .int .i64 0, .int .i64 0, .int .i64 0, .int .i64 0, .int .i64 0, .int .i64 0] 35 ∧ Blk X y2.heap.size #[.string q1, .string A] 9) (by kernel_rfl) ?_ (fun hHeld => ?_)
        · refine ⟨?_, ?_⟩ <;> (repeat (first | assumption | ((with_reducible refine blk_new _ _ _ ?_); (first | (with_reducible rfl) | (simp; done))) | (with_reducible refine Blk.drew ?_) | (with_reducible refine Blk.alloc ?_ _) | (with_reducible refine Blk.frm ?_ (by assumption) (fun h => h))))
        refine takeD (i := 0) (some 30) (v := .agg (List.toArray (#[.string mp, .bool ex, .slice none 0 0, .slice none 0 0, .int .i64 0, .int .i64 0, .int .i64 0, .int .i64 0, .string pfx, .slice sa ns sc, .slice da nd dc, .int .i64 0, .int .i64 0, .int .i64 0, .int .i64 0, .int .i64 0, .int .i64 0, .int .i64 0, .int .i64 0] : Array Value).toList)) rfl rfl (by kernel_rfl) (by kernel_rfl) (by kernel_rfl) (fun _ _ _ h => h) (yieldsIf_load_mid (by kernel_rfl) 35 _ (by rfl) x1.heap.size 0 (by rfl) (#[.string mp, .bool ex, .slice none 0 0, .slice none 0 0, .int .i64 0, .int .i64 0, .int .i64 0, .int .i64 0, .string pfx, .slice sa ns sc, .slice da nd dc, .int .i64 0, .int .i64 0, .int .i64 0, .int .i64 0, .int .i64 0, .int .i64 0, .int .i64 0, .int .i64 0] : Array Value).toList _ (fun w h => blk_range h.1) Tryd.underlying35 rfl (by exact info_rule)) (by assumption) ?_
        (try dsimp only [Act.put]); try simp only [Act.put, List.setIfInBounds_toArray, List.set_cons_zero, List.set_cons_succ]
        refine takeD (i := 1) (some 31) (v := ?_) rfl rfl (by kernel_rfl) (by kernel_rfl) (by kernel_rfl) (fun _ _ _ h => h) (Or.inl ⟨by kernel_rfl, ?_⟩) (by assumption) ?_
        rotate_left
        · (intro w hSw; (try dsimp only at hSw); have hQc := (hSw.2.cell k).trans Hx.out; have hQ0 := (hSw.1.cell 0).trans (show _ = some (Value.string mp) from rfl); have hQ1 := (hSw.1.cell 1).trans (show _ = some (Value.bool ex) from rfl); have hQ2 := (hSw.1.cell 2).trans (show _ = some (Value.slice none 0 0) from rfl); have hQ8 := (hSw.1.cell 8).trans (show _ = some (Value.string pfx) from rfl); go_simp; try (with_reducible rfl))
        (try dsimp only [Act.put]); try simp only [Act.put, List.setIfInBounds_toArray, List.set_cons_zero, List.set_cons_succ]
        refine takeD (i := 2) (some 32) (v := ?_) rfl rfl (by kernel_rfl) (by kernel_rfl) (by kernel_rfl) (fun _ _ _ h => h) (Or.inl ⟨by kernel_rfl, ?_⟩) (by assumption) ?_
        rotate_left
        · (intro w hSw; (try dsimp only at hSw); have hQc := (hSw.2.cell k).trans Hx.out; have hQ0 := (hSw.1.cell 0).trans (show _ = some (Value.string mp) from rfl); have hQ1 := (hSw.1.cell 1).trans (show _ = some (Value.bool ex) from rfl); have hQ2 := (hSw.1.cell 2).trans (show _ = some (Value.slice none 0 0) from rfl); have hQ8 := (hSw.1.cell 8).trans (show _ = some (Value.string pfx) from rfl); go_simp; try (with_reducible rfl))
        (try dsimp only [Act.put]); try simp only [Act.put, List.setIfInBounds_toArray, List.set_cons_zero, List.set_cons_succ]
        refine takeD (i := 3) (some 33) (v := ?_) rfl rfl (by kernel_rfl) (by kernel_rfl) (by kernel_rfl) (fun _ _ _ h => h) (Or.inl ⟨by kernel_rfl, ?_⟩) (by assumption) ?_
        rotate_left
        · (intro w hSw; (try dsimp only at hSw); have hQc := (hSw.2.cell k).trans Hx.out; have hQ0 := (hSw.1.cell 0).trans (show _ = some (Value.string mp) from rfl); have hQ1 := (hSw.1.cell 1).trans (show _ = some (Value.bool ex) from rfl); have hQ2 := (hSw.1.cell 2).trans (show _ = some (Value.slice none 0 0) from rfl); have hQ8 := (hSw.1.cell 8).trans (show _ = some (Value.string pfx) from rfl); go_simp; try (with_reducible rfl))
        (try dsimp only [Act.put]); try simp only [Act.put, List.setIfInBounds_toArray, List.set_cons_zero, List.set_cons_succ]
        refine takeD (i := 4) (some 34) (v := ?_) rfl rfl (by kernel_rfl) (by kernel_rfl) (by kernel_rfl) (fun _ _ _ h => h) (Or.inl ⟨by kernel_rfl, ?_⟩) (by assumption) ?_
        rotate_left
        · (intro w hSw; (try dsimp only at hSw); have hQc := (hSw.2.cell k).trans Hx.out; have hQ0 := (hSw.1.cell 0).trans (show _ = some (Value.string mp) from rfl); have hQ1 := (hSw.1.cell 1).trans (show _ = some (Value.bool ex) from rfl); have hQ2 := (hSw.1.cell 2).trans (show _ = some (Value.slice none 0 0) from rfl); have hQ8 := (hSw.1.cell 8).trans (show _ = some (Value.string pfx) from rfl); go_simp; try (with_reducible rfl))
        (try dsimp only [Act.put]); try simp only [Act.put, List.setIfInBounds_toArray, List.set_cons_zero, List.set_cons_succ]
        refine wpAnyH_ready (rs := [5]) (by kernel_rfl) (by simp) ?_
        refine AllReadyH.cons rfl (fun K hK => ?_) ?_
        · go_simp
          refine (Hr1.out _ ?_).mono ?_
          · exact Hm6.out.keep (Frm.refl noB _).drew
          rintro e z1 ⟨rfl, hg1⟩
          go_wp2_with fail
          refine hK.out _ _ ?_ (fun hHeld => ?_)
          · refine ⟨?_, ?_⟩ <;> (repeat (first | assumption | ((with_reducible refine blk_new _ _ _ ?_); (first | (with_reducible rfl) | (simp; done))) | (with_reducible refine Blk.drew ?_) | (with_reducible refine Blk.alloc ?_ _) | (with_reducible refine Blk.frm ?_ (by assumption) (fun h => h))))
          clear hK K
          (try dsimp only [Act.put]); try simp only [Act.put, List.setIfInBounds_toArray, List.set_cons_zero, List.set_cons_succ]
          refine takeD (i := 6) (some 8) (v := ?_) rfl rfl (by kernel_rfl) (by kernel_rfl) (by kernel_rfl) (fun _ _ _ h => h) (Or.inl ⟨by kernel_rfl, ?_⟩) (by assumption) ?_
          rotate_left
          · (intro w hSw; (try dsimp only at hSw); have hQc := (hSw.2.cell k).trans Hx.out; have hQ0 := (hSw.1.cell 0).trans (show _ = some (Value.string mp) from rfl); have hQ1 := (hSw.1.cell 1).trans (show _ = some (Value.bool ex) from rfl); have hQ2 := (hSw.1.cell 2).trans (show _ = some (Value.slice none 0 0) from rfl); have hQ8 := (hSw.1.cell 8).trans (show _ = some (Value.string pfx) from rfl); go_simp; try (with_reducible rfl))
          (try dsimp only [Act.put]); try simp only [Act.put, List.setIfInBounds_toArray, List.set_cons_zero, List.set_cons_succ]
          refine wpAnyH_done (by kernel_rfl) ?_ _
          refine NoPanic.normal ?_
          have HF7 := Lib.hid ((HF6.out.drew).trans hg1)
          have hm7 := Hm6.out.keep (((Frm.refl noB _).drew).trans hg1)
          have hR7 := hR6.frm (((Frm.refl noB _).drew).trans hg1) (fun h => h)
          have hL7 := hL6.frm (((Frm.refl noB _).drew).trans hg1) (fun h => h)
          clear hR6 hL6 hg1 hHeld
          have Hm7 := Lib.hid hm7
          clear hm7
          go_upto_region 8 with fail
          rcases hons with rfl | rfl
          · skip
          
            refine wp_region_noPanic ?_
            refine wp_region_held_drew (S := fun X => Blk X x1.heap.size #[.string mp, .bool ex, .slice none 0 0, .slice none 0 0, .int .i64 0, .int .i64 0, .int .i64 0, .int .i64 0, .string pfx, .slice sa ns sc, .slice da nd dc, .int .i64 0, .int .i64 0, .int .i64 0, .int .i64 0, .int .i64 0, .int .i64 0, .int .i64 0, .int .i64 0] 35 ∧ Blk X y2.heap.size #[.string q1, .string A] 9) (by kernel_rfl) ?_ (fun hHeld => ?_)
            · refine ⟨?_, ?_⟩ <;> (repeat (first | assumption | ((with_reducible refine blk_new _ _ _ ?_); (first | (with_reducible rfl) | (simp; done))) | (with_reducible refine Blk.drew ?_) | (with_reducible refine Blk.alloc ?_ _) | (with_reducible refine Blk.frm ?_ (by assumption) (fun h => h))))
            refine takeD (i := 0) (some 36) (v := ?_) rfl rfl (by kernel_rfl) (by kernel_rfl) (by kernel_rfl) (fun _ _ _ h => h) (Or.inl ⟨by kernel_rfl, ?_⟩) (by assumption) ?_
            rotate_left
            · (intro w hSw; (try dsimp only at hSw); have hQc := (hSw.2.cell k).trans Hx.out; have hQ0 := (hSw.1.cell 0).trans (show _ = some (Value.string mp) from rfl); have hQ1 := (hSw.1.cell 1).trans (show _ = some (Value.bool ex) from rfl); have hQ2 := (hSw.1.cell 2).trans (show _ = some (Value.slice none 0 0) from rfl); have hQ8 := (hSw.1.cell 8).trans (show _ = some (Value.string pfx) from rfl); go_simp; try (with_reducible rfl))
            (try dsimp only [Act.put]); try simp only [Act.put, List.setIfInBounds_toArray, List.set_cons_zero, List.set_cons_succ]
            refine wpAnyH_ready (rs := [1]) (by kernel_rfl) (by simp) ?_
            refine AllReadyH.cons rfl (fun K hK => ?_) ?_
            · go_simp
              refine (HpP.out _ ?_).mono ?_
              · exact Hm7.out.keep (Frm.refl noB _).drew
              rintro e z2 ⟨rfl, hg2⟩
              go_wp2_with fail
              refine hK.out _ _ ?_ (fun hHeld => ?_)
              · refine ⟨?_, ?_⟩ <;> (repeat (first | assumption | ((with_reducible refine blk_new _ _ _ ?_); (first | (with_reducible rfl) | (simp; done))) | (with_reducible refine Blk.drew ?_) | (with_reducible refine Blk.alloc ?_ _) | (with_reducible refine Blk.frm ?_ (by assumption) (fun h => h))))
              clear hK K
              (try dsimp only [Act.put]); try simp only [Act.put, List.setIfInBounds_toArray, List.set_cons_zero, List.set_cons_succ]
              refine takeD (i := 2) (some 38) (v := ?_) rfl rfl (by kernel_rfl) (by kernel_rfl) (by kernel_rfl) (fun _ _ _ h => h) (Or.inl ⟨by kernel_rfl, ?_⟩) (by assumption) ?_
              rotate_left
              · (intro w hSw; (try dsimp only at hSw); have hQc := (hSw.2.cell k).trans Hx.out; have hQ0 := (hSw.1.cell 0).trans (show _ = some (Value.string mp) from rfl); have hQ1 := (hSw.1.cell 1).trans (show _ = some (Value.bool ex) from rfl); have hQ2 := (hSw.1.cell 2).trans (show _ = some (Value.slice none 0 0) from rfl); have hQ8 := (hSw.1.cell 8).trans (show _ = some (Value.string pfx) from rfl); go_simp; try (with_reducible rfl))
              (try dsimp only [Act.put]); try simp only [Act.put, List.setIfInBounds_toArray, List.set_cons_zero, List.set_cons_succ]
              refine takeD (i := 3) (some 39) (v := ?_) rfl rfl (by kernel_rfl) (by kernel_rfl) (by kernel_rfl) (fun _ _ _ h => h) (Or.inl ⟨by kernel_rfl, ?_⟩) (by assumption) ?_
              rotate_left
              · (intro w hSw; (try dsimp only at hSw); have hQc := (hSw.2.cell k).trans Hx.out; have hQ0 := (hSw.1.cell 0).trans (show _ = some (Value.string mp) from rfl); have hQ1 := (hSw.1.cell 1).trans (show _ = some (Value.bool ex) from rfl); have hQ2 := (hSw.1.cell 2).trans (show _ = some (Value.slice none 0 0) from rfl); have hQ8 := (hSw.1.cell 8).trans (show _ = some (Value.string pfx) from rfl); go_simp; try (with_reducible rfl))
              (try dsimp only [Act.put]); try simp only [Act.put, List.setIfInBounds_toArray, List.set_cons_zero, List.set_cons_succ]
              refine takeD (i := 4) (some 40) (v := ?_) rfl rfl (by kernel_rfl) (by kernel_rfl) (by kernel_rfl) (fun _ _ _ h => h) (Or.inl ⟨by kernel_rfl, ?_⟩) (by assumption) ?_
              rotate_left
              · (intro w hSw; (try dsimp only at hSw); have hQc := (hSw.2.cell k).trans Hx.out; have hQ0 := (hSw.1.cell 0).trans (show _ = some (Value.string mp) from rfl); have hQ1 := (hSw.1.cell 1).trans (show _ = some (Value.bool ex) from rfl); have hQ2 := (hSw.1.cell 2).trans (show _ = some (Value.slice none 0 0) from rfl); have hQ8 := (hSw.1.cell 8).trans (show _ = some (Value.string pfx) from rfl); go_simp; try (with_reducible rfl))
              (try dsimp only [Act.put]); try simp only [Act.put, List.setIfInBounds_toArray, List.set_cons_zero, List.set_cons_succ]
              refine takeD (i := 5) (some 41) (v := ?_) rfl rfl (by kernel_rfl) (by kernel_rfl) (by kernel_rfl) (fun _ _ _ h => h) (Or.inl ⟨by kernel_rfl, ?_⟩) (by assumption) ?_
              rotate_left
              · (intro w hSw; (try dsimp only at hSw); have hQc := (hSw.2.cell k).trans Hx.out; have hQ0 := (hSw.1.cell 0).trans (show _ = some (Value.string mp) from rfl); have hQ1 := (hSw.1.cell 1).trans (show _ = some (Value.bool ex) from rfl); have hQ2 := (hSw.1.cell 2).trans (show _ = some (Value.slice none 0 0) from rfl); have hQ8 := (hSw.1.cell 8).trans (show _ = some (Value.string pfx) from rfl); go_simp; try (with_reducible rfl))
              (try dsimp only [Act.put]); try simp only [Act.put, List.setIfInBounds_toArray, List.set_cons_zero, List.set_cons_succ]
              refine takeD (i := 6) (some 42) (v := ?_) rfl rfl (by kernel_rfl) (by kernel_rfl) (by kernel_rfl) (fun _ _ _ h => h) (Or.inl ⟨by kernel_rfl, ?_⟩) (by assumption) ?_
              rotate_left
              · (intro w hSw; (try dsimp only at hSw); have hQc := (hSw.2.cell k).trans Hx.out; have hQ0 := (hSw.1.cell 0).trans (show _ = some (Value.string mp) from rfl); have hQ1 := (hSw.1.cell 1).trans (show _ = some (Value.bool ex) from rfl); have hQ2 := (hSw.1.cell 2).trans (show _ = some (Value.slice none 0 0) from rfl); have hQ8 := (hSw.1.cell 8).trans (show _ = some (Value.string pfx) from rfl); go_simp; try (with_reducible rfl))
              (try dsimp only [Act.put]); try simp only [Act.put, List.setIfInBounds_toArray, List.set_cons_zero, List.set_cons_succ]
              refine takeD (i := 7) (some 43) (v := ?_) rfl rfl (by kernel_rfl) (by kernel_rfl) (by kernel_rfl) (fun _ _ _ h => h) (Or.inl ⟨by kernel_rfl, ?_⟩) (by assumption) ?_
              rotate_left
              · (intro w hSw; (try dsimp only at hSw); have hQc := (hSw.2.cell k).trans Hx.out; have hQ0 := (hSw.1.cell 0).trans (show _ = some (Value.string mp) from rfl); have hQ1 := (hSw.1.cell 1).trans (show _ = some (Value.bool ex) from rfl); have hQ2 := (hSw.1.cell 2).trans (show _ = some (Value.slice none 0 0) from rfl); have hQ8 := (hSw.1.cell 8).trans (show _ = some (Value.string pfx) from rfl); go_simp; try (with_reducible rfl))
              (try dsimp only [Act.put]); try simp only [Act.put, List.setIfInBounds_toArray, List.set_cons_zero, List.set_cons_succ]
              refine takeD (i := 8) (some 44) (v := ?_) rfl rfl (by kernel_rfl) (by kernel_rfl) (by kernel_rfl) (fun _ _ _ h => h) (Or.inl ⟨by kernel_rfl, ?_⟩) (by assumption) ?_
              rotate_left
              · (intro w hSw; (try dsimp only at hSw); have hQc := (hSw.2.cell k).trans Hx.out; have hQ0 := (hSw.1.cell 0).trans (show _ = some (Value.string mp) from rfl); have hQ1 := (hSw.1.cell 1).trans (show _ = some (Value.bool ex) from rfl); have hQ2 := (hSw.1.cell 2).trans (show _ = some (Value.slice none 0 0) from rfl); have hQ8 := (hSw.1.cell 8).trans (show _ = some (Value.string pfx) from rfl); go_simp; try (with_reducible rfl))
              (try dsimp only [Act.put]); try simp only [Act.put, List.setIfInBounds_toArray, List.set_cons_zero, List.set_cons_succ]
              refine takeD (i := 9) (some 45) (v := ?_) rfl rfl (by kernel_rfl) (by kernel_rfl) (by kernel_rfl) (fun _ _ _ h => h) (Or.inl ⟨by kernel_rfl, ?_⟩) (by assumption) ?_
              rotate_left
              · (intro w hSw; (try dsimp only at hSw); have hQc := (hSw.2.cell k).trans Hx.out; have hQ0 := (hSw.1.cell 0).trans (show _ = some (Value.string mp) from rfl); have hQ1 := (hSw.1.cell 1).trans (show _ = some (Value.bool ex) from rfl); have hQ2 := (hSw.1.cell 2).trans (show _ = some (Value.slice none 0 0) from rfl); have hQ8 := (hSw.1.cell 8).trans (show _ = some (Value.string pfx) from rfl); go_simp; try (with_reducible rfl))
              (try dsimp only [Act.put]); try simp only [Act.put, List.setIfInBounds_toArray, List.set_cons_zero, List.set_cons_succ]
              refine wpAnyH_ready (rs := [10]) (by kernel_rfl) (by simp) ?_
              refine AllReadyH.cons rfl (fun K hK => ?_) ?_
              · go_simp
                refine (Hon.out _ ?_).mono ?_
                · exact (Hm7.out.keep (Frm.refl noB _).drew).keep hg2
                rintro e z3 ⟨rfl, hg3⟩
                go_wp2_with fail
                refine hK.out _ _ ?_ (fun hHeld => ?_)
                · refine ⟨?_, ?_⟩ <;> (repeat (first | assumption | ((with_reducible refine blk_new _ _ _ ?_); (first | (with_reducible rfl) | (simp; done))) | (with_reducible refine Blk.drew ?_) | (with_reducible refine Blk.alloc ?_ _) | (with_reducible refine Blk.frm ?_ (by assumption) (fun h => h))))
                clear hK K
                (try dsimp only [Act.put]); try simp only [Act.put, List.setIfInBounds_toArray, List.set_cons_zero, List.set_cons_succ]
                refine takeD (i := 11) (some 47) (v := ?_) rfl rfl (by kernel_rfl) (by kernel_rfl) (by kernel_rfl) (fun _ _ _ h => h) (Or.inl ⟨by kernel_rfl, ?_⟩) (by assumption) ?_
                rotate_left
                · (intro w hSw; (try dsimp only at hSw); have hQc := (hSw.2.cell k).trans Hx.out; have hQ0 := (hSw.1.cell 0).trans (show _ = some (Value.string mp) from rfl); have hQ1 := (hSw.1.cell 1).trans (show _ = some (Value.bool ex) from rfl); have hQ2 := (hSw.1.cell 2).trans (show _ = some (Value.slice none 0 0) from rfl); have hQ8 := (hSw.1.cell 8).trans (show _ = some (Value.string pfx) from rfl); go_simp; try (with_reducible rfl))
                (try dsimp only [Act.put]); try simp only [Act.put, List.setIfInBounds_toArray, List.set_cons_zero, List.set_cons_succ]
                refine takeD (i := 12) (some 48) (v := ?_) rfl rfl (by kernel_rfl) (by kernel_rfl) (by kernel_rfl) (fun _ _ _ h => h) (Or.inl ⟨by kernel_rfl, ?_⟩) (by assumption) ?_
                rotate_left
                · (intro w hSw; (try dsimp only at hSw); have hQc := (hSw.2.cell k).trans Hx.out; have hQ0 := (hSw.1.cell 0).trans (show _ = some (Value.string mp) from rfl); have hQ1 := (hSw.1.cell 1).trans (show _ = some (Value.bool ex) from rfl); have hQ2 := (hSw.1.cell 2).trans (show _ = some (Value.slice none 0 0) from rfl); have hQ8 := (hSw.1.cell 8).trans (show _ = some (Value.string pfx) from rfl); go_simp; try (with_reducible rfl))
                (try dsimp only [Act.put]); try simp only [Act.put, List.setIfInBounds_toArray, List.set_cons_zero, List.set_cons_succ]
                refine takeD (i := 13) (some 49) (v := undef) rfl rfl (by kernel_rfl) (by kernel_rfl) (by kernel_rfl) (fun _ _ _ h => h) (Or.inr ⟨by kernel_rfl, by kernel_rfl⟩) (by assumption) ?_
                (try dsimp only [Act.put]); try simp only [Act.put, List.setIfInBounds_toArray, List.set_cons_zero, List.set_cons_succ]
                refine takeD (i := 14) (some 50) (v := undef) rfl rfl (by kernel_rfl) (by kernel_rfl) (by kernel_rfl) (fun _ _ _ h => h) (Or.inr ⟨by kernel_rfl, by kernel_rfl⟩) (by assumption) ?_
                (try dsimp only [Act.put]); try simp only [Act.put, List.setIfInBounds_toArray, List.set_cons_zero, List.set_cons_succ]
                refine takeD (i := 15) (some 51) (v := undef) rfl rfl (by kernel_rfl) (by kernel_rfl) (by kernel_rfl) (fun _ _ _ h => h) (Or.inr ⟨by kernel_rfl, by kernel_rfl⟩) (by assumption) ?_
                (try dsimp only [Act.put]); try simp only [Act.put, List.setIfInBounds_toArray, List.set_cons_zero, List.set_cons_succ]
                refine takeD (i := 16) (some 52) (v := undef) rfl rfl (by kernel_rfl) (by kernel_rfl) (by kernel_rfl) (fun _ _ _ h => h) (Or.inr ⟨by kernel_rfl, by kernel_rfl⟩) (by assumption) ?_
                (try dsimp only [Act.put]); try simp only [Act.put, List.setIfInBounds_toArray, List.set_cons_zero, List.set_cons_succ]
                refine takeD (i := 17) (some 53) (v := undef) rfl rfl (by kernel_rfl) (by kernel_rfl) (by kernel_rfl) (fun _ _ _ h => h) (Or.inr ⟨by kernel_rfl, by kernel_rfl⟩) (by assumption) ?_
                (try dsimp only [Act.put]); try simp only [Act.put, List.setIfInBounds_toArray, List.set_cons_zero, List.set_cons_succ]
                refine takeD (i := 18) (some 54) (v := undef) rfl rfl (by kernel_rfl) (by kernel_rfl) (by kernel_rfl) (fun _ _ _ h => h) (Or.inr ⟨by kernel_rfl, by kernel_rfl⟩) (by assumption) ?_
                (try dsimp only [Act.put]); try simp only [Act.put, List.setIfInBounds_toArray, List.set_cons_zero, List.set_cons_succ]
                refine takeD (i := 19) (some 55) (v := ?_) rfl rfl (by kernel_rfl) (by kernel_rfl) (by kernel_rfl) (fun _ _ _ h => h) (Or.inl ⟨by kernel_rfl, ?_⟩) (by assumption) ?_
                rotate_left
                · (intro w hSw; (try dsimp only at hSw); have hQc := (hSw.2.cell k).trans Hx.out; have hQ0 := (hSw.1.cell 0).trans (show _ = some (Value.string mp) from rfl); have hQ1 := (hSw.1.cell 1).trans (show _ = some (Value.bool ex) from rfl); have hQ2 := (hSw.1.cell 2).trans (show _ = some (Value.slice none 0 0) from rfl); have hQ8 := (hSw.1.cell 8).trans (show _ = some (Value.string pfx) from rfl); go_simp; try (with_reducible rfl))
                (try dsimp only [Act.put]); try simp only [Act.put, List.setIfInBounds_toArray, List.set_cons_zero, List.set_cons_succ]
                refine takeD (i := 20) (some 56) (v := ?_) rfl rfl (by kernel_rfl) (by kernel_rfl) (by kernel_rfl) (fun _ _ _ h => h) (Or.inl ⟨by kernel_rfl, ?_⟩) (by assumption) ?_
                rotate_left
                · (intro w hSw; (try dsimp only at hSw); have hQc := (hSw.2.cell k).trans Hx.out; have hQ0 := (hSw.1.cell 0).trans (show _ = some (Value.string mp) from rfl); have hQ1 := (hSw.1.cell 1).trans (show _ = some (Value.bool ex) from rfl); have hQ2 := (hSw.1.cell 2).trans (show _ = some (Value.slice none 0 0) from rfl); have hQ8 := (hSw.1.cell 8).trans (show _ = some (Value.string pfx) from rfl); go_simp; try (with_reducible rfl))
                (try dsimp only [Act.put]); try simp only [Act.put, List.setIfInBounds_toArray, List.set_cons_zero, List.set_cons_succ]
                refine wpAnyH_done (by kernel_rfl) ?_ _
                refine NoPanic.normal ?_
                have HF8 := Lib.hid (((HF7.out.drew).trans hg2).trans hg3)
                have hm8 := (Hm7.out.keep (((Frm.refl noB _).drew).trans hg2)).keep hg3
                have hR8 := hR7.frm ((((Frm.refl noB _).drew).trans hg2).trans hg3) (fun h => h)
                have hL8 := hL7.frm ((((Frm.refl noB _).drew).trans hg2).trans hg3) (fun h => h)
                clear hR7 hL7 hg2 hg3 hHeld
                have Hm8 := Lib.hid hm8
                clear hm8
                go_upto_region 10 with fail
                cases ex
                · have hQ1 := (hR8.cell 1).trans (show _ = some (Value.bool false) from rfl)
                  have hQ8 := (hR8.cell 8).trans (show _ = some (Value.string pfx) from rfl)
                  go_quiet (fail)
                  clear hQ1 hQ8
                  go_wp2_with fail
                  go_roundw
                  case rel => exact ⟨k + 1, by omega, by go_num, HL5.out.frm (HF8.out.drewN _) (fun h => h), HR5.out.frm (HF8.out.drewN _) (fun h => h), Hf5.out.trans (HF8.out.drewN _)⟩
                  case measure => simp [intOf]; omega
                by_cases hp0 : pfx.data.toList = []
                · have t1 : pfx.toList.isEmpty = true := empty_yes hp0
                  have t2 : pfx.toList = [] := by rw [ByteArray.toList_eq]; exact hp0
                  have Hp0 := Lib.hid hp0
                  clear hp0
                  have hQ1 := (hR8.cell 1).trans (show _ = some (Value.bool true) from rfl)
                  have hQ8 := (hR8.cell 8).trans (show _ = some (Value.string pfx) from rfl)
                  go_quiet (fail)
                  clear hQ1 hQ8
                  go_wp2_with fail
                  go_roundw
                  case rel => exact ⟨k + 1, by omega, by go_num, HL5.out.frm (HF8.out.drewN _) (fun h => h), HR5.out.frm (HF8.out.drewN _) (fun h => h), Hf5.out.trans (HF8.out.drewN _)⟩
                  case measure => simp [intOf]; omega
                have t1 := empty_test hp0
                have t2 : ¬ pfx.toList = [] := by rw [ByteArray.toList_eq]; exact hp0
                have hPp := (Hon1.out (by simp) hp0 (by simp)).symm
                subst hPp
                have Hp0 := Lib.hid hp0
                clear hp0
                refine wp_region_noPanic ?_
                refine wp_region_held_drew (S := fun X => Blk X x1.heap.size #[.string mp, .bool true, .slice none 0 0, .slice none 0 0, .int .i64 0, .int .i64 0, .int .i64 0, .int .i64 0, .string pfx, .slice sa ns sc, .slice da nd dc, .int .i64 0, .int .i64 0, .int .i64 0, .int .i64 0, .int .i64 0, .int .i64 0, .int .i64 0, .int .i64 0] 35 ∧ Blk X y2.heap.size #[.string q1, .string A] 9) (by kernel_rfl) ?_ (fun hHeld => ?_)
                · refine ⟨?_, ?_⟩ <;> (repeat (first | assumption | ((with_reducible refine blk_new _ _ _ ?_); (first | (with_reducible rfl) | (simp; done))) | (with_reducible refine Blk.drew ?_) | (with_reducible refine Blk.alloc ?_ _) | (with_reducible refine Blk.frm ?_ (by assumption) (fun h => h))))
                refine takeD (i := 0) (some 57) (v := ?_) rfl rfl (by kernel_rfl) (by kernel_rfl) (by kernel_rfl) (fun _ _ _ h => h) (Or.inl ⟨by kernel_rfl, ?_⟩) (by assumption) ?_
                rotate_left
                · (intro w hSw; (try dsimp only at hSw); have hQc := (hSw.2.cell k).trans Hx.out; have hQ0 := (hSw.1.cell 0).trans (show _ = some (Value.string mp) from rfl); have hQ1 := (hSw.1.cell 1).trans (show _ = some (Value.bool true) from rfl); have hQ2 := (hSw.1.cell 2).trans (show _ = some (Value.slice none 0 0) from rfl); have hQ8 := (hSw.1.cell 8).trans (show _ = some (Value.string pfx) from rfl); go_simp; try (with_reducible rfl))
                (try dsimp only [Act.put]); try simp only [Act.put, List.setIfInBounds_toArray, List.set_cons_zero, List.set_cons_succ]
                refine takeD (i := 1) (some 58) (v := ?_) rfl rfl (by kernel_rfl) (by kernel_rfl) (by kernel_rfl) (fun _ _ _ h => h) (Or.inl ⟨by kernel_rfl, ?_⟩) (by assumption) ?_
                rotate_left
                · (intro w hSw; (try dsimp only at hSw); have hQc := (hSw.2.cell k).trans Hx.out; have hQ0 := (hSw.1.cell 0).trans (show _ = some (Value.string mp) from rfl); have hQ1 := (hSw.1.cell 1).trans (show _ = some (Value.bool true) from rfl); have hQ2 := (hSw.1.cell 2).trans (show _ = some (Value.slice none 0 0) from rfl); have hQ8 := (hSw.1.cell 8).trans (show _ = some (Value.string pfx) from rfl); go_simp; try (with_reducible rfl))
                (try dsimp only [Act.put]); try simp only [Act.put, List.setIfInBounds_toArray, List.set_cons_zero, List.set_cons_succ]
                refine takeD (i := 2) (some 59) (v := ?_) rfl rfl (by kernel_rfl) (by kernel_rfl) (by kernel_rfl) (fun _ _ _ h => h) (Or.inl ⟨by kernel_rfl, ?_⟩) (by assumption) ?_
                rotate_left
                · (intro w hSw; (try dsimp only at hSw); have hQc := (hSw.2.cell k).trans Hx.out; have hQ0 := (hSw.1.cell 0).trans (show _ = some (Value.string mp) from rfl); have hQ1 := (hSw.1.cell 1).trans (show _ = some (Value.bool true) from rfl); have hQ2 := (hSw.1.cell 2).trans (show _ = some (Value.slice none 0 0) from rfl); have hQ8 := (hSw.1.cell 8).trans (show _ = some (Value.string pfx) from rfl); go_simp; try (with_reducible rfl))
                (try dsimp only [Act.put]); try simp only [Act.put, List.setIfInBounds_toArray, List.set_cons_zero, List.set_cons_succ]
                refine takeD (i := 3) (some 60) (v := ?_) rfl rfl (by kernel_rfl) (by kernel_rfl) (by kernel_rfl) (fun _ _ _ h => h) (Or.inl ⟨by kernel_rfl, ?_⟩) (by assumption) ?_
                rotate_left
                · (intro w hSw; (try dsimp only at hSw); have hQc := (hSw.2.cell k).trans Hx.out; have hQ0 := (hSw.1.cell 0).trans (show _ = some (Value.string mp) from rfl); have hQ1 := (hSw.1.cell 1).trans (show _ = some (Value.bool true) from rfl); have hQ2 := (hSw.1.cell 2).trans (show _ = some (Value.slice none 0 0) from rfl); have hQ8 := (hSw.1.cell 8).trans (show _ = some (Value.string pfx) from rfl); go_simp; try (with_reducible rfl))
                (try dsimp only [Act.put]); try simp only [Act.put, List.setIfInBounds_toArray, List.set_cons_zero, List.set_cons_succ]
                refine takeD (i := 4) (some 61) (v := ?_) rfl rfl (by kernel_rfl) (by kernel_rfl) (by kernel_rfl) (fun _ _ _ h => h) (Or.inl ⟨by kernel_rfl, ?_⟩) (by assumption) ?_
                rotate_left
                · (intro w hSw; (try dsimp only at hSw); have hQc := (hSw.2.cell k).trans Hx.out; have hQ0 := (hSw.1.cell 0).trans (show _ = some (Value.string mp) from rfl); have hQ1 := (hSw.1.cell 1).trans (show _ = some (Value.bool true) from rfl); have hQ2 := (hSw.1.cell 2).trans (show _ = some (Value.slice none 0 0) from rfl); have hQ8 := (hSw.1.cell 8).trans (show _ = some (Value.string pfx) from rfl); go_simp; try (with_reducible rfl))
                (try dsimp only [Act.put]); try simp only [Act.put, List.setIfInBounds_toArray, List.set_cons_zero, List.set_cons_succ]
                refine takeD (i := 5) (some 62) (v := ?_) rfl rfl (by kernel_rfl) (by kernel_rfl) (by kernel_rfl) (fun _ _ _ h => h) (Or.inl ⟨by kernel_rfl, ?_⟩) (by assumption) ?_
                rotate_left
                · (intro w hSw; (try dsimp only at hSw); have hQc := (hSw.2.cell k).trans Hx.out; have hQ0 := (hSw.1.cell 0).trans (show _ = some (Value.string mp) from rfl); have hQ1 := (hSw.1.cell 1).trans (show _ = some (Value.bool true) from rfl); have hQ2 := (hSw.1.cell 2).trans (show _ = some (Value.slice none 0 0) from rfl); have hQ8 := (hSw.1.cell 8).trans (show _ = some (Value.string pfx) from rfl); go_simp; try (with_reducible rfl))
                (try dsimp only [Act.put]); try simp only [Act.put, List.setIfInBounds_toArray, List.set_cons_zero, List.set_cons_succ]
                refine takeD (i := 6) (some 63) (v := ?_) rfl rfl (by kernel_rfl) (by kernel_rfl) (by kernel_rfl) (fun _ _ _ h => h) (Or.inl ⟨by kernel_rfl, ?_⟩) (by assumption) ?_
                rotate_left
                · (intro w hSw; (try dsimp only at hSw); have hQc := (hSw.2.cell k).trans Hx.out; have hQ0 := (hSw.1.cell 0).trans (show _ = some (Value.string mp) from rfl); have hQ1 := (hSw.1.cell 1).trans (show _ = some (Value.bool true) from rfl); have hQ2 := (hSw.1.cell 2).trans (show _ = some (Value.slice none 0 0) from rfl); have hQ8 := (hSw.1.cell 8).trans (show _ = some (Value.string pfx) from rfl); go_simp; try (with_reducible rfl))
                (try dsimp only [Act.put]); try simp only [Act.put, List.setIfInBounds_toArray, List.set_cons_zero, List.set_cons_succ]
                refine takeD (i := 7) (some 64) (v := ?_) rfl rfl (by kernel_rfl) (by kernel_rfl) (by kernel_rfl) (fun _ _ _ h => h) (Or.inl ⟨by kernel_rfl, ?_⟩) (by assumption) ?_
                rotate_left
                · (intro w hSw; (try dsimp only at hSw); have hQc := (hSw.2.cell k).trans Hx.out; have hQ0 := (hSw.1.cell 0).trans (show _ = some (Value.string mp) from rfl); have hQ1 := (hSw.1.cell 1).trans (show _ = some (Value.bool true) from rfl); have hQ2 := (hSw.1.cell 2).trans (show _ = some (Value.slice none 0 0) from rfl); have hQ8 := (hSw.1.cell 8).trans (show _ = some (Value.string pfx) from rfl); go_simp; try (with_reducible rfl))
                (try dsimp only [Act.put]); try simp only [Act.put, List.setIfInBounds_toArray, List.set_cons_zero, List.set_cons_succ]
                refine takeD (i := 8) (some 65) (v := ?_) rfl rfl (by kernel_rfl) (by kernel_rfl) (by kernel_rfl) (fun _ _ _ h => h) (Or.inl ⟨by kernel_rfl, ?_⟩) (by assumption) ?_
                rotate_left
                · (intro w hSw; (try dsimp only at hSw); have hQc := (hSw.2.cell k).trans Hx.out; have hQ0 := (hSw.1.cell 0).trans (show _ = some (Value.string mp) from rfl); have hQ1 := (hSw.1.cell 1).trans (show _ = some (Value.bool true) from rfl); have hQ2 := (hSw.1.cell 2).trans (show _ = some (Value.slice none 0 0) from rfl); have hQ8 := (hSw.1.cell 8).trans (show _ = some (Value.string pfx) from rfl); go_simp; try (with_reducible rfl))
                (try dsimp only [Act.put]); try simp only [Act.put, List.setIfInBounds_toArray, List.set_cons_zero, List.set_cons_succ]
                refine takeD (i := 9) (some 66) (v := ?_) rfl rfl (by kernel_rfl) (by kernel_rfl) (by kernel_rfl) (fun _ _ _ h => h) (Or.inl ⟨by kernel_rfl, ?_⟩) (by assumption) ?_
                rotate_left
                · (intro w hSw; (try dsimp only at hSw); have hQc := (hSw.2.cell k).trans Hx.out; have hQ0 := (hSw.1.cell 0).trans (show _ = some (Value.string mp) from rfl); have hQ1 := (hSw.1.cell 1).trans (show _ = some (Value.bool true) from rfl); have hQ2 := (hSw.1.cell 2).trans (show _ = some (Value.slice none 0 0) from rfl); have hQ8 := (hSw.1.cell 8).trans (show _ = some (Value.string pfx) from rfl); go_simp; try (with_reducible rfl))
                (try dsimp only [Act.put]); try simp only [Act.put, List.setIfInBounds_toArray, List.set_cons_zero, List.set_cons_succ]
                refine takeD (i := 10) (some 67) (v := ?_) rfl rfl (by kernel_rfl) (by kernel_rfl) (by kernel_rfl) (fun _ _ _ h => h) (Or.inl ⟨by kernel_rfl, ?_⟩) (by assumption) ?_
                rotate_left
                · (intro w hSw; (try dsimp only at hSw); have hQc := (hSw.2.cell k).trans Hx.out; have hQ0 := (hSw.1.cell 0).trans (show _ = some (Value.string mp) from rfl); have hQ1 := (hSw.1.cell 1).trans (show _ = some (Value.bool true) from rfl); have hQ2 := (hSw.1.cell 2).trans (show _ = some (Value.slice none 0 0) from rfl); have hQ8 := (hSw.1.cell 8).trans (show _ = some (Value.string pfx) from rfl); go_simp; try (with_reducible rfl))
                (try dsimp only [Act.put]); try simp only [Act.put, List.setIfInBounds_toArray, List.set_cons_zero, List.set_cons_succ]
                refine takeD (i := 11) (some 68) (v := ?_) rfl rfl (by kernel_rfl) (by kernel_rfl) (by kernel_rfl) (fun _ _ _ h => h) (Or.inl ⟨by kernel_rfl, ?_⟩) (by assumption) ?_
                rotate_left
                · (intro w hSw; (try dsimp only at hSw); have hQc := (hSw.2.cell k).trans Hx.out; have hQ0 := (hSw.1.cell 0).trans (show _ = some (Value.string mp) from rfl); have hQ1 := (hSw.1.cell 1).trans (show _ = some (Value.bool true) from rfl); have hQ2 := (hSw.1.cell 2).trans (show _ = some (Value.slice none 0 0) from rfl); have hQ8 := (hSw.1.cell 8).trans (show _ = some (Value.string pfx) from rfl); go_simp; try (with_reducible rfl))
                (try dsimp only [Act.put]); try simp only [Act.put, List.setIfInBounds_toArray, List.set_cons_zero, List.set_cons_succ]
                refine takeD (i := 12) (some 69) (v := ?_) rfl rfl (by kernel_rfl) (by kernel_rfl) (by kernel_rfl) (fun _ _ _ h => h) (Or.inl ⟨by kernel_rfl, ?_⟩) (by assumption) ?_
                rotate_left
                · (intro w hSw; (try dsimp only at hSw); have hQc := (hSw.2.cell k).trans Hx.out; have hQ0 := (hSw.1.cell 0).trans (show _ = some (Value.string mp) from rfl); have hQ1 := (hSw.1.cell 1).trans (show _ = some (Value.bool true) from rfl); have hQ2 := (hSw.1.cell 2).trans (show _ = some (Value.slice none 0 0) from rfl); have hQ8 := (hSw.1.cell 8).trans (show _ = some (Value.string pfx) from rfl); go_simp; try (with_reducible rfl))
                (try dsimp only [Act.put]); try simp only [Act.put, List.setIfInBounds_toArray, List.set_cons_zero, List.set_cons_succ]
                refine takeD (i := 13) (some 70) (v := ?_) rfl rfl (by kernel_rfl) (by kernel_rfl) (by kernel_rfl) (fun _ _ _ h => h) (Or.inl ⟨by kernel_rfl, ?_⟩) (by assumption) ?_
                rotate_left
                · (intro w hSw; (try dsimp only at hSw); have hQc := (hSw.2.cell k).trans Hx.out; have hQ0 := (hSw.1.cell 0).trans (show _ = some (Value.string mp) from rfl); have hQ1 := (hSw.1.cell 1).trans (show _ = some (Value.bool true) from rfl); have hQ2 := (hSw.1.cell 2).trans (show _ = some (Value.slice none 0 0) from rfl); have hQ8 := (hSw.1.cell 8).trans (show _ = some (Value.string pfx) from rfl); go_simp; try (with_reducible rfl))
                (try dsimp only [Act.put]); try simp only [Act.put, List.setIfInBounds_toArray, List.set_cons_zero, List.set_cons_succ]
                refine takeD (i := 14) (some 71) (v := ?_) rfl rfl (by kernel_rfl) (by kernel_rfl) (by kernel_rfl) (fun _ _ _ h => h) (Or.inl ⟨by kernel_rfl, ?_⟩) (by assumption) ?_
                rotate_left
                · (intro w hSw; (try dsimp only at hSw); have hQc := (hSw.2.cell k).trans Hx.out; have hQ0 := (hSw.1.cell 0).trans (show _ = some (Value.string mp) from rfl); have hQ1 := (hSw.1.cell 1).trans (show _ = some (Value.bool true) from rfl); have hQ2 := (hSw.1.cell 2).trans (show _ = some (Value.slice none 0 0) from rfl); have hQ8 := (hSw.1.cell 8).trans (show _ = some (Value.string pfx) from rfl); go_simp; try (with_reducible rfl))
                (try dsimp only [Act.put]); try simp only [Act.put, List.setIfInBounds_toArray, List.set_cons_zero, List.set_cons_succ]
                refine wpAnyH_ready (rs := [15]) (by kernel_rfl) (by simp) ?_
                refine AllReadyH.cons rfl (fun K hK => ?_) ?_
                · go_simp
                  refine (Hon.out _ ?_).mono ?_
                  · exact (Hm8.out.keep (Frm.refl noB _).drew)
                  rintro e z4 ⟨rfl, hg4⟩
                  go_wp2_with fail
                  refine hK.out _ _ ?_ (fun hHeld => ?_)
                  · refine ⟨?_, ?_⟩ <;> (repeat (first | assumption | ((with_reducible refine blk_new _ _ _ ?_); (first | (with_reducible rfl) | (simp; done))) | (with_reducible refine Blk.drew ?_) | (with_reducible refine Blk.alloc ?_ _) | (with_reducible refine Blk.frm ?_ (by assumption) (fun h => h))))
                  clear hK K
                  (try dsimp only [Act.put]); try simp only [Act.put, List.setIfInBounds_toArray, List.set_cons_zero, List.set_cons_succ]
                  refine takeD (i := 16) (some 73) (v := ?_) rfl rfl (by kernel_rfl) (by kernel_rfl) (by kernel_rfl) (fun _ _ _ h => h) (Or.inl ⟨by kernel_rfl, ?_⟩) (by assumption) ?_
                  rotate_left
                  · (intro w hSw; (try dsimp only at hSw); have hQc := (hSw.2.cell k).trans Hx.out; have hQ0 := (hSw.1.cell 0).trans (show _ = some (Value.string mp) from rfl); have hQ1 := (hSw.1.cell 1).trans (show _ = some (Value.bool true) from rfl); have hQ2 := (hSw.1.cell 2).trans (show _ = some (Value.slice none 0 0) from rfl); have hQ8 := (hSw.1.cell 8).trans (show _ = some (Value.string pfx) from rfl); go_simp; try (with_reducible rfl))
                  (try dsimp only [Act.put]); try simp only [Act.put, List.setIfInBounds_toArray, List.set_cons_zero, List.set_cons_succ]
                  refine takeD (i := 17) (some 74) (v := ?_) rfl rfl (by kernel_rfl) (by kernel_rfl) (by kernel_rfl) (fun _ _ _ h => h) (Or.inl ⟨by kernel_rfl, ?_⟩) (by assumption) ?_
                  rotate_left
                  · (intro w hSw; (try dsimp only at hSw); have hQc := (hSw.2.cell k).trans Hx.out; have hQ0 := (hSw.1.cell 0).trans (show _ = some (Value.string mp) from rfl); have hQ1 := (hSw.1.cell 1).trans (show _ = some (Value.bool true) from rfl); have hQ2 := (hSw.1.cell 2).trans (show _ = some (Value.slice none 0 0) from rfl); have hQ8 := (hSw.1.cell 8).trans (show _ = some (Value.string pfx) from rfl); go_simp; try (with_reducible rfl))
                  (try dsimp only [Act.put]); try simp only [Act.put, List.setIfInBounds_toArray, List.set_cons_zero, List.set_cons_succ]
                  refine takeD (i := 18) (some 75) (v := ?_) rfl rfl (by kernel_rfl) (by kernel_rfl) (by kernel_rfl) (fun _ _ _ h => h) (Or.inl ⟨by kernel_rfl, ?_⟩) (by assumption) ?_
                  rotate_left
                  · (intro w hSw; (try dsimp only at hSw); have hQc := (hSw.2.cell k).trans Hx.out; have hQ0 := (hSw.1.cell 0).trans (show _ = some (Value.string mp) from rfl); have hQ1 := (hSw.1.cell 1).trans (show _ = some (Value.bool true) from rfl); have hQ2 := (hSw.1.cell 2).trans (show _ = some (Value.slice none 0 0) from rfl); have hQ8 := (hSw.1.cell 8).trans (show _ = some (Value.string pfx) from rfl); go_simp; try (with_reducible rfl))
                  (try dsimp only [Act.put]); try simp only [Act.put, List.setIfInBounds_toArray, List.set_cons_zero, List.set_cons_succ]
                  refine takeD (i := 19) (some 76) (v := ?_) rfl rfl (by kernel_rfl) (by kernel_rfl) (by kernel_rfl) (fun _ _ _ h => h) (Or.inl ⟨by kernel_rfl, ?_⟩) (by assumption) ?_
                  rotate_left
                  · (intro w hSw; (try dsimp only at hSw); have hQc := (hSw.2.cell k).trans Hx.out; have hQ0 := (hSw.1.cell 0).trans (show _ = some (Value.string mp) from rfl); have hQ1 := (hSw.1.cell 1).trans (show _ = some (Value.bool true) from rfl); have hQ2 := (hSw.1.cell 2).trans (show _ = some (Value.slice none 0 0) from rfl); have hQ8 := (hSw.1.cell 8).trans (show _ = some (Value.string pfx) from rfl); go_simp; try (with_reducible rfl))
                  (try dsimp only [Act.put]); try simp only [Act.put, List.setIfInBounds_toArray, List.set_cons_zero, List.set_cons_succ]
                  refine takeD (i := 20) (some 77) (v := ?_) rfl rfl (by kernel_rfl) (by kernel_rfl) (by kernel_rfl) (fun _ _ _ h => h) (Or.inl ⟨by kernel_rfl, ?_⟩) (by assumption) ?_
                  rotate_left
                  · (intro w hSw; (try dsimp only at hSw); have hQc := (hSw.2.cell k).trans Hx.out; have hQ0 := (hSw.1.cell 0).trans (show _ = some (Value.string mp) from rfl); have hQ1 := (hSw.1.cell 1).trans (show _ = some (Value.bool true) from rfl); have hQ2 := (hSw.1.cell 2).trans (show _ = some (Value.slice none 0 0) from rfl); have hQ8 := (hSw.1.cell 8).trans (show _ = some (Value.string pfx) from rfl); go_simp; try (with_reducible rfl))
                  (try dsimp only [Act.put]); try simp only [Act.put, List.setIfInBounds_toArray, List.set_cons_zero, List.set_cons_succ]
                  refine takeD (i := 21) (some 78) (v := ?_) rfl rfl (by kernel_rfl) (by kernel_rfl) (by kernel_rfl) (fun _ _ _ h => h) (Or.inl ⟨by kernel_rfl, ?_⟩) (by assumption) ?_
                  rotate_left
                  · (intro w hSw; (try dsimp only at hSw); have hQc := (hSw.2.cell k).trans Hx.out; have hQ0 := (hSw.1.cell 0).trans (show _ = some (Value.string mp) from rfl); have hQ1 := (hSw.1.cell 1).trans (show _ = some (Value.bool true) from rfl); have hQ2 := (hSw.1.cell 2).trans (show _ = some (Value.slice none 0 0) from rfl); have hQ8 := (hSw.1.cell 8).trans (show _ = some (Value.string pfx) from rfl); go_simp; try (with_reducible rfl))
                  (try dsimp only [Act.put]); try simp only [Act.put, List.setIfInBounds_toArray, List.set_cons_zero, List.set_cons_succ]
                  refine takeD (i := 22) (some 79) (v := ?_) rfl rfl (by kernel_rfl) (by kernel_rfl) (by kernel_rfl) (fun _ _ _ h => h) (Or.inl ⟨by kernel_rfl, ?_⟩) (by assumption) ?_
                  rotate_left
                  · (intro w hSw; (try dsimp only at hSw); have hQc := (hSw.2.cell k).trans Hx.out; have hQ0 := (hSw.1.cell 0).trans (show _ = some (Value.string mp) from rfl); have hQ1 := (hSw.1.cell 1).trans (show _ = some (Value.bool true) from rfl); have hQ2 := (hSw.1.cell 2).trans (show _ = some (Value.slice none 0 0) from rfl); have hQ8 := (hSw.1.cell 8).trans (show _ = some (Value.string pfx) from rfl); go_simp; try (with_reducible rfl))
                  (try dsimp only [Act.put]); try simp only [Act.put, List.setIfInBounds_toArray, List.set_cons_zero, List.set_cons_succ]
                  refine wpAnyH_done (by kernel_rfl) ?_ _
                  refine NoPanic.normal ?_
                  have HL6 := Lib.hid ((HF8.out.drew).trans hg4)
                  go_wp2_with fail
                  go_roundw
                  case rel => exact ⟨k + 1, by omega, by go_num, HL5.out.frm HL6.out (fun h => h), HR5.out.frm HL6.out (fun h => h), Hf5.out.trans HL6.out⟩
                  case measure => simp [intOf]; omega
                exact AllReadyH.nil
              exact AllReadyH.nil
            exact AllReadyH.nil
          · skip
            have hPx := (Hon0.out (by simp)).symm
            subst hPx
            refine wp_region_noPanic ?_
            refine wp_region_held_drew (S := fun X => Blk X x1.heap.size #[.string mp, .bool ex, .slice none 0 0, .slice none 0 0, .int .i64 0, .int .i64 0, .int .i64 0, .int .i64 0, .string pfx, .slice sa ns sc, .slice da nd dc, .int .i64 0, .int .i64 0, .int .i64 0, .int .i64 0, .int .i64 0, .int .i64 0, .int .i64 0, .int .i64 0] 35 ∧ Blk X y2.heap.size #[.string q1, .string A] 9) (by kernel_rfl) ?_ (fun hHeld => ?_)
            · refine ⟨?_, ?_⟩ <;> (repeat (first | assumption | ((with_reducible refine blk_new _ _ _ ?_); (first | (with_reducible rfl) | (simp; done))) | (with_reducible refine Blk.drew ?_) | (with_reducible refine Blk.alloc ?_ _) | (with_reducible refine Blk.frm ?_ (by assumption) (fun h => h))))
            refine takeD (i := 0) (some 36) (v := ?_) rfl rfl (by kernel_rfl) (by kernel_rfl) (by kernel_rfl) (fun _ _ _ h => h) (Or.inl ⟨by kernel_rfl, ?_⟩) (by assumption) ?_
            rotate_left
            · (intro w hSw; (try dsimp only at hSw); have hQc := (hSw.2.cell k).trans Hx.out; have hQ0 := (hSw.1.cell 0).trans (show _ = some (Value.string mp) from rfl); have hQ1 := (hSw.1.cell 1).trans (show _ = some (Value.bool ex) from rfl); have hQ2 := (hSw.1.cell 2).trans (show _ = some (Value.slice none 0 0) from rfl); have hQ8 := (hSw.1.cell 8).trans (show _ = some (Value.string pfx) from rfl); go_simp; try (with_reducible rfl))
            (try dsimp only [Act.put]); try simp only [Act.put, List.setIfInBounds_toArray, List.set_cons_zero, List.set_cons_succ]
            refine wpAnyH_ready (rs := [1]) (by kernel_rfl) (by simp) ?_
            refine AllReadyH.cons rfl (fun K hK => ?_) ?_
            · go_simp
              refine (HpP.out _ ?_).mono ?_
              · exact Hm7.out.keep (Frm.refl noB _).drew
              rintro e z2 ⟨rfl, hg2⟩
              go_wp2_with fail
              refine hK.out _ _ ?_ (fun hHeld => ?_)
              · refine ⟨?_, ?_⟩ <;> (repeat (first | assumption | ((with_reducible refine blk_new _ _ _ ?_); (first | (with_reducible rfl) | (simp; done))) | (with_reducible refine Blk.drew ?_) | (with_reducible refine Blk.alloc ?_ _) | (with_reducible refine Blk.frm ?_ (by assumption) (fun h => h))))
              clear hK K
              (try dsimp only [Act.put]); try simp only [Act.put, List.setIfInBounds_toArray, List.set_cons_zero, List.set_cons_succ]
              refine takeD (i := 2) (some 38) (v := ?_) rfl rfl (by kernel_rfl) (by kernel_rfl) (by kernel_rfl) (fun _ _ _ h => h) (Or.inl ⟨by kernel_rfl, ?_⟩) (by assumption) ?_
              rotate_left
              · (intro w hSw; (try dsimp only at hSw); have hQc := (hSw.2.cell k).trans Hx.out; have hQ0 := (hSw.1.cell 0).trans (show _ = some (Value.string mp) from rfl); have hQ1 := (hSw.1.cell 1).trans (show _ = some (Value.bool ex) from rfl); have hQ2 := (hSw.1.cell 2).trans (show _ = some (Value.slice none 0 0) from rfl); have hQ8 := (hSw.1.cell 8).trans (show _ = some (Value.string pfx) from rfl); go_simp; try (with_reducible rfl))
              (try dsimp only [Act.put]); try simp only [Act.put, List.setIfInBounds_toArray, List.set_cons_zero, List.set_cons_succ]
              refine takeD (i := 3) (some 39) (v := ?_) rfl rfl (by kernel_rfl) (by kernel_rfl) (by kernel_rfl) (fun _ _ _ h => h) (Or.inl ⟨by kernel_rfl, ?_⟩) (by assumption) ?_
              rotate_left
              · (intro w hSw; (try dsimp only at hSw); have hQc := (hSw.2.cell k).trans Hx.out; have hQ0 := (hSw.1.cell 0).trans (show _ = some (Value.string mp) from rfl); have hQ1 := (hSw.1.cell 1).trans (show _ = some (Value.bool ex) from rfl); have hQ2 := (hSw.1.cell 2).trans (show _ = some (Value.slice none 0 0) from rfl); have hQ8 := (hSw.1.cell 8).trans (show _ = some (Value.string pfx) from rfl); go_simp; try (with_reducible rfl))
              (try dsimp only [Act.put]); try simp only [Act.put, List.setIfInBounds_toArray, List.set_cons_zero, List.set_cons_succ]
              refine takeD (i := 4) (some 40) (v := ?_) rfl rfl (by kernel_rfl) (by kernel_rfl) (by kernel_rfl) (fun _ _ _ h => h) (Or.inl ⟨by kernel_rfl, ?_⟩) (by assumption) ?_
              rotate_left
              · (intro w hSw; (try dsimp only at hSw); have hQc := (hSw.2.cell k).trans Hx.out; have hQ0 := (hSw.1.cell 0).trans (show _ = some (Value.string mp) from rfl); have hQ1 := (hSw.1.cell 1).trans (show _ = some (Value.bool ex) from rfl); have hQ2 := (hSw.1.cell 2).trans (show _ = some (Value.slice none 0 0) from rfl); have hQ8 := (hSw.1.cell 8).trans (show _ = some (Value.string pfx) from rfl); go_simp; try (with_reducible rfl))
              (try dsimp only [Act.put]); try simp only [Act.put, List.setIfInBounds_toArray, List.set_cons_zero, List.set_cons_succ]
              refine takeD (i := 5) (some 41) (v := ?_) rfl rfl (by kernel_rfl) (by kernel_rfl) (by kernel_rfl) (fun _ _ _ h => h) (Or.inl ⟨by kernel_rfl, ?_⟩) (by assumption) ?_
              rotate_left
              · (intro w hSw; (try dsimp only at hSw); have hQc := (hSw.2.cell k).trans Hx.out; have hQ0 := (hSw.1.cell 0).trans (show _ = some (Value.string mp) from rfl); have hQ1 := (hSw.1.cell 1).trans (show _ = some (Value.bool ex) from rfl); have hQ2 := (hSw.1.cell 2).trans (show _ = some (Value.slice none 0 0) from rfl); have hQ8 := (hSw.1.cell 8).trans (show _ = some (Value.string pfx) from rfl); go_simp; try (with_reducible rfl))
              (try dsimp only [Act.put]); try simp only [Act.put, List.setIfInBounds_toArray, List.set_cons_zero, List.set_cons_succ]
              refine takeD (i := 6) (some 42) (v := ?_) rfl rfl (by kernel_rfl) (by kernel_rfl) (by kernel_rfl) (fun _ _ _ h => h) (Or.inl ⟨by kernel_rfl, ?_⟩) (by assumption) ?_
              rotate_left
              · (intro w hSw; (try dsimp only at hSw); have hQc := (hSw.2.cell k).trans Hx.out; have hQ0 := (hSw.1.cell 0).trans (show _ = some (Value.string mp) from rfl); have hQ1 := (hSw.1.cell 1).trans (show _ = some (Value.bool ex) from rfl); have hQ2 := (hSw.1.cell 2).trans (show _ = some (Value.slice none 0 0) from rfl); have hQ8 := (hSw.1.cell 8).trans (show _ = some (Value.string pfx) from rfl); go_simp; try (with_reducible rfl))
              (try dsimp only [Act.put]); try simp only [Act.put, List.setIfInBounds_toArray, List.set_cons_zero, List.set_cons_succ]
              refine takeD (i := 7) (some 43) (v := ?_) rfl rfl (by kernel_rfl) (by kernel_rfl) (by kernel_rfl) (fun _ _ _ h => h) (Or.inl ⟨by kernel_rfl, ?_⟩) (by assumption) ?_
              rotate_left
              · (intro w hSw; (try dsimp only at hSw); have hQc := (hSw.2.cell k).trans Hx.out; have hQ0 := (hSw.1.cell 0).trans (show _ = some (Value.string mp) from rfl); have hQ1 := (hSw.1.cell 1).trans (show _ = some (Value.bool ex) from rfl); have hQ2 := (hSw.1.cell 2).trans (show _ = some (Value.slice none 0 0) from rfl); have hQ8 := (hSw.1.cell 8).trans (show _ = some (Value.string pfx) from rfl); go_simp; try (with_reducible rfl))
              (try dsimp only [Act.put]); try simp only [Act.put, List.setIfInBounds_toArray, List.set_cons_zero, List.set_cons_succ]
              refine takeD (i := 8) (some 44) (v := ?_) rfl rfl (by kernel_rfl) (by kernel_rfl) (by kernel_rfl) (fun _ _ _ h => h) (Or.inl ⟨by kernel_rfl, ?_⟩) (by assumption) ?_
              rotate_left
              · (intro w hSw; (try dsimp only at hSw); have hQc := (hSw.2.cell k).trans Hx.out; have hQ0 := (hSw.1.cell 0).trans (show _ = some (Value.string mp) from rfl); have hQ1 := (hSw.1.cell 1).trans (show _ = some (Value.bool ex) from rfl); have hQ2 := (hSw.1.cell 2).trans (show _ = some (Value.slice none 0 0) from rfl); have hQ8 := (hSw.1.cell 8).trans (show _ = some (Value.string pfx) from rfl); go_simp; try (with_reducible rfl))
              (try dsimp only [Act.put]); try simp only [Act.put, List.setIfInBounds_toArray, List.set_cons_zero, List.set_cons_succ]
              refine takeD (i := 9) (some 45) (v := ?_) rfl rfl (by kernel_rfl) (by kernel_rfl) (by kernel_rfl) (fun _ _ _ h => h) (Or.inl ⟨by kernel_rfl, ?_⟩) (by assumption) ?_
              rotate_left
              · (intro w hSw; (try dsimp only at hSw); have hQc := (hSw.2.cell k).trans Hx.out; have hQ0 := (hSw.1.cell 0).trans (show _ = some (Value.string mp) from rfl); have hQ1 := (hSw.1.cell 1).trans (show _ = some (Value.bool ex) from rfl); have hQ2 := (hSw.1.cell 2).trans (show _ = some (Value.slice none 0 0) from rfl); have hQ8 := (hSw.1.cell 8).trans (show _ = some (Value.string pfx) from rfl); go_simp; try (with_reducible rfl))
              (try dsimp only [Act.put]); try simp only [Act.put, List.setIfInBounds_toArray, List.set_cons_zero, List.set_cons_succ]
              refine wpAnyH_ready (rs := [10]) (by kernel_rfl) (by simp) ?_
              refine AllReadyH.cons rfl (fun K hK => ?_) ?_
              · go_simp
                refine (Hon.out _ ?_).mono ?_
                · exact (Hm7.out.keep (Frm.refl noB _).drew).keep hg2
                rintro e z3 ⟨rfl, hg3⟩
                go_wp2_with fail
                refine hK.out _ _ ?_ (fun hHeld => ?_)
                · refine ⟨?_, ?_⟩ <;> (repeat (first | assumption | ((with_reducible refine blk_new _ _ _ ?_); (first | (with_reducible rfl) | (simp; done))) | (with_reducible refine Blk.drew ?_) | (with_reducible refine Blk.alloc ?_ _) | (with_reducible refine Blk.frm ?_ (by assumption) (fun h => h))))
                clear hK K
                (try dsimp only [Act.put]); try simp only [Act.put, List.setIfInBounds_toArray, List.set_cons_zero, List.set_cons_succ]
                refine takeD (i := 11) (some 47) (v := ?_) rfl rfl (by kernel_rfl) (by kernel_rfl) (by kernel_rfl) (fun _ _ _ h => h) (Or.inl ⟨by kernel_rfl, ?_⟩) (by assumption) ?_
                rotate_left
                · (intro w hSw; (try dsimp only at hSw); have hQc := (hSw.2.cell k).trans Hx.out; have hQ0 := (hSw.1.cell 0).trans (show _ = some (Value.string mp) from rfl); have hQ1 := (hSw.1.cell 1).trans (show _ = some (Value.bool ex) from rfl); have hQ2 := (hSw.1.cell 2).trans (show _ = some (Value.slice none 0 0) from rfl); have hQ8 := (hSw.1.cell 8).trans (show _ = some (Value.string pfx) from rfl); go_simp; try (with_reducible rfl))
                (try dsimp only [Act.put]); try simp only [Act.put, List.setIfInBounds_toArray, List.set_cons_zero, List.set_cons_succ]
                refine takeD (i := 12) (some 48) (v := ?_) rfl rfl (by kernel_rfl) (by kernel_rfl) (by kernel_rfl) (fun _ _ _ h => h) (Or.inl ⟨by kernel_rfl, ?_⟩) (by assumption) ?_
                rotate_left
                · (intro w hSw; (try dsimp only at hSw); have hQc := (hSw.2.cell k).trans Hx.out; have hQ0 := (hSw.1.cell 0).trans (show _ = some (Value.string mp) from rfl); have hQ1 := (hSw.1.cell 1).trans (show _ = some (Value.bool ex) from rfl); have hQ2 := (hSw.1.cell 2).trans (show _ = some (Value.slice none 0 0) from rfl); have hQ8 := (hSw.1.cell 8).trans (show _ = some (Value.string pfx) from rfl); go_simp; try (with_reducible rfl))
                (try dsimp only [Act.put]); try simp only [Act.put, List.setIfInBounds_toArray, List.set_cons_zero, List.set_cons_succ]
                refine takeD (i := 13) (some 49) (v := ?_) rfl rfl (by kernel_rfl) (by kernel_rfl) (by kernel_rfl) (fun _ _ _ h => h) (Or.inl ⟨by kernel_rfl, ?_⟩) (by assumption) ?_
                rotate_left
                · (intro w hSw; (try dsimp only at hSw); have hQc := (hSw.2.cell k).trans Hx.out; have hQ0 := (hSw.1.cell 0).trans (show _ = some (Value.string mp) from rfl); have hQ1 := (hSw.1.cell 1).trans (show _ = some (Value.bool ex) from rfl); have hQ2 := (hSw.1.cell 2).trans (show _ = some (Value.slice none 0 0) from rfl); have hQ8 := (hSw.1.cell 8).trans (show _ = some (Value.string pfx) from rfl); go_simp; try (with_reducible rfl))
                (try dsimp only [Act.put]); try simp only [Act.put, List.setIfInBounds_toArray, List.set_cons_zero, List.set_cons_succ]
                refine takeD (i := 14) (some 50) (v := ?_) rfl rfl (by kernel_rfl) (by kernel_rfl) (by kernel_rfl) (fun _ _ _ h => h) (Or.inl ⟨by kernel_rfl, ?_⟩) (by assumption) ?_
                rotate_left
                · (intro w hSw; (try dsimp only at hSw); have hQc := (hSw.2.cell k).trans Hx.out; have hQ0 := (hSw.1.cell 0).trans (show _ = some (Value.string mp) from rfl); have hQ1 := (hSw.1.cell 1).trans (show _ = some (Value.bool ex) from rfl); have hQ2 := (hSw.1.cell 2).trans (show _ = some (Value.slice none 0 0) from rfl); have hQ8 := (hSw.1.cell 8).trans (show _ = some (Value.string pfx) from rfl); go_simp; try (with_reducible rfl))
                (try dsimp only [Act.put]); try simp only [Act.put, List.setIfInBounds_toArray, List.set_cons_zero, List.set_cons_succ]
                refine takeD (i := 15) (some 51) (v := ?_) rfl rfl (by kernel_rfl) (by kernel_rfl) (by kernel_rfl) (fun _ _ _ h => h) (Or.inl ⟨by kernel_rfl, ?_⟩) (by assumption) ?_
                rotate_left
                · (intro w hSw; (try dsimp only at hSw); have hQc := (hSw.2.cell k).trans Hx.out; have hQ0 := (hSw.1.cell 0).trans (show _ = some (Value.string mp) from rfl); have hQ1 := (hSw.1.cell 1).trans (show _ = some (Value.bool ex) from rfl); have hQ2 := (hSw.1.cell 2).trans (show _ = some (Value.slice none 0 0) from rfl); have hQ8 := (hSw.1.cell 8).trans (show _ = some (Value.string pfx) from rfl); go_simp; try (with_reducible rfl))
                (try dsimp only [Act.put]); try simp only [Act.put, List.setIfInBounds_toArray, List.set_cons_zero, List.set_cons_succ]
                refine takeD (i := 16) (some 52) (v := ?_) rfl rfl (by kernel_rfl) (by kernel_rfl) (by kernel_rfl) (fun _ _ _ h => h) (Or.inl ⟨by kernel_rfl, ?_⟩) (by assumption) ?_
                rotate_left
                · (intro w hSw; (try dsimp only at hSw); have hQc := (hSw.2.cell k).trans Hx.out; have hQ0 := (hSw.1.cell 0).trans (show _ = some (Value.string mp) from rfl); have hQ1 := (hSw.1.cell 1).trans (show _ = some (Value.bool ex) from rfl); have hQ2 := (hSw.1.cell 2).trans (show _ = some (Value.slice none 0 0) from rfl); have hQ8 := (hSw.1.cell 8).trans (show _ = some (Value.string pfx) from rfl); go_simp; try (with_reducible rfl))
                (try dsimp only [Act.put]); try simp only [Act.put, List.setIfInBounds_toArray, List.set_cons_zero, List.set_cons_succ]
                refine takeD (i := 17) (some 53) (v := ?_) rfl rfl (by kernel_rfl) (by kernel_rfl) (by kernel_rfl) (fun _ _ _ h => h) (Or.inl ⟨by kernel_rfl, ?_⟩) (by assumption) ?_
                rotate_left
                · (intro w hSw; (try dsimp only at hSw); have hQc := (hSw.2.cell k).trans Hx.out; have hQ0 := (hSw.1.cell 0).trans (show _ = some (Value.string mp) from rfl); have hQ1 := (hSw.1.cell 1).trans (show _ = some (Value.bool ex) from rfl); have hQ2 := (hSw.1.cell 2).trans (show _ = some (Value.slice none 0 0) from rfl); have hQ8 := (hSw.1.cell 8).trans (show _ = some (Value.string pfx) from rfl); go_simp; try (with_reducible rfl))
                (try dsimp only [Act.put]); try simp only [Act.put, List.setIfInBounds_toArray, List.set_cons_zero, List.set_cons_succ]
                refine takeD (i := 18) (some 54) (v := ?_) rfl rfl (by kernel_rfl) (by kernel_rfl) (by kernel_rfl) (fun _ _ _ h => h) (Or.inl ⟨by kernel_rfl, ?_⟩) (by assumption) ?_
                rotate_left
                · (intro w hSw; (try dsimp only at hSw); have hQc := (hSw.2.cell k).trans Hx.out; have hQ0 := (hSw.1.cell 0).trans (show _ = some (Value.string mp) from rfl); have hQ1 := (hSw.1.cell 1).trans (show _ = some (Value.bool ex) from rfl); have hQ2 := (hSw.1.cell 2).trans (show _ = some (Value.slice none 0 0) from rfl); have hQ8 := (hSw.1.cell 8).trans (show _ = some (Value.string pfx) from rfl); go_simp; try (with_reducible rfl))
                (try dsimp only [Act.put]); try simp only [Act.put, List.setIfInBounds_toArray, List.set_cons_zero, List.set_cons_succ]
                refine takeD (i := 19) (some 55) (v := ?_) rfl rfl (by kernel_rfl) (by kernel_rfl) (by kernel_rfl) (fun _ _ _ h => h) (Or.inl ⟨by kernel_rfl, ?_⟩) (by assumption) ?_
                rotate_left
                · (intro w hSw; (try dsimp only at hSw); have hQc := (hSw.2.cell k).trans Hx.out; have hQ0 := (hSw.1.cell 0).trans (show _ = some (Value.string mp) from rfl); have hQ1 := (hSw.1.cell 1).trans (show _ = some (Value.bool ex) from rfl); have hQ2 := (hSw.1.cell 2).trans (show _ = some (Value.slice none 0 0) from rfl); have hQ8 := (hSw.1.cell 8).trans (show _ = some (Value.string pfx) from rfl); go_simp; try (with_reducible rfl))
                (try dsimp only [Act.put]); try simp only [Act.put, List.setIfInBounds_toArray, List.set_cons_zero, List.set_cons_succ]
                refine takeD (i := 20) (some 56) (v := ?_) rfl rfl (by kernel_rfl) (by kernel_rfl) (by kernel_rfl) (fun _ _ _ h => h) (Or.inl ⟨by kernel_rfl, ?_⟩) (by assumption) ?_
                rotate_left
                · (intro w hSw; (try dsimp only at hSw); have hQc := (hSw.2.cell k).trans Hx.out; have hQ0 := (hSw.1.cell 0).trans (show _ = some (Value.string mp) from rfl); have hQ1 := (hSw.1.cell 1).trans (show _ = some (Value.bool ex) from rfl); have hQ2 := (hSw.1.cell 2).trans (show _ = some (Value.slice none 0 0) from rfl); have hQ8 := (hSw.1.cell 8).trans (show _ = some (Value.string pfx) from rfl); go_simp; try (with_reducible rfl))
                (try dsimp only [Act.put]); try simp only [Act.put, List.setIfInBounds_toArray, List.set_cons_zero, List.set_cons_succ]
                refine wpAnyH_done (by kernel_rfl) ?_ _
                refine NoPanic.normal ?_
                have HF8 := Lib.hid (((HF7.out.drew).trans hg2).trans hg3)
                have hm8 := (Hm7.out.keep (((Frm.refl noB _).drew).trans hg2)).keep hg3
                have hR8 := hR7.frm ((((Frm.refl noB _).drew).trans hg2).trans hg3) (fun h => h)
                have hL8 := hL7.frm ((((Frm.refl noB _).drew).trans hg2).trans hg3) (fun h => h)
                clear hR7 hL7 hg2 hg3 hHeld
                have Hm8 := Lib.hid hm8
                clear hm8
                go_upto_region 10 with fail
                cases ex
                · have hQ1 := (hR8.cell 1).trans (show _ = some (Value.bool false) from rfl)
                  have hQ8 := (hR8.cell 8).trans (show _ = some (Value.string pfx) from rfl)
                  go_quiet (fail)
                  clear hQ1 hQ8
                  go_wp2_with fail
                  go_roundw
                  case rel => exact ⟨k + 1, by omega, by go_num, HL5.out.frm (HF8.out.drewN _) (fun h => h), HR5.out.frm (HF8.out.drewN _) (fun h => h), Hf5.out.trans (HF8.out.drewN _)⟩
                  case measure => simp [intOf]; omega
                by_cases hp0 : pfx.data.toList = []
                · have t1 : pfx.toList.isEmpty = true := empty_yes hp0
                  have t2 : pfx.toList = [] := by rw [ByteArray.toList_eq]; exact hp0
                  have Hp0 := Lib.hid hp0
                  clear hp0
                  have hQ1 := (hR8.cell 1).trans (show _ = some (Value.bool true) from rfl)
                  have hQ8 := (hR8.cell 8).trans (show _ = some (Value.string pfx) from rfl)
                  go_quiet (fail)
                  clear hQ1 hQ8
                  go_wp2_with fail
                  go_roundw
                  case rel => exact ⟨k + 1, by omega, by go_num, HL5.out.frm (HF8.out.drewN _) (fun h => h), HR5.out.frm (HF8.out.drewN _) (fun h => h), Hf5.out.trans (HF8.out.drewN _)⟩
                  case measure => simp [intOf]; omega
                have t1 := empty_test hp0
                have t2 : ¬ pfx.toList = [] := by rw [ByteArray.toList_eq]; exact hp0
                have Hp0 := Lib.hid hp0
                clear hp0
                refine wp_region_noPanic ?_
                refine wp_region_held_drew (S := fun X => Blk X x1.heap.size #[.string mp, .bool true, .slice none 0 0, .slice none 0 0, .int .i64 0, .int .i64 0, .int .i64 0, .int .i64 0, .string pfx, .slice sa ns sc, .slice da nd dc, .int .i64 0, .int .i64 0, .int .i64 0, .int .i64 0, .int .i64 0, .int .i64 0, .int .i64 0, .int .i64 0] 35 ∧ Blk X y2.heap.size #[.string q1, .string A] 9) (by kernel_rfl) ?_ (fun hHeld => ?_)
                · refine ⟨?_, ?_⟩ <;> (repeat (first | assumption | ((with_reducible refine blk_new _ _ _ ?_); (first | (with_reducible rfl) | (simp; done))) | (with_reducible refine Blk.drew ?_) | (with_reducible refine Blk.alloc ?_ _) | (with_reducible refine Blk.frm ?_ (by assumption) (fun h => h))))
                refine takeD (i := 0) (some 57) (v := ?_) rfl rfl (by kernel_rfl) (by kernel_rfl) (by kernel_rfl) (fun _ _ _ h => h) (Or.inl ⟨by kernel_rfl, ?_⟩) (by assumption) ?_
                rotate_left
                · (intro w hSw; (try dsimp only at hSw); have hQc := (hSw.2.cell k).trans Hx.out; have hQ0 := (hSw.1.cell 0).trans (show _ = some (Value.string mp) from rfl); have hQ1 := (hSw.1.cell 1).trans (show _ = some (Value.bool true) from rfl); have hQ2 := (hSw.1.cell 2).trans (show _ = some (Value.slice none 0 0) from rfl); have hQ8 := (hSw.1.cell 8).trans (show _ = some (Value.string pfx) from rfl); go_simp; try (with_reducible rfl))
                (try dsimp only [Act.put]); try simp only [Act.put, List.setIfInBounds_toArray, List.set_cons_zero, List.set_cons_succ]
                refine takeD (i := 1) (some 58) (v := ?_) rfl rfl (by kernel_rfl) (by kernel_rfl) (by kernel_rfl) (fun _ _ _ h => h) (Or.inl ⟨by kernel_rfl, ?_⟩) (by assumption) ?_
                rotate_left
                · (intro w hSw; (try dsimp only at hSw); have hQc := (hSw.2.cell k).trans Hx.out; have hQ0 := (hSw.1.cell 0).trans (show _ = some (Value.string mp) from rfl); have hQ1 := (hSw.1.cell 1).trans (show _ = some (Value.bool true) from rfl); have hQ2 := (hSw.1.cell 2).trans (show _ = some (Value.slice none 0 0) from rfl); have hQ8 := (hSw.1.cell 8).trans (show _ = some (Value.string pfx) from rfl); go_simp; try (with_reducible rfl))
                (try dsimp only [Act.put]); try simp only [Act.put, List.setIfInBounds_toArray, List.set_cons_zero, List.set_cons_succ]
                refine takeD (i := 2) (some 59) (v := ?_) rfl rfl (by kernel_rfl) (by kernel_rfl) (by kernel_rfl) (fun _ _ _ h => h) (Or.inl ⟨by kernel_rfl, ?_⟩) (by assumption) ?_
                rotate_left
                · (intro w hSw; (try dsimp only at hSw); have hQc := (hSw.2.cell k).trans Hx.out; have hQ0 := (hSw.1.cell 0).trans (show _ = some (Value.string mp) from rfl); have hQ1 := (hSw.1.cell 1).trans (show _ = some (Value.bool true) from rfl); have hQ2 := (hSw.1.cell 2).trans (show _ = some (Value.slice none 0 0) from rfl); have hQ8 := (hSw.1.cell 8).trans (show _ = some (Value.string pfx) from rfl); go_simp; try (with_reducible rfl))
                (try dsimp only [Act.put]); try simp only [Act.put, List.setIfInBounds_toArray, List.set_cons_zero, List.set_cons_succ]
                refine takeD (i := 3) (some 60) (v := ?_) rfl rfl (by kernel_rfl) (by kernel_rfl) (by kernel_rfl) (fun _ _ _ h => h) (Or.inl ⟨by kernel_rfl, ?_⟩) (by assumption) ?_
                rotate_left
                · (intro w hSw; (try dsimp only at hSw); have hQc := (hSw.2.cell k).trans Hx.out; have hQ0 := (hSw.1.cell 0).trans (show _ = some (Value.string mp) from rfl); have hQ1 := (hSw.1.cell 1).trans (show _ = some (Value.bool true) from rfl); have hQ2 := (hSw.1.cell 2).trans (show _ = some (Value.slice none 0 0) from rfl); have hQ8 := (hSw.1.cell 8).trans (show _ = some (Value.string pfx) from rfl); go_simp; try (with_reducible rfl))
                (try dsimp only [Act.put]); try simp only [Act.put, List.setIfInBounds_toArray, List.set_cons_zero, List.set_cons_succ]
                refine takeD (i := 4) (some 61) (v := ?_) rfl rfl (by kernel_rfl) (by kernel_rfl) (by kernel_rfl) (fun _ _ _ h => h) (Or.inl ⟨by kernel_rfl, ?_⟩) (by assumption) ?_
                rotate_left
                · (intro w hSw; (try dsimp only at hSw); have hQc := (hSw.2.cell k).trans Hx.out; have hQ0 := (hSw.1.cell 0).trans (show _ = some (Value.string mp) from rfl); have hQ1 := (hSw.1.cell 1).trans (show _ = some (Value.bool true) from rfl); have hQ2 := (hSw.1.cell 2).trans (show _ = some (Value.slice none 0 0) from rfl); have hQ8 := (hSw.1.cell 8).trans (show _ = some (Value.string pfx) from rfl); go_simp; try (with_reducible rfl))
                (try dsimp only [Act.put]); try simp only [Act.put, List.setIfInBounds_toArray, List.set_cons_zero, List.set_cons_succ]
                refine takeD (i := 5) (some 62) (v := ?_) rfl rfl (by kernel_rfl) (by kernel_rfl) (by kernel_rfl) (fun _ _ _ h => h) (Or.inl ⟨by kernel_rfl, ?_⟩) (by assumption) ?_
                rotate_left
                · (intro w hSw; (try dsimp only at hSw); have hQc := (hSw.2.cell k).trans Hx.out; have hQ0 := (hSw.1.cell 0).trans (show _ = some (Value.string mp) from rfl); have hQ1 := (hSw.1.cell 1).trans (show _ = some (Value.bool true) from rfl); have hQ2 := (hSw.1.cell 2).trans (show _ = some (Value.slice none 0 0) from rfl); have hQ8 := (hSw.1.cell 8).trans (show _ = some (Value.string pfx) from rfl); go_simp; try (with_reducible rfl))
                (try dsimp only [Act.put]); try simp only [Act.put, List.setIfInBounds_toArray, List.set_cons_zero, List.set_cons_succ]
                refine takeD (i := 6) (some 63) (v := ?_) rfl rfl (by kernel_rfl) (by kernel_rfl) (by kernel_rfl) (fun _ _ _ h => h) (Or.inl ⟨by kernel_rfl, ?_⟩) (by assumption) ?_
                rotate_left
                · (intro w hSw; (try dsimp only at hSw); have hQc := (hSw.2.cell k).trans Hx.out; have hQ0 := (hSw.1.cell 0).trans (show _ = some (Value.string mp) from rfl); have hQ1 := (hSw.1.cell 1).trans (show _ = some (Value.bool true) from rfl); have hQ2 := (hSw.1.cell 2).trans (show _ = some (Value.slice none 0 0) from rfl); have hQ8 := (hSw.1.cell 8).trans (show _ = some (Value.string pfx) from rfl); go_simp; try (with_reducible rfl))
                (try dsimp only [Act.put]); try simp only [Act.put, List.setIfInBounds_toArray, List.set_cons_zero, List.set_cons_succ]
                refine takeD (i := 7) (some 64) (v := ?_) rfl rfl (by kernel_rfl) (by kernel_rfl) (by kernel_rfl) (fun _ _ _ h => h) (Or.inl ⟨by kernel_rfl, ?_⟩) (by assumption) ?_
                rotate_left
                · (intro w hSw; (try dsimp only at hSw); have hQc := (hSw.2.cell k).trans Hx.out; have hQ0 := (hSw.1.cell 0).trans (show _ = some (Value.string mp) from rfl); have hQ1 := (hSw.1.cell 1).trans (show _ = some (Value.bool true) from rfl); have hQ2 := (hSw.1.cell 2).trans (show _ = some (Value.slice none 0 0) from rfl); have hQ8 := (hSw.1.cell 8).trans (show _ = some (Value.string pfx) from rfl); go_simp; try (with_reducible rfl))
                (try dsimp only [Act.put]); try simp only [Act.put, List.setIfInBounds_toArray, List.set_cons_zero, List.set_cons_succ]
                refine takeD (i := 8) (some 65) (v := ?_) rfl rfl (by kernel_rfl) (by kernel_rfl) (by kernel_rfl) (fun _ _ _ h => h) (Or.inl ⟨by kernel_rfl, ?_⟩) (by assumption) ?_
                rotate_left
                · (intro w hSw; (try dsimp only at hSw); have hQc := (hSw.2.cell k).trans Hx.out; have hQ0 := (hSw.1.cell 0).trans (show _ = some (Value.string mp) from rfl); have hQ1 := (hSw.1.cell 1).trans (show _ = some (Value.bool true) from rfl); have hQ2 := (hSw.1.cell 2).trans (show _ = some (Value.slice none 0 0) from rfl); have hQ8 := (hSw.1.cell 8).trans (show _ = some (Value.string pfx) from rfl); go_simp; try (with_reducible rfl))
                (try dsimp only [Act.put]); try simp only [Act.put, List.setIfInBounds_toArray, List.set_cons_zero, List.set_cons_succ]
                refine takeD (i := 9) (some 66) (v := ?_) rfl rfl (by kernel_rfl) (by kernel_rfl) (by kernel_rfl) (fun _ _ _ h => h) (Or.inl ⟨by kernel_rfl, ?_⟩) (by assumption) ?_
                rotate_left
                · (intro w hSw; (try dsimp only at hSw); have hQc := (hSw.2.cell k).trans Hx.out; have hQ0 := (hSw.1.cell 0).trans (show _ = some (Value.string mp) from rfl); have hQ1 := (hSw.1.cell 1).trans (show _ = some (Value.bool true) from rfl); have hQ2 := (hSw.1.cell 2).trans (show _ = some (Value.slice none 0 0) from rfl); have hQ8 := (hSw.1.cell 8).trans (show _ = some (Value.string pfx) from rfl); go_simp; try (with_reducible rfl))
                (try dsimp only [Act.put]); try simp only [Act.put, List.setIfInBounds_toArray, List.set_cons_zero, List.set_cons_succ]
                refine takeD (i := 10) (some 67) (v := ?_) rfl rfl (by kernel_rfl) (by kernel_rfl) (by kernel_rfl) (fun _ _ _ h => h) (Or.inl ⟨by kernel_rfl, ?_⟩) (by assumption) ?_
                rotate_left
                · (intro w hSw; (try dsimp only at hSw); have hQc := (hSw.2.cell k).trans Hx.out; have hQ0 := (hSw.1.cell 0).trans (show _ = some (Value.string mp) from rfl); have hQ1 := (hSw.1.cell 1).trans (show _ = some (Value.bool true) from rfl); have hQ2 := (hSw.1.cell 2).trans (show _ = some (Value.slice none 0 0) from rfl); have hQ8 := (hSw.1.cell 8).trans (show _ = some (Value.string pfx) from rfl); go_simp; try (with_reducible rfl))
                (try dsimp only [Act.put]); try simp only [Act.put, List.setIfInBounds_toArray, List.set_cons_zero, List.set_cons_succ]
                refine takeD (i := 11) (some 68) (v := ?_) rfl rfl (by kernel_rfl) (by kernel_rfl) (by kernel_rfl) (fun _ _ _ h => h) (Or.inl ⟨by kernel_rfl, ?_⟩) (by assumption) ?_
                rotate_left
                · (intro w hSw; (try dsimp only at hSw); have hQc := (hSw.2.cell k).trans Hx.out; have hQ0 := (hSw.1.cell 0).trans (show _ = some (Value.string mp) from rfl); have hQ1 := (hSw.1.cell 1).trans (show _ = some (Value.bool true) from rfl); have hQ2 := (hSw.1.cell 2).trans (show _ = some (Value.slice none 0 0) from rfl); have hQ8 := (hSw.1.cell 8).trans (show _ = some (Value.string pfx) from rfl); go_simp; try (with_reducible rfl))
                (try dsimp only [Act.put]); try simp only [Act.put, List.setIfInBounds_toArray, List.set_cons_zero, List.set_cons_succ]
                refine takeD (i := 12) (some 69) (v := ?_) rfl rfl (by kernel_rfl) (by kernel_rfl) (by kernel_rfl) (fun _ _ _ h => h) (Or.inl ⟨by kernel_rfl, ?_⟩) (by assumption) ?_
                rotate_left
                · (intro w hSw; (try dsimp only at hSw); have hQc := (hSw.2.cell k).trans Hx.out; have hQ0 := (hSw.1.cell 0).trans (show _ = some (Value.string mp) from rfl); have hQ1 := (hSw.1.cell 1).trans (show _ = some (Value.bool true) from rfl); have hQ2 := (hSw.1.cell 2).trans (show _ = some (Value.slice none 0 0) from rfl); have hQ8 := (hSw.1.cell 8).trans (show _ = some (Value.string pfx) from rfl); go_simp; try (with_reducible rfl))
                (try dsimp only [Act.put]); try simp only [Act.put, List.setIfInBounds_toArray, List.set_cons_zero, List.set_cons_succ]
                refine takeD (i := 13) (some 70) (v := ?_) rfl rfl (by kernel_rfl) (by kernel_rfl) (by kernel_rfl) (fun _ _ _ h => h) (Or.inl ⟨by kernel_rfl, ?_⟩) (by assumption) ?_
                rotate_left
                · (intro w hSw; (try dsimp only at hSw); have hQc := (hSw.2.cell k).trans Hx.out; have hQ0 := (hSw.1.cell 0).trans (show _ = some (Value.string mp) from rfl); have hQ1 := (hSw.1.cell 1).trans (show _ = some (Value.bool true) from rfl); have hQ2 := (hSw.1.cell 2).trans (show _ = some (Value.slice none 0 0) from rfl); have hQ8 := (hSw.1.cell 8).trans (show _ = some (Value.string pfx) from rfl); go_simp; try (with_reducible rfl))
                (try dsimp only [Act.put]); try simp only [Act.put, List.setIfInBounds_toArray, List.set_cons_zero, List.set_cons_succ]
                refine takeD (i := 14) (some 71) (v := ?_) rfl rfl (by kernel_rfl) (by kernel_rfl) (by kernel_rfl) (fun _ _ _ h => h) (Or.inl ⟨by kernel_rfl, ?_⟩) (by assumption) ?_
                rotate_left
                · (intro w hSw; (try dsimp only at hSw); have hQc := (hSw.2.cell k).trans Hx.out; have hQ0 := (hSw.1.cell 0).trans (show _ = some (Value.string mp) from rfl); have hQ1 := (hSw.1.cell 1).trans (show _ = some (Value.bool true) from rfl); have hQ2 := (hSw.1.cell 2).trans (show _ = some (Value.slice none 0 0) from rfl); have hQ8 := (hSw.1.cell 8).trans (show _ = some (Value.string pfx) from rfl); go_simp; try (with_reducible rfl))
                (try dsimp only [Act.put]); try simp only [Act.put, List.setIfInBounds_toArray, List.set_cons_zero, List.set_cons_succ]
                refine wpAnyH_ready (rs := [15]) (by kernel_rfl) (by simp) ?_
                refine AllReadyH.cons rfl (fun K hK => ?_) ?_
                · go_simp
                  refine (Hon.out _ ?_).mono ?_
                  · exact (Hm8.out.keep (Frm.refl noB _).drew)
                  rintro e z4 ⟨rfl, hg4⟩
                  go_wp2_with fail
                  refine hK.out _ _ ?_ (fun hHeld => ?_)
                  · refine ⟨?_, ?_⟩ <;> (repeat (first | assumption | ((with_reducible refine blk_new _ _ _ ?_); (first | (with_reducible rfl) | (simp; done))) | (with_reducible refine Blk.drew ?_) | (with_reducible refine Blk.alloc ?_ _) | (with_reducible refine Blk.frm ?_ (by assumption) (fun h => h))))
                  clear hK K
                  (try dsimp only [Act.put]); try simp only [Act.put, List.setIfInBounds_toArray, List.set_cons_zero, List.set_cons_succ]
                  refine takeD (i := 16) (some 73) (v := ?_) rfl rfl (by kernel_rfl) (by kernel_rfl) (by kernel_rfl) (fun _ _ _ h => h) (Or.inl ⟨by kernel_rfl, ?_⟩) (by assumption) ?_
                  rotate_left
                  · (intro w hSw; (try dsimp only at hSw); have hQc := (hSw.2.cell k).trans Hx.out; have hQ0 := (hSw.1.cell 0).trans (show _ = some (Value.string mp) from rfl); have hQ1 := (hSw.1.cell 1).trans (show _ = some (Value.bool true) from rfl); have hQ2 := (hSw.1.cell 2).trans (show _ = some (Value.slice none 0 0) from rfl); have hQ8 := (hSw.1.cell 8).trans (show _ = some (Value.string pfx) from rfl); go_simp; try (with_reducible rfl))
                  (try dsimp only [Act.put]); try simp only [Act.put, List.setIfInBounds_toArray, List.set_cons_zero, List.set_cons_succ]
                  refine takeD (i := 17) (some 74) (v := ?_) rfl rfl (by kernel_rfl) (by kernel_rfl) (by kernel_rfl) (fun _ _ _ h => h) (Or.inl ⟨by kernel_rfl, ?_⟩) (by assumption) ?_
                  rotate_left
                  · (intro w hSw; (try dsimp only at hSw); have hQc := (hSw.2.cell k).trans Hx.out; have hQ0 := (hSw.1.cell 0).trans (show _ = some (Value.string mp) from rfl); have hQ1 := (hSw.1.cell 1).trans (show _ = some (Value.bool true) from rfl); have hQ2 := (hSw.1.cell 2).trans (show _ = some (Value.slice none 0 0) from rfl); have hQ8 := (hSw.1.cell 8).trans (show _ = some (Value.string pfx) from rfl); go_simp; try (with_reducible rfl))
                  (try dsimp only [Act.put]); try simp only [Act.put, List.setIfInBounds_toArray, List.set_cons_zero, List.set_cons_succ]
                  refine takeD (i := 18) (some 75) (v := undef) rfl rfl (by kernel_rfl) (by kernel_rfl) (by kernel_rfl) (fun _ _ _ h => h) (Or.inr ⟨by kernel_rfl, by kernel_rfl⟩) (by assumption) ?_
                  (try dsimp only [Act.put]); try simp only [Act.put, List.setIfInBounds_toArray, List.set_cons_zero, List.set_cons_succ]
                  refine takeD (i := 19) (some 76) (v := undef) rfl rfl (by kernel_rfl) (by kernel_rfl) (by kernel_rfl) (fun _ _ _ h => h) (Or.inr ⟨by kernel_rfl, by kernel_rfl⟩) (by assumption) ?_
                  (try dsimp only [Act.put]); try simp only [Act.put, List.setIfInBounds_toArray, List.set_cons_zero, List.set_cons_succ]
                  refine takeD (i := 20) (some 77) (v := undef) rfl rfl (by kernel_rfl) (by kernel_rfl) (by kernel_rfl) (fun _ _ _ h => h) (Or.inr ⟨by kernel_rfl, by kernel_rfl⟩) (by assumption) ?_
                  (try dsimp only [Act.put]); try simp only [Act.put, List.setIfInBounds_toArray, List.set_cons_zero, List.set_cons_succ]
                  refine takeD (i := 21) (some 78) (v := undef) rfl rfl (by kernel_rfl) (by kernel_rfl) (by kernel_rfl) (fun _ _ _ h => h) (Or.inr ⟨by kernel_rfl, by kernel_rfl⟩) (by assumption) ?_
                  (try dsimp only [Act.put]); try simp only [Act.put, List.setIfInBounds_toArray, List.set_cons_zero, List.set_cons_succ]
                  refine takeD (i := 22) (some 79) (v := ?_) rfl rfl (by kernel_rfl) (by kernel_rfl) (by kernel_rfl) (fun _ _ _ h => h) (Or.inl ⟨by kernel_rfl, ?_⟩) (by assumption) ?_
                  rotate_left
                  · (intro w hSw; (try dsimp only at hSw); have hQc := (hSw.2.cell k).trans Hx.out; have hQ0 := (hSw.1.cell 0).trans (show _ = some (Value.string mp) from rfl); have hQ1 := (hSw.1.cell 1).trans (show _ = some (Value.bool true) from rfl); have hQ2 := (hSw.1.cell 2).trans (show _ = some (Value.slice none 0 0) from rfl); have hQ8 := (hSw.1.cell 8).trans (show _ = some (Value.string pfx) from rfl); go_simp; try (with_reducible rfl))
                  (try dsimp only [Act.put]); try simp only [Act.put, List.setIfInBounds_toArray, List.set_cons_zero, List.set_cons_succ]
                  refine wpAnyH_done (by kernel_rfl) ?_ _
                  refine NoPanic.normal ?_
                  have HL6 := Lib.hid ((HF8.out.drew).trans hg4)
                  go_wp2_with fail
                  go_roundw
                  case rel => exact ⟨k + 1, by omega, by go_num, HL5.out.frm HL6.out (fun h => h), HR5.out.frm HL6.out (fun h => h), Hf5.out.trans HL6.out⟩
                  case measure => simp [intOf]; omega
                exact AllReadyH.nil
              exact AllReadyH.nil
            exact AllReadyH.nil
        exact AllReadyH.nil
    · obtain rfl : k = 2 := by omega
      have hm5 := hmax.keep hf5
      have HL5 := Lib.hid hL5
      have HR5 := Lib.hid hR5
      have Hf5 := Lib.hid hf5
      have Hm5 := Lib.hid hm5
      clear hL5 hR5 hf5 hm5
      go_wp2_with fail
      refine (rlives_any _ Hm5.out).mono ?_
      rintro e yz ⟨rfl, hgz⟩
      have Hfz := Lib.hid (Hf5.out.trans hgz)
      clear hgz
      go_wp2_with fail
      go_ret
      exact ⟨rfl, Hfz.out.below (Nat.le_refl _) (fun _ _ h => h)⟩
end Go.Proofs.YtbeilgkogbcjjaaDoor
