/- What heads become, of the program and of the reference; the document's example. -/
import Derived.Test.YtbeilgkogbcjjaaDoorRewRef
import Derived.Test.YtbeilgkogbcjjaaDoorHeadDrops
import Derived.Test.YtbeilgkogbcjjaaDoorStoreNew
import Derived.Outline
set_option linter.unusedVariables false
namespace Go.Proofs.YtbeilgkogbcjjaaDoor
open Go.RowKit

theorem NoDup.drop {l : List Hd} (h : NoDup l) (ns : List ByteArray) : NoDup (dropL l ns) := (List.Sublist.map _ List.filter_sublist).nodup h
set_option maxRecDepth 100000 in
set_option maxHeartbeats 4000000 in
theorem rew_heads_any (mp : ByteArray) (ex : Bool) (pfx : ByteArray) (sv dv lv : Value) (l S : List Hd) (D : List ByteArray) (w : World) (hl : HV w lv l) (hn : l.length ≤ 1000) (hnd : NoDup l) (hs : HV w sv S) (hd : SV w dv D) :
    Calls Tryd.prog 20 #[ruleV mp ex pfx sv dv, lv] w fun e w' => ∃ v, e = .returned v ∧ HV w' v (setAll (dropL l D) S) ∧ Frm noB w w' := by
  obtain ⟨sa, sc, rfl, _⟩ := hs.shape
  obtain ⟨da, dc, rfl, _⟩ := hd.shape
  obtain ⟨la, lc, rfl, _⟩ := hl.shape
  obtain ⟨n1, hn1⟩ : ∃ n, n = S.length := ⟨_, rfl⟩
  obtain ⟨n2, hn2⟩ : ∃ n, n = D.length := ⟨_, rfl⟩
  obtain ⟨n3, hn3⟩ : ∃ n, n = l.length := ⟨_, rfl⟩
  rw [← hn1] at hs ⊢
  rw [← hn2] at hd ⊢
  rw [← hn3] at hl ⊢
  have hB := Blk.made w (ruleC mp ex pfx (.slice sa n1 sc) (.slice da n2 dc)) 35
  have fa := (Frm.refl noB w).alloc (.cells (ruleC mp ex pfx (.slice sa n1 sc) (.slice da n2 dc)) 35)
  have b9 := (hB.cell 9).trans (show _ = some (Value.slice sa n1 sc) from rfl)
  have b10 := (hB.cell 10).trans (show _ = some (Value.slice da n2 dc) from rfl)
  have hs1 := hs.keep fa
  have hd1 := hd.keep fa
  have hl1 := hl.keep fa
  unfold ruleV
  unfold ruleC at *
  have hdl : (dropL l D).length ≤ 1000 := Nat.le_trans (dropL_len _ _) (by omega)
  have hll : l.length ≤ 1000 := by omega
  have hnd2 := hnd.drop D
  have Hn1 := Lib.hid hn1
  have Hn2 := Lib.hid hn2
  have Hn3 := Lib.hid hn3
  have Hs := Lib.hid hs
  have Hd := Lib.hid hd
  have Hl := Lib.hid hl
  clear hn1 hn2 hn3 hs hd hl
  go_enter Tryd.func20, Tryd.ntmps20
  go_upto_region 1 with fail
  generalize w.alloc (.cells #[.string mp, .bool ex, .slice none 0 0, .slice none 0 0, .int .i64 0, .int .i64 0, .int .i64 0, .int .i64 0, .string pfx, .slice sa n1 sc, .slice da n2 dc, .int .i64 0, .int .i64 0, .int .i64 0, .int .i64 0, .int .i64 0, .int .i64 0, .int .i64 0, .int .i64 0] 35) = W at *
  clear hB
  go_region_held3 (fun X => X.cell? ⟨w.heap.size, 9, none⟩ = some (.slice sa n1 sc) ∧ X.cell? ⟨w.heap.size, 10, none⟩ = some (.slice da n2 dc)) (first | (with_reducible (refine ⟨?_, ?_⟩ <;> assumption)) | exact ⟨b9, b10⟩)
    (first
      | (go_at_call 40; (with_reducible refine (drop_hv _ _ l D _ ?_ hll ?_).mono ?_); (focus ((with_reducible refine HV.keep hl1 ?_); (with_reducible refine Frm.drew ?_); exact Frm.refl _ _)); (focus ((with_reducible refine SV.keep hd1 ?_); (with_reducible refine Frm.drew ?_); exact Frm.refl _ _)); rintro e y1 ⟨v1, rfl, hv1, hg1⟩; have c9 := cell_frm hg1 (fun h => h) b9; have c10 := cell_frm hg1 (fun h => h) b10)
      | (go_at_call 39; (with_reducible refine (set_hv _ _ (dropL l D) S _ hv1 hdl hnd2 ?_).mono ?_); (focus ((with_reducible refine HV.keep hs1 ?_); (with_reducible refine Frm.trans ?_ hg1); (with_reducible refine Frm.drew ?_); exact Frm.refl _ _)); rintro e y2 ⟨v2, rfl, hv2, hg2⟩; have d9 := cell_frm hg2 (fun h => h) c9; have d10 := cell_frm hg2 (fun h => h) c10))
  have hfin := ((fa.drew).trans hg1).trans hg2
  have Hv2 := Lib.hid hv2
  have Hfin := Lib.hid hfin
  clear hv2 hfin
  clear hg1 hg2 hv1 hs1 hd1 hl1 b9 b10 c9 c10 d9 d10
  go_wp2_with fail
  go_ret
  exact ⟨_, rfl, Hv2.out, Hfin.out⟩
set_option maxRecDepth 100000 in
set_option maxHeartbeats 4000000 in
theorem ref_heads_any (mp : ByteArray) (ex : Bool) (pfx : ByteArray) (sv dv lv : Value) (l S : List Hd) (D : List ByteArray) (w : World) (hl : HV w lv l) (hn : l.length ≤ 1000) (hs : HV w sv S) (hd : SV w dv D) :
    Calls Tryd.prog 21 #[ruleV mp ex pfx sv dv, lv] w fun e w' => ∃ v, e = .returned v ∧ HV w' v (setAll (dropL l D) S) ∧ Frm noB w w' := by
  obtain ⟨sa, sc, rfl, _⟩ := hs.shape
  obtain ⟨da, dc, rfl, _⟩ := hd.shape
  obtain ⟨la, lc, rfl, _⟩ := hl.shape
  obtain ⟨n1, hn1⟩ : ∃ n, n = S.length := ⟨_, rfl⟩
  obtain ⟨n2, hn2⟩ : ∃ n, n = D.length := ⟨_, rfl⟩
  obtain ⟨n3, hn3⟩ : ∃ n, n = l.length := ⟨_, rfl⟩
  rw [← hn1] at hs ⊢
  rw [← hn2] at hd ⊢
  rw [← hn3] at hl ⊢
  have hB := Blk.made w (ruleC mp ex pfx (.slice sa n1 sc) (.slice da n2 dc)) 35
  have fa := (Frm.refl noB w).alloc (.cells (ruleC mp ex pfx (.slice sa n1 sc) (.slice da n2 dc)) 35)
  have b9 := (hB.cell 9).trans (show _ = some (Value.slice sa n1 sc) from rfl)
  have b10 := (hB.cell 10).trans (show _ = some (Value.slice da n2 dc) from rfl)
  have hs1 := hs.keep fa
  have hd1 := hd.keep fa
  have hl1 := hl.keep fa
  unfold ruleV
  unfold ruleC at *
  have hdl : (dropL l D).length ≤ 1000 := Nat.le_trans (dropL_len _ _) (by omega)
  have hll : l.length ≤ 1000 := by omega
  have Hn1 := Lib.hid hn1
  have Hn2 := Lib.hid hn2
  have Hn3 := Lib.hid hn3
  have Hs := Lib.hid hs
  have Hd := Lib.hid hd
  have Hl := Lib.hid hl
  clear hn1 hn2 hn3 hs hd hl
  go_enter Tryd.func21, Tryd.ntmps21
  go_upto_region 1 with fail
  generalize w.alloc (.cells #[.string mp, .bool ex, .slice none 0 0, .slice none 0 0, .int .i64 0, .int .i64 0, .int .i64 0, .int .i64 0, .string pfx, .slice sa n1 sc, .slice da n2 dc, .int .i64 0, .int .i64 0, .int .i64 0, .int .i64 0, .int .i64 0, .int .i64 0, .int .i64 0, .int .i64 0] 35) = W at *
  clear hB
  go_region_held3 (fun X => X.cell? ⟨w.heap.size, 9, none⟩ = some (.slice sa n1 sc) ∧ X.cell? ⟨w.heap.size, 10, none⟩ = some (.slice da n2 dc)) (first | (with_reducible (refine ⟨?_, ?_⟩ <;> assumption)) | exact ⟨b9, b10⟩)
    (first
      | (go_at_call 42; (with_reducible refine (rdrop_hv _ _ l D _ ?_ hll ?_).mono ?_); (focus ((with_reducible refine HV.keep hl1 ?_); (with_reducible refine Frm.drew ?_); exact Frm.refl _ _)); (focus ((with_reducible refine SV.keep hd1 ?_); (with_reducible refine Frm.drew ?_); exact Frm.refl _ _)); rintro e y1 ⟨v1, rfl, hv1, hg1⟩; have c9 := cell_frm hg1 (fun h => h) b9; have c10 := cell_frm hg1 (fun h => h) b10)
      | (go_at_call 41; (with_reducible refine (rset_hv _ _ (dropL l D) S _ hv1 hdl ?_).mono ?_); (focus ((with_reducible refine HV.keep hs1 ?_); (with_reducible refine Frm.trans ?_ hg1); (with_reducible refine Frm.drew ?_); exact Frm.refl _ _)); rintro e y2 ⟨v2, rfl, hv2, hg2⟩; have d9 := cell_frm hg2 (fun h => h) c9; have d10 := cell_frm hg2 (fun h => h) c10))
  have hfin := ((fa.drew).trans hg1).trans hg2
  have Hv2 := Lib.hid hv2
  have Hfin := Lib.hid hfin
  clear hv2 hfin
  clear hg1 hg2 hv1 hs1 hd1 hl1 b9 b10 c9 c10 d9 d10
  go_wp2_with fail
  go_ret
  exact ⟨_, rfl, Hv2.out, Hfin.out⟩

theorem ok_of {ps : List (List UInt8)} (h : ps.all okPart = true) : PartsOk ps := fun p hp => List.all_eq_true.1 h p hp
theorem lv7a : bs (rewP (⟨#[47, 120]⟩ : ByteArray).data.toList [[97]] false (⟨#[47, 97, 47, 98]⟩ : ByteArray).data.toList) = ⟨#[47, 120, 47, 98]⟩ := by
  have h := rewP_path (a := [[97], [98]]) (b := [[97]]) (c := [[120]]) (ok_of (by decide)) (ok_of (by decide)) (ok_of (by decide)) (by decide)
  rw [show pathOf [[97], [98]] = [47, 97, 47, 98] from by decide, show pathOf [[120]] = [47, 120] from by decide] at h
  show bs (rewP [47, 120] [[97]] false [47, 97, 47, 98]) = bs [47, 120, 47, 98]
  rw [h]
  decide
theorem lv7b : bs (rewP (⟨#[47, 120]⟩ : ByteArray).data.toList [[97]] false (⟨#[47, 99]⟩ : ByteArray).data.toList) = ⟨#[47, 99]⟩ := by
  have h := rewP_path (a := [[99]]) (b := [[97]]) (c := [[120]]) (ok_of (by decide)) (ok_of (by decide)) (ok_of (by decide)) (by decide)
  rw [show pathOf [[99]] = [47, 99] from by decide, show pathOf [[120]] = [47, 120] from by decide] at h
  show bs (rewP [47, 120] [[97]] false [47, 99]) = bs [47, 99]
  rw [h]
  decide
theorem lv7c : bs (rewP (⟨#[47]⟩ : ByteArray).data.toList [[97]] false (⟨#[47, 97, 47, 98]⟩ : ByteArray).data.toList) = ⟨#[47, 98]⟩ := by
  have h := rewP_path (a := [[97], [98]]) (b := [[97]]) (c := []) (ok_of (by decide)) (ok_of (by decide)) (ok_of (by decide)) (by decide)
  rw [show pathOf [[97], [98]] = [47, 97, 47, 98] from by decide, show pathOf [] = [47] from by decide] at h
  show bs (rewP [47] [[97]] false [47, 97, 47, 98]) = bs [47, 98]
  rw [h]
  decide
theorem lv7d : bs (rewP (⟨#[47]⟩ : ByteArray).data.toList [[97]] false (⟨#[47, 97]⟩ : ByteArray).data.toList) = ⟨#[47]⟩ := by
  have h := rewP_path (a := [[97]]) (b := [[97]]) (c := []) (ok_of (by decide)) (ok_of (by decide)) (ok_of (by decide)) (by decide)
  rw [show pathOf [[97]] = [47, 97] from by decide, show pathOf [] = [47] from by decide] at h
  show bs (rewP [47] [[97]] false [47, 97]) = bs [47]
  rw [h]
  decide
theorem a_ok : PartsOk [[97]] := fun p hp => by simp at hp; subst hp; decide
theorem rew_a (pfx : ByteArray) (hp : pfx.size ≤ 1000) (path r : ByteArray) (hps : path.size ≤ 1000) (hr : bs (rewP pfx.data.toList [[97]] false path.data.toList) = r) (w : World) (hm : MaxL w) :
    Calls Tryd.prog 13 #[.agg (ruleC ⟨#[47, 97]⟩ false pfx (.slice none 0 0) (.slice none 0 0)), .string path] w fun e w' => e = .returned (.string r) ∧ Frm noB w w' := by
  have := rew_path_any [[97]] a_ok (by decide) false pfx hp none 0 0 none 0 0 path hps w hm
  rw [hr] at this
  exact this
theorem rew_c1 (w : World) (hm : MaxL w) : Calls Tryd.prog 13 #[.agg (ruleC ⟨#[47, 97]⟩ false ⟨#[47, 120]⟩ (.slice none 0 0) (.slice none 0 0)), .string ⟨#[47, 97, 47, 98]⟩] w fun e w' => e = .returned (.string ⟨#[47, 120, 47, 98]⟩) ∧ Frm noB w w' :=
  rew_a ⟨#[47, 120]⟩ (by decide) ⟨#[47, 97, 47, 98]⟩ ⟨#[47, 120, 47, 98]⟩ (by decide) lv7a w hm
theorem rew_c2 (w : World) (hm : MaxL w) : Calls Tryd.prog 13 #[.agg (ruleC ⟨#[47, 97]⟩ false ⟨#[47, 120]⟩ (.slice none 0 0) (.slice none 0 0)), .string ⟨#[47, 99]⟩] w fun e w' => e = .returned (.string ⟨#[47, 99]⟩) ∧ Frm noB w w' :=
  rew_a ⟨#[47, 120]⟩ (by decide) ⟨#[47, 99]⟩ ⟨#[47, 99]⟩ (by decide) lv7b w hm
theorem rew_c3 (w : World) (hm : MaxL w) : Calls Tryd.prog 13 #[.agg (ruleC ⟨#[47, 97]⟩ false ⟨#[47]⟩ (.slice none 0 0) (.slice none 0 0)), .string ⟨#[47, 97, 47, 98]⟩] w fun e w' => e = .returned (.string ⟨#[47, 98]⟩) ∧ Frm noB w w' :=
  rew_a ⟨#[47]⟩ (by decide) ⟨#[47, 97, 47, 98]⟩ ⟨#[47, 98]⟩ (by decide) lv7c w hm
theorem rew_c4 (w : World) (hm : MaxL w) : Calls Tryd.prog 13 #[.agg (ruleC ⟨#[47, 97]⟩ false ⟨#[47]⟩ (.slice none 0 0) (.slice none 0 0)), .string ⟨#[47, 97]⟩] w fun e w' => e = .returned (.string ⟨#[47]⟩) ∧ Frm noB w w' :=
  rew_a ⟨#[47]⟩ (by decide) ⟨#[47, 97]⟩ ⟨#[47]⟩ (by decide) lv7d w hm
theorem info_rule : (Tryd.prog.info? 35).map (·.size) = some 19 := by kernel_rfl
set_option maxRecDepth 100000 in
set_option maxHeartbeats 4000000 in
theorem rlives_any (w : World) (hm : MaxL w) : Calls Tryd.prog 15 #[] w fun e w' => e = .returned (.bool true) ∧ Frm noB w w' := by
  have c1 := rew_c1
  have c2 := rew_c2
  have c3 := rew_c3
  have c4 := rew_c4
  have hB1 := (Blk.made w (ruleC ⟨#[47, 97]⟩ false ⟨#[47, 120]⟩ (.slice none 0 0) (.slice none 0 0)) 35).alloc (.cells (ruleC ⟨#[47, 97]⟩ false ⟨#[47]⟩ (.slice none 0 0) (.slice none 0 0)) 35)
  have hB2 := Blk.made (w.alloc (.cells (ruleC ⟨#[47, 97]⟩ false ⟨#[47, 120]⟩ (.slice none 0 0) (.slice none 0 0)) 35)) (ruleC ⟨#[47, 97]⟩ false ⟨#[47]⟩ (.slice none 0 0) (.slice none 0 0)) 35
  have fa := ((Frm.refl noB w).alloc (.cells (ruleC ⟨#[47, 97]⟩ false ⟨#[47, 120]⟩ (.slice none 0 0) (.slice none 0 0)) 35)).alloc (.cells (ruleC ⟨#[47, 97]⟩ false ⟨#[47]⟩ (.slice none 0 0) (.slice none 0 0)) 35)
  have hm1 := hm.keep fa
  rw [World.size_alloc] at hB2
  unfold ruleC at *
  have Hc1 := Lib.hid c1
  have Hc2 := Lib.hid c2
  have Hc3 := Lib.hid c3
  have Hc4 := Lib.hid c4
  have HB1 := Lib.hid hB1
  have HB2 := Lib.hid hB2
  have Hfa := Lib.hid fa
  have Hm := Lib.hid hm
  have Hm1 := Lib.hid hm1
  clear c1 c2 c3 c4 hB1 hB2 fa hm hm1
  go_enter Tryd.func15, Tryd.ntmps15
  have bA := HB1.out
  have bC := HB2.out
  go_wp2_with (first | (refine wpl_load_blk (by rfl) 35 _ (by rfl) _ (by rfl) _ _ (by first | exact bA | exact bC) _ Tryd.underlying35 (by rfl) (by exact info_rule) ?_) | refine wpl_store_new _ (by rfl) 35 _ _ (by rfl) _ (by rfl) (by first | rfl | simp) _ _ _ (by rfl) (by exact info_rule) (by rfl) (by kernel_rfl) ?_)
  have HA0 := HB1
  have HC0 := HB2
  have Hff0 := Hfa
  refine (Hc1.out _ Hm1.out).mono ?_
  clear bA bC
  rintro e x1 ⟨rfl, hg1⟩
  have hA1 := HA0.out.frm hg1 (fun h => h)
  have hC1 := HC0.out.frm hg1 (fun h => h)
  have bA := hA1
  have bC := hC1
  have hm2 := Hm1.out.keep hg1
  have hff1 := Hff0.out.trans hg1
  have HA1 := Lib.hid hA1
  have HC1 := Lib.hid hC1
  have Hm2 := Lib.hid hm2
  have Hff1 := Lib.hid hff1
  have Hg1 := Lib.hid hg1
  clear hA1 hC1 hm2 hff1 hg1
  go_wp2_with (refine wpl_load_blk (by rfl) 35 _ (by rfl) _ (by rfl) _ _ (by first | exact bA | exact bC) _ Tryd.underlying35 (by rfl) (by exact info_rule) ?_)
  refine (Hc2.out _ Hm2.out).mono ?_
  clear bA bC
  rintro e x2 ⟨rfl, hg2⟩
  have hA2 := HA1.out.frm hg2 (fun h => h)
  have hC2 := HC1.out.frm hg2 (fun h => h)
  have bA := hA2
  have bC := hC2
  have hm3 := Hm2.out.keep hg2
  have hff2 := Hff1.out.trans hg2
  have HA2 := Lib.hid hA2
  have HC2 := Lib.hid hC2
  have Hm3 := Lib.hid hm3
  have Hff2 := Lib.hid hff2
  have Hg2 := Lib.hid hg2
  clear hA2 hC2 hm3 hff2 hg2
  go_wp2_with (refine wpl_load_blk (by rfl) 35 _ (by rfl) _ (by rfl) _ _ (by first | exact bA | exact bC) _ Tryd.underlying35 (by rfl) (by exact info_rule) ?_)
  refine (Hc3.out _ Hm3.out).mono ?_
  clear bA bC
  rintro e x3 ⟨rfl, hg3⟩
  have hA3 := HA2.out.frm hg3 (fun h => h)
  have hC3 := HC2.out.frm hg3 (fun h => h)
  have bA := hA3
  have bC := hC3
  have hm4 := Hm3.out.keep hg3
  have hff3 := Hff2.out.trans hg3
  have HA3 := Lib.hid hA3
  have HC3 := Lib.hid hC3
  have Hm4 := Lib.hid hm4
  have Hff3 := Lib.hid hff3
  have Hg3 := Lib.hid hg3
  clear hA3 hC3 hm4 hff3 hg3
  go_wp2_with (refine wpl_load_blk (by rfl) 35 _ (by rfl) _ (by rfl) _ _ (by first | exact bA | exact bC) _ Tryd.underlying35 (by rfl) (by exact info_rule) ?_)
  refine (Hc4.out _ Hm4.out).mono ?_
  clear bA bC
  rintro e x4 ⟨rfl, hg4⟩
  have hA4 := HA3.out.frm hg4 (fun h => h)
  have hC4 := HC3.out.frm hg4 (fun h => h)
  have bA := hA4
  have bC := hC4
  have hm5 := Hm4.out.keep hg4
  have hff4 := Hff3.out.trans hg4
  have HA4 := Lib.hid hA4
  have HC4 := Lib.hid hC4
  have Hm5 := Lib.hid hm5
  have Hff4 := Lib.hid hff4
  have Hg4 := Lib.hid hg4
  clear hA4 hC4 hm5 hff4 hg4
  go_wp2_with (refine wpl_load_blk (by rfl) 35 _ (by rfl) _ (by rfl) _ _ (by first | exact bA | exact bC) _ Tryd.underlying35 (by rfl) (by exact info_rule) ?_)
  go_ret
  exact ⟨rfl, Hff4.out⟩
end Go.Proofs.YtbeilgkogbcjjaaDoor
