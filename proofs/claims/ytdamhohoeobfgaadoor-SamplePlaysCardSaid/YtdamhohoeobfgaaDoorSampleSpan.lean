/- Spans that are made of numbers. -/
import Derived.Test.YtdamhohoeobfgaaDoorSampleOf
import Derived.Test.YtdamhohoeobfgaaDoorTraceName
import Derived.Test.YtdamhohoeobfgaaDoorStoreNew
import Derived.Test.YtdamhohoeobfgaaDoorTakeD
import Derived.RegionTactic
import Derived.Outline
set_option linter.unusedVariables false
set_option linter.unusedSimpArgs false
namespace Go.Proofs.YtdamhohoeobfgaaDoor
open Go.RowKit

def tildeL (k : Nat) : List UInt8 := if k / 6 % 5 / 4 = 1 then [126] else []
def frontL (k : Nat) : List UInt8 := decL (1 + (k : Int) % 6) ++ tildeL k ++ [58] ++ decL (1 + (k : Int) / 30 % 3)
def nameL (k : Nat) : List UInt8 := if k / 90 % 3 = 1 then frontL k ++ [47] ++ decL ((k : Int) / 270 % 3) ++ [58, 49] else frontL k
def spanOf (k : Nat) : Spn := ⟨bs (nameL k), 1 + (k : Int) / 810 % 4, (k : Int) / 3240 % 20, (k : Int) / 3240 % 20 + (k : Int) / 64800 % 9, (k : Int) % 2 == 0, (k : Int) % 3⟩
theorem front_read (k : Nat) : readL (frontL k) = some (1 + (k : Int) % 6, true) := by
  obtain ⟨a1, a2, a3⟩ := dec_small 1 (1 + (k : Int) % 6) (by omega) (by omega) (.inr rfl) (by omega)
  obtain ⟨b1, b2, b3⟩ := dec_small 1 (1 + (k : Int) / 30 % 3) (by omega) (by omega) (.inr rfl) (by omega)
  have h1 := readL_dec a1
  rw [a2] at h1
  have h2 : readL (decL (1 + (k : Int) % 6) ++ tildeL k) = some (1 + (k : Int) % 6, false) := by
    unfold tildeL
    split
    · exact readL_tilde h1
    · rw [List.append_nil]; exact h1
  have h3 := readL_colon h2 b1
  unfold frontL
  rw [List.append_assoc, List.append_assoc, List.singleton_append, ← List.append_assoc]
  exact h3
theorem name_read (k : Nat) : readL (nameL k) = some (1 + (k : Int) % 6, true) := by
  unfold nameL
  split
  · obtain ⟨a1, a2, a3⟩ := dec_small 0 ((k : Int) / 270 % 3) (by omega) (by omega) (.inl rfl) (by omega)
    have h1 := readL_slash (front_read k) a1
    have h2 := readL_colon h1 (d := [49]) (by decide)
    rw [show frontL k ++ [47] ++ decL ((k : Int) / 270 % 3) ++ [58, 49] = frontL k ++ 47 :: decL ((k : Int) / 270 % 3) ++ 58 :: [49] from by simp]
    exact h2
  · exact front_read k
theorem front_len (k : Nat) : (frontL k).length ≤ 4 := by
  have h1 := (dec_small 1 (1 + (k : Int) % 6) (by omega) (by omega) (.inr rfl) (by omega)).2.2
  have h2 := (dec_small 1 (1 + (k : Int) / 30 % 3) (by omega) (by omega) (.inr rfl) (by omega)).2.2
  have h3 : (tildeL k).length ≤ 1 := by unfold tildeL; split <;> simp
  unfold frontL
  simp only [List.length_append, List.length_cons, List.length_nil]
  omega
theorem name_len (k : Nat) : (nameL k).length ≤ 8 := by
  have h1 := front_len k
  have h2 := (dec_small 0 ((k : Int) / 270 % 3) (by omega) (by omega) (.inl rfl) (by omega)).2.2
  unfold nameL
  split
  · simp only [List.length_append, List.length_cons, List.length_nil]; omega
  · omega
theorem front_head (k : Nat) : ∃ c m, frontL k = UInt8.ofNat (49 + k % 6) :: c :: m ∧ (c = 58 ∨ c = 126) := by
  have h1 : decL (1 + (k : Int) % 6) = [UInt8.ofNat (49 + k % 6)] := by
    rw [decL_small (by omega) (by omega)]
    congr 2
    omega
  unfold frontL tildeL
  rw [h1]
  split
  · exact ⟨126, _, rfl, .inr rfl⟩
  · exact ⟨58, _, rfl, .inl rfl⟩
theorem name_head (k : Nat) : ∃ c m, nameL k = UInt8.ofNat (49 + k % 6) :: c :: m ∧ (c = 58 ∨ c = 126) := by
  obtain ⟨c, m, h, hc⟩ := front_head k
  unfold nameL
  split
  · exact ⟨c, m ++ [47] ++ decL ((k : Int) / 270 % 3) ++ [58, 49], by rw [h]; simp, hc⟩
  · exact ⟨c, m, h, hc⟩
theorem spanOf_rq (k : Nat) : rq (spanOf k) = 1 + (k : Int) % 6 := by
  show reqL (nameL k) = _
  unfold reqL
  rw [name_read]
theorem spanOf_nm (k : Nat) : NmS (spanOf k) := by
  obtain ⟨c, m, h, hc⟩ := name_head k
  exact ⟨k % 6, ⟨c, m, by omega, hc, h, by show (bs (nameL k)).size ≤ 100; rw [bs_size]; have := name_len k; omega⟩, by rw [spanOf_rq]; omega⟩
theorem spanOf_size (k : Nat) : (spanOf k).name.size ≤ 8 := by show (bs (nameL k)).size ≤ 8; rw [bs_size]; exact name_len k
theorem info_spz : (Tryd.prog.info? 39).map (·.size) = some 6 := by kernel_rfl
theorem span_res (tmps : Array Value) (w : World) (B : Nat) (cs : Array Value) (T : TypeId) (h : tmps[2]?.getD undef = .pointer (some ⟨B, 0, none⟩)) (hB : Blk w B cs T) (hs : cs.size = 6) :
    (results Tryd.f18 tmps).run Tryd.prog w = .ok (.agg cs) w := by
  have hl := run_loadVar_mid (P := Tryd.prog) w B 0 39 cs.toList _ (fun j v hv => by rw [Nat.zero_add, hB.cell]; simpa using hv) Tryd.underlying39 rfl (by rw [Array.length_toList, hs]; exact info_spz)
  simp only [Array.toArray_toList] at hl
  simp [results, Tryd.results18, asAddr, h, hl]

set_option maxRecDepth 100000 in
set_option maxHeartbeats 4000000 in
theorem span_any (n : Int) (w : World) (h0 : -9223372036854775808 ≤ n) (h1 : n ≤ 9223372036854775807) :
    Calls Tryd.prog 18 #[.int .i64 n] w fun e w' => e = .returned (spnV (spanOf (around n 1000000))) ∧ Frm noB w w' := by
  obtain ⟨k, hkk⟩ : ∃ k, k = around n 1000000 := ⟨_, rfl⟩
  have hk := around_lt n 1000000 (by omega)
  rw [← hkk] at hk
  have har := fun w => around_any n 1000000 w h0 h1 (by omega) (by omega)
  rw [← hkk] at har ⊢
  have hkb : k < 1000000 := by omega
  obtain ⟨W1, hW1⟩ : ∃ X, X = w.alloc (.cells #[.string ⟨#[]⟩, .int .i64 0, .int .i64 0, .int .i64 0, .bool false, .int .i64 0] 39) := ⟨_, rfl⟩
  have hB1 : Blk W1 w.heap.size #[.string ⟨#[]⟩, .int .i64 0, .int .i64 0, .int .i64 0, .bool false, .int .i64 0] 39 := by rw [hW1]; exact Blk.made w _ _
  have hF1 : Frm noB w W1 := by rw [hW1]; exact (Frm.refl noB w).alloc _
  have hd1 := fun W => decimal_any (1 + (k : Int) % 6) W (by omega) (by omega)
  have hd2 := fun W => decimal_any (1 + (k : Int) / 30 % 3) W (by omega) (by omega)
  have hd3 := fun W => decimal_any ((k : Int) / 270 % 3) W (by omega) (by omega)
  have hs1 : (bs (decL (1 + (k : Int) % 6))).size = 1 := by rw [bs_size]; exact (dec_small 1 (1 + (k : Int) % 6) (by omega) (by omega) (.inr rfl) (by omega)).2.2
  have hs2 : (bs (decL (1 + (k : Int) / 30 % 3))).size = 1 := by rw [bs_size]; exact (dec_small 1 (1 + (k : Int) / 30 % 3) (by omega) (by omega) (.inr rfl) (by omega)).2.2
  have hs3 : (bs (decL ((k : Int) / 270 % 3))).size = 1 := by rw [bs_size]; exact (dec_small 0 ((k : Int) / 270 % 3) (by omega) (by omega) (.inl rfl) (by omega)).2.2
  have hfro : bs (frontL k) = bs (decL (1 + (k : Int) % 6)) ++ bs (tildeL k) ++ (⟨#[58]⟩ : ByteArray) ++ bs (decL (1 + (k : Int) / 30 % 3)) := by
    rw [show (⟨#[58]⟩ : ByteArray) = bs [58] from rfl, bs_app, bs_app, bs_app]; rfl
  have hnam : k / 90 % 3 = 1 → bs (nameL k) = bs (frontL k) ++ (⟨#[47]⟩ : ByteArray) ++ bs (decL ((k : Int) / 270 % 3)) ++ (⟨#[58, 49]⟩ : ByteArray) := fun h => by
    rw [show (⟨#[47]⟩ : ByteArray) = bs [47] from rfl, show (⟨#[58, 49]⟩ : ByteArray) = bs [58, 49] from rfl, bs_app, bs_app, bs_app]; unfold nameL; rw [if_pos h]
  have hnam2 : ¬ k / 90 % 3 = 1 → nameL k = frontL k := fun h => by unfold nameL; rw [if_neg h]
  have htl : k / 6 % 5 / 4 = 1 → bs (tildeL k) = ⟨#[126]⟩ := fun h => by unfold tildeL; rw [if_pos h]; rfl
  have htl0 : ¬ k / 6 % 5 / 4 = 1 → bs (tildeL k) = ⟨#[]⟩ := fun h => by unfold tildeL; rw [if_neg h]; rfl
  have hfl : (bs (frontL k)).size ≤ 4 := by rw [bs_size]; exact front_len k
  obtain ⟨D1, hD1⟩ : ∃ D, D = bs (decL (1 + (k : Int) % 6)) := ⟨_, rfl⟩
  obtain ⟨D2, hD2⟩ : ∃ D, D = bs (decL (1 + (k : Int) / 30 % 3)) := ⟨_, rfl⟩
  obtain ⟨D3, hD3⟩ : ∃ D, D = bs (decL ((k : Int) / 270 % 3)) := ⟨_, rfl⟩
  unfold DecIs at hd1 hd2 hd3
  rw [← hD1] at hs1 hfro hd1
  rw [← hD2] at hs2 hfro hd2
  rw [← hD3] at hs3 hnam hd3
  obtain ⟨a1, ha1⟩ : ∃ D, D = 1 + (k : Int) % 6 := ⟨_, rfl⟩
  obtain ⟨b1, hb1⟩ : ∃ D, D = 1 + (k : Int) / 30 % 3 := ⟨_, rfl⟩
  rw [← ha1] at hd1
  rw [← hb1] at hd2
  have q30 : IntKind.i64.wrap ((k : Int) / 30) = (k : Int) / 30 := IntWalk.i64_in _ (by omega)
  have q6 : IntKind.i64.wrap ((k : Int) / 6) = (k : Int) / 6 := IntWalk.i64_in _ (by omega)
  have hw1 : IntKind.i64.wrap (1 + (k : Int).tmod 6) = a1 := by rw [ha1, Int.tmod_eq_emod_of_nonneg (by omega)]; exact IntWalk.i64_in _ (by omega)
  have hw2 : IntKind.i64.wrap (1 + (IntKind.i64.wrap ((k : Int) / 30)).tmod 3) = b1 := by rw [hb1, q30, Int.tmod_eq_emod_of_nonneg (by omega)]; exact IntWalk.i64_in _ (by omega)
  have hw3 : IntKind.i64.wrap (((IntKind.i64.wrap ((k : Int) / 6)).tmod 5).tdiv 4) = (k : Int) / 6 % 5 / 4 := by rw [q6, Int.tmod_eq_emod_of_nonneg (by omega), Int.tdiv_eq_ediv_of_nonneg (by omega)]; exact IntWalk.i64_in _ (by omega)
  clear q30 q6
  have Hkk := Lib.hid hkk
  have Hk := Lib.hid hk
  have Har := Lib.hid har
  have HB1 := Lib.hid hB1
  have HF1 := Lib.hid hF1
  have Hd1 := Lib.hid hd1
  have Hd2 := Lib.hid hd2
  have Hd3 := Lib.hid hd3
  have Hs1 := Lib.hid hs1
  have Hs2 := Lib.hid hs2
  have Hs3 := Lib.hid hs3
  have Hfro := Lib.hid hfro
  have Hnam := Lib.hid hnam
  have Hnam2 := Lib.hid hnam2
  have Htl := Lib.hid htl
  have Htl0 := Lib.hid htl0
  have Hfl := Lib.hid hfl
  have HD1 := Lib.hid hD1
  have HD2 := Lib.hid hD2
  have HD3 := Lib.hid hD3
  have Hw1 := Lib.hid hw1
  have Hw2 := Lib.hid hw2
  have Hw3 := Lib.hid hw3
  have Ha1 := Lib.hid ha1
  have Hb1 := Lib.hid hb1
  clear hkk hk har hB1 hF1 hd1 hd2 hd3 hs1 hs2 hs3 hfro hnam hnam2 htl htl0 hfl hD1 hD2 hD3 hw1 hw2 hw3 ha1 hb1
  go_enter Tryd.func18, Tryd.ntmps18
  go_wp2_with fail
  rw [← hW1]
  have HW1 := Lib.hid hW1
  clear hW1
  refine (Har.out _).mono ?_
  rintro e y1 ⟨rfl, hy⟩
  subst hy
  go_upto_region 2 with fail
  go_cut [4] (fun s wx => s = .string (bs (frontL k)) ∧ Frm noB W1 wx)
  case first =>
    have w1 := Hw1.out
    have w2 := Hw2.out
    by_cases ht : k / 6 % 5 / 4 = 1
    · have w3 := Hw3.out.trans (show (k : Int) / 6 % 5 / 4 = 1 by omega)
      have hfro := Hfro.out
      rw [Htl.out ht] at hfro
      clear Hfro
      have Hfro := Lib.hid hfro
      clear hfro
      have f1 : (9223372036854775807 < D1.size + 1) = False := eq_false (by rw [Hs1.out]; omega)
      have f2 : (9223372036854775807 < D1.size + 1 + 1) = False := eq_false (by rw [Hs1.out]; omega)
      have f3 : (9223372036854775807 < D1.size + 1 + 1 + D2.size) = False := eq_false (by rw [Hs1.out, Hs2.out]; omega)
      refine wp_region_noPanic ?_
      refine wp_region_held_drew (S := fun X => True) (by kernel_rfl) ?_ (fun hHeld => ?_)
      · exact trivial
      obtain ⟨u0, hu0⟩ : ∃ Wq, Wq = W1.drew := ⟨_, rfl⟩
      try rw [← hu0] at hHeld
      rw [← hu0]
      have hgd : Frm noB W1 u0 := by rw [hu0]; exact (Frm.refl noB W1).drew
      have HT0 := Lib.hid (hgd)
      have hz0 := hgd.size
      clear hu0 hgd
      refine takeD (i := 0) (some 7) (v := ?_) rfl rfl (by kernel_rfl) (by kernel_rfl) (by kernel_rfl) (fun _ _ _ h => h) (Or.inl ⟨by kernel_rfl, ?_⟩) (by assumption) ?_
      rotate_left
      · (intro w hSw; (try dsimp only at hSw); go_simp; try (with_reducible rfl))
      (try dsimp only [Act.put]); try simp only [Act.put, List.setIfInBounds_toArray, List.set_cons_zero, List.set_cons_succ]
      refine takeD (i := 1) (some 8) (v := ?_) rfl rfl (by kernel_rfl) (by kernel_rfl) (by kernel_rfl) (fun _ _ _ h => h) (Or.inl ⟨by kernel_rfl, ?_⟩) (by assumption) ?_
      rotate_left
      · (intro w hSw; (try dsimp only at hSw); go_simp; try (with_reducible rfl))
      (try dsimp only [Act.put]); try simp only [Act.put, List.setIfInBounds_toArray, List.set_cons_zero, List.set_cons_succ]
      refine takeD (i := 2) (some 9) (v := ?_) rfl rfl (by kernel_rfl) (by kernel_rfl) (by kernel_rfl) (fun _ _ _ h => h) (Or.inl ⟨by kernel_rfl, ?_⟩) (by assumption) ?_
      rotate_left
      · (intro w hSw; (try dsimp only at hSw); go_simp; try (with_reducible rfl))
      (try dsimp only [Act.put]); try simp only [Act.put, List.setIfInBounds_toArray, List.set_cons_zero, List.set_cons_succ]
      refine takeD (i := 5) (some 12) (v := ?_) rfl rfl (by kernel_rfl) (by kernel_rfl) (by kernel_rfl) (fun _ _ _ h => h) (Or.inl ⟨by kernel_rfl, ?_⟩) (by assumption) ?_
      rotate_left
      · (intro w hSw; (try dsimp only at hSw); go_simp; try (with_reducible rfl))
      (try dsimp only [Act.put]); try simp only [Act.put, List.setIfInBounds_toArray, List.set_cons_zero, List.set_cons_succ]
      refine takeD (i := 6) (some 13) (v := ?_) rfl rfl (by kernel_rfl) (by kernel_rfl) (by kernel_rfl) (fun _ _ _ h => h) (Or.inl ⟨by kernel_rfl, ?_⟩) (by assumption) ?_
      rotate_left
      · (intro w hSw; (try dsimp only at hSw); go_simp; try (with_reducible rfl))
      (try dsimp only [Act.put]); try simp only [Act.put, List.setIfInBounds_toArray, List.set_cons_zero, List.set_cons_succ]
      refine takeD (i := 7) (some 14) (v := ?_) rfl rfl (by kernel_rfl) (by kernel_rfl) (by kernel_rfl) (fun _ _ _ h => h) (Or.inl ⟨by kernel_rfl, ?_⟩) (by assumption) ?_
      rotate_left
      · (intro w hSw; (try dsimp only at hSw); go_simp; try (with_reducible rfl))
      (try dsimp only [Act.put]); try simp only [Act.put, List.setIfInBounds_toArray, List.set_cons_zero, List.set_cons_succ]
      refine takeD (i := 8) (some 15) (v := ?_) rfl rfl (by kernel_rfl) (by kernel_rfl) (by kernel_rfl) (fun _ _ _ h => h) (Or.inl ⟨by kernel_rfl, ?_⟩) (by assumption) ?_
      rotate_left
      · (intro w hSw; (try dsimp only at hSw); go_simp; try (with_reducible rfl))
      (try dsimp only [Act.put]); try simp only [Act.put, List.setIfInBounds_toArray, List.set_cons_zero, List.set_cons_succ]
      refine takeD (i := 13) (some 20) (v := ?_) rfl rfl (by kernel_rfl) (by kernel_rfl) (by kernel_rfl) (fun _ _ _ h => h) (Or.inl ⟨by kernel_rfl, ?_⟩) (by assumption) ?_
      rotate_left
      · (intro w hSw; (try dsimp only at hSw); go_simp; try (with_reducible rfl))
      (try dsimp only [Act.put]); try simp only [Act.put, List.setIfInBounds_toArray, List.set_cons_zero, List.set_cons_succ]
      refine takeD (i := 14) (some 21) (v := ?_) rfl rfl (by kernel_rfl) (by kernel_rfl) (by kernel_rfl) (fun _ _ _ h => h) (Or.inl ⟨by kernel_rfl, ?_⟩) (by assumption) ?_
      rotate_left
      · (intro w hSw; (try dsimp only at hSw); go_simp; try (with_reducible rfl))
      (try dsimp only [Act.put]); try simp only [Act.put, List.setIfInBounds_toArray, List.set_cons_zero, List.set_cons_succ]
      refine takeD (i := 15) (some 22) (v := ?_) rfl rfl (by kernel_rfl) (by kernel_rfl) (by kernel_rfl) (fun _ _ _ h => h) (Or.inl ⟨by kernel_rfl, ?_⟩) (by assumption) ?_
      rotate_left
      · (intro w hSw; (try dsimp only at hSw); go_simp; try (with_reducible rfl))
      (try dsimp only [Act.put]); try simp only [Act.put, List.setIfInBounds_toArray, List.set_cons_zero, List.set_cons_succ]
      refine takeD (i := 16) (some 23) (v := ?_) rfl rfl (by kernel_rfl) (by kernel_rfl) (by kernel_rfl) (fun _ _ _ h => h) (Or.inl ⟨by kernel_rfl, ?_⟩) (by assumption) ?_
      rotate_left
      · (intro w hSw; (try dsimp only at hSw); go_simp; try (with_reducible rfl))
      (try dsimp only [Act.put]); try simp only [Act.put, List.setIfInBounds_toArray, List.set_cons_zero, List.set_cons_succ]
      refine wpAnyH_ready (rs := [3, 4]) (by kernel_rfl) (by simp) ?_
      refine AllReadyH.cons rfl (fun K hK => ?_) ?_
      · go_simp
        (with_reducible refine (Hd1.out _).mono ?_)
        rintro e u1 ⟨rfl, hg⟩
        have HT1 := Lib.hid (HT0.out.trans hg)
        have hz1 := hg.size
        clear hg
        go_wp2_with fail
        refine hK.out _ _ ?_ (fun hHeld => ?_)
        · exact trivial
        clear hK K
        (try dsimp only [Act.put]); try simp only [Act.put, List.setIfInBounds_toArray, List.set_cons_zero, List.set_cons_succ]
        refine wpAnyH_ready (rs := [4, 17]) (by kernel_rfl) (by simp) ?_
        refine AllReadyH.cons rfl (fun K hK => ?_) ?_
        · go_simp
          generalize hw : World.alloc u1 _ = u2
          have hg : Frm noB u1 u2 := by rw [← hw]; exact (Frm.refl noB u1).alloc _
          have HT2 := Lib.hid (HT1.out.trans hg)
          have hz2 := hg.size
          have rT_2 := Lib.hid (show Blk u2 u1.heap.size #[.string ⟨#[]⟩, .string ⟨#[126]⟩] 9 by rw [← hw]; exact Blk.made u1 _ _)
          have hl2 : u1.heap.size < u2.heap.size := by rw [← hw]; simp
          clear hg hw
          refine hK.out _ _ ?_ (fun hHeld => ?_)
          · exact trivial
          clear hK K
          (try dsimp only [Act.put]); try simp only [Act.put, List.setIfInBounds_toArray, List.set_cons_zero, List.set_cons_succ]
          refine takeD (i := 9) (some 16) (v := ?_) rfl rfl (by kernel_rfl) (by kernel_rfl) (by kernel_rfl) (fun _ _ _ h => h) (Or.inl ⟨by kernel_rfl, ?_⟩) (by assumption) ?_
          rotate_left
          · (intro w hSw; (try dsimp only at hSw); go_simp; try (with_reducible rfl))
          (try dsimp only [Act.put]); try simp only [Act.put, List.setIfInBounds_toArray, List.set_cons_zero, List.set_cons_succ]
          refine wpAnyH_ready (rs := [10, 17]) (by kernel_rfl) (by simp) ?_
          refine AllReadyH.cons rfl (fun K hK => ?_) ?_
          · have qc := rT_2.out.cell 1
            have ql := rT_2.out.lt
            simp at qc
            go_simp
            clear qc ql
            refine hK.out _ _ ?_ (fun hHeld => ?_)
            · exact trivial
            clear hK K
            (try dsimp only [Act.put]); try simp only [Act.put, List.setIfInBounds_toArray, List.set_cons_zero, List.set_cons_succ]
            refine takeD (i := 11) (some 18) (v := ?_) rfl rfl (by kernel_rfl) (by kernel_rfl) (by kernel_rfl) (fun _ _ _ h => h) (Or.inl ⟨by kernel_rfl, ?_⟩) (by assumption) ?_
            rotate_left
            · (intro w hSw; (try dsimp only at hSw); go_simp; try (with_reducible rfl))
            (try dsimp only [Act.put]); try simp only [Act.put, List.setIfInBounds_toArray, List.set_cons_zero, List.set_cons_succ]
            refine takeD (i := 12) (some 19) (v := ?_) rfl rfl (by kernel_rfl) (by kernel_rfl) (by kernel_rfl) (fun _ _ _ h => h) (Or.inl ⟨by kernel_rfl, ?_⟩) (by assumption) ?_
            rotate_left
            · (intro w hSw; (try dsimp only at hSw); go_simp; try (with_reducible rfl))
            (try dsimp only [Act.put]); try simp only [Act.put, List.setIfInBounds_toArray, List.set_cons_zero, List.set_cons_succ]
            refine wpAnyH_ready (rs := [17]) (by kernel_rfl) (by simp) ?_
            refine AllReadyH.cons rfl (fun K hK => ?_) ?_
            · go_simp
              (with_reducible refine (Hd2.out _).mono ?_)
              rintro e u3 ⟨rfl, hg⟩
              have HT3 := Lib.hid (HT2.out.trans hg)
              have rT_3 := Lib.hid (rT_2.out.frm hg (fun h => h))
              have hz3 := hg.size
              clear hg
              go_wp2_with fail
              refine hK.out _ _ ?_ (fun hHeld => ?_)
              · exact trivial
              clear hK K
              (try dsimp only [Act.put]); try simp only [Act.put, List.setIfInBounds_toArray, List.set_cons_zero, List.set_cons_succ]
              refine takeD (i := 18) (some 25) (v := ?_) rfl rfl (by kernel_rfl) (by kernel_rfl) (by kernel_rfl) (fun _ _ _ h => h) (Or.inl ⟨by kernel_rfl, ?_⟩) (by assumption) ?_
              rotate_left
              · (intro w hSw; (try dsimp only at hSw); go_simp; try (with_reducible rfl))
              (try dsimp only [Act.put]); try simp only [Act.put, List.setIfInBounds_toArray, List.set_cons_zero, List.set_cons_succ]
              refine takeD (i := 19) (some 4) (v := ?_) rfl rfl (by kernel_rfl) (by kernel_rfl) (by kernel_rfl) (fun _ _ _ h => h) (Or.inl ⟨by kernel_rfl, ?_⟩) (by assumption) ?_
              rotate_left
              · (intro w hSw; (try dsimp only at hSw); go_simp; try (with_reducible rfl))
              (try dsimp only [Act.put]); try simp only [Act.put, List.setIfInBounds_toArray, List.set_cons_zero, List.set_cons_succ]
              refine wpAnyH_done (by kernel_rfl) ?_ _
              refine NoPanic.normal ?_
              go_wp2_with fail
              go_meet
              exact ⟨by rw [Hfro.out], HT3.out⟩
            exact AllReadyH.nil
          refine AllReadyH.cons rfl (fun K hK => ?_) ?_
          · go_simp
            (with_reducible refine (Hd2.out _).mono ?_)
            rintro e u3 ⟨rfl, hg⟩
            have HT3 := Lib.hid (HT2.out.trans hg)
            have rT_3 := Lib.hid (rT_2.out.frm hg (fun h => h))
            have hz3 := hg.size
            clear hg
            go_wp2_with fail
            refine hK.out _ _ ?_ (fun hHeld => ?_)
            · exact trivial
            clear hK K
            (try dsimp only [Act.put]); try simp only [Act.put, List.setIfInBounds_toArray, List.set_cons_zero, List.set_cons_succ]
            refine wpAnyH_ready (rs := [10]) (by kernel_rfl) (by simp) ?_
            refine AllReadyH.cons rfl (fun K hK => ?_) ?_
            · have qc := rT_3.out.cell 1
              have ql := rT_3.out.lt
              simp at qc
              go_simp
              clear qc ql
              refine hK.out _ _ ?_ (fun hHeld => ?_)
              · exact trivial
              clear hK K
              (try dsimp only [Act.put]); try simp only [Act.put, List.setIfInBounds_toArray, List.set_cons_zero, List.set_cons_succ]
              refine takeD (i := 11) (some 18) (v := ?_) rfl rfl (by kernel_rfl) (by kernel_rfl) (by kernel_rfl) (fun _ _ _ h => h) (Or.inl ⟨by kernel_rfl, ?_⟩) (by assumption) ?_
              rotate_left
              · (intro w hSw; (try dsimp only at hSw); go_simp; try (with_reducible rfl))
              (try dsimp only [Act.put]); try simp only [Act.put, List.setIfInBounds_toArray, List.set_cons_zero, List.set_cons_succ]
              refine takeD (i := 12) (some 19) (v := ?_) rfl rfl (by kernel_rfl) (by kernel_rfl) (by kernel_rfl) (fun _ _ _ h => h) (Or.inl ⟨by kernel_rfl, ?_⟩) (by assumption) ?_
              rotate_left
              · (intro w hSw; (try dsimp only at hSw); go_simp; try (with_reducible rfl))
              (try dsimp only [Act.put]); try simp only [Act.put, List.setIfInBounds_toArray, List.set_cons_zero, List.set_cons_succ]
              refine takeD (i := 18) (some 25) (v := ?_) rfl rfl (by kernel_rfl) (by kernel_rfl) (by kernel_rfl) (fun _ _ _ h => h) (Or.inl ⟨by kernel_rfl, ?_⟩) (by assumption) ?_
              rotate_left
              · (intro w hSw; (try dsimp only at hSw); go_simp; try (with_reducible rfl))
              (try dsimp only [Act.put]); try simp only [Act.put, List.setIfInBounds_toArray, List.set_cons_zero, List.set_cons_succ]
              refine takeD (i := 19) (some 4) (v := ?_) rfl rfl (by kernel_rfl) (by kernel_rfl) (by kernel_rfl) (fun _ _ _ h => h) (Or.inl ⟨by kernel_rfl, ?_⟩) (by assumption) ?_
              rotate_left
              · (intro w hSw; (try dsimp only at hSw); go_simp; try (with_reducible rfl))
              (try dsimp only [Act.put]); try simp only [Act.put, List.setIfInBounds_toArray, List.set_cons_zero, List.set_cons_succ]
              refine wpAnyH_done (by kernel_rfl) ?_ _
              refine NoPanic.normal ?_
              go_wp2_with fail
              go_meet
              exact ⟨by rw [Hfro.out], HT3.out⟩
            exact AllReadyH.nil
          exact AllReadyH.nil
        refine AllReadyH.cons rfl (fun K hK => ?_) ?_
        · go_simp
          (with_reducible refine (Hd2.out _).mono ?_)
          rintro e u2 ⟨rfl, hg⟩
          have HT2 := Lib.hid (HT1.out.trans hg)
          have hz2 := hg.size
          clear hg
          go_wp2_with fail
          refine hK.out _ _ ?_ (fun hHeld => ?_)
          · exact trivial
          clear hK K
          (try dsimp only [Act.put]); try simp only [Act.put, List.setIfInBounds_toArray, List.set_cons_zero, List.set_cons_succ]
          refine wpAnyH_ready (rs := [4]) (by kernel_rfl) (by simp) ?_
          refine AllReadyH.cons rfl (fun K hK => ?_) ?_
          · go_simp
            generalize hw : World.alloc u2 _ = u3
            have hg : Frm noB u2 u3 := by rw [← hw]; exact (Frm.refl noB u2).alloc _
            have HT3 := Lib.hid (HT2.out.trans hg)
            have hz3 := hg.size
            have rT_3 := Lib.hid (show Blk u3 u2.heap.size #[.string ⟨#[]⟩, .string ⟨#[126]⟩] 9 by rw [← hw]; exact Blk.made u2 _ _)
            have hl3 : u2.heap.size < u3.heap.size := by rw [← hw]; simp
            clear hg hw
            refine hK.out _ _ ?_ (fun hHeld => ?_)
            · exact trivial
            clear hK K
            (try dsimp only [Act.put]); try simp only [Act.put, List.setIfInBounds_toArray, List.set_cons_zero, List.set_cons_succ]
            refine takeD (i := 9) (some 16) (v := ?_) rfl rfl (by kernel_rfl) (by kernel_rfl) (by kernel_rfl) (fun _ _ _ h => h) (Or.inl ⟨by kernel_rfl, ?_⟩) (by assumption) ?_
            rotate_left
            · (intro w hSw; (try dsimp only at hSw); go_simp; try (with_reducible rfl))
            (try dsimp only [Act.put]); try simp only [Act.put, List.setIfInBounds_toArray, List.set_cons_zero, List.set_cons_succ]
            refine wpAnyH_ready (rs := [10]) (by kernel_rfl) (by simp) ?_
            refine AllReadyH.cons rfl (fun K hK => ?_) ?_
            · have qc := rT_3.out.cell 1
              have ql := rT_3.out.lt
              simp at qc
              go_simp
              clear qc ql
              refine hK.out _ _ ?_ (fun hHeld => ?_)
              · exact trivial
              clear hK K
              (try dsimp only [Act.put]); try simp only [Act.put, List.setIfInBounds_toArray, List.set_cons_zero, List.set_cons_succ]
              refine takeD (i := 11) (some 18) (v := ?_) rfl rfl (by kernel_rfl) (by kernel_rfl) (by kernel_rfl) (fun _ _ _ h => h) (Or.inl ⟨by kernel_rfl, ?_⟩) (by assumption) ?_
              rotate_left
              · (intro w hSw; (try dsimp only at hSw); go_simp; try (with_reducible rfl))
              (try dsimp only [Act.put]); try simp only [Act.put, List.setIfInBounds_toArray, List.set_cons_zero, List.set_cons_succ]
              refine takeD (i := 12) (some 19) (v := ?_) rfl rfl (by kernel_rfl) (by kernel_rfl) (by kernel_rfl) (fun _ _ _ h => h) (Or.inl ⟨by kernel_rfl, ?_⟩) (by assumption) ?_
              rotate_left
              · (intro w hSw; (try dsimp only at hSw); go_simp; try (with_reducible rfl))
              (try dsimp only [Act.put]); try simp only [Act.put, List.setIfInBounds_toArray, List.set_cons_zero, List.set_cons_succ]
              refine takeD (i := 18) (some 25) (v := ?_) rfl rfl (by kernel_rfl) (by kernel_rfl) (by kernel_rfl) (fun _ _ _ h => h) (Or.inl ⟨by kernel_rfl, ?_⟩) (by assumption) ?_
              rotate_left
              · (intro w hSw; (try dsimp only at hSw); go_simp; try (with_reducible rfl))
              (try dsimp only [Act.put]); try simp only [Act.put, List.setIfInBounds_toArray, List.set_cons_zero, List.set_cons_succ]
              refine takeD (i := 19) (some 4) (v := ?_) rfl rfl (by kernel_rfl) (by kernel_rfl) (by kernel_rfl) (fun _ _ _ h => h) (Or.inl ⟨by kernel_rfl, ?_⟩) (by assumption) ?_
              rotate_left
              · (intro w hSw; (try dsimp only at hSw); go_simp; try (with_reducible rfl))
              (try dsimp only [Act.put]); try simp only [Act.put, List.setIfInBounds_toArray, List.set_cons_zero, List.set_cons_succ]
              refine wpAnyH_done (by kernel_rfl) ?_ _
              refine NoPanic.normal ?_
              go_wp2_with fail
              go_meet
              exact ⟨by rw [Hfro.out], HT3.out⟩
            exact AllReadyH.nil
          exact AllReadyH.nil
        exact AllReadyH.nil
      refine AllReadyH.cons rfl (fun K hK => ?_) ?_
      · go_simp
        generalize hw : World.alloc u0 _ = u1
        have hg : Frm noB u0 u1 := by rw [← hw]; exact (Frm.refl noB u0).alloc _
        have HT1 := Lib.hid (HT0.out.trans hg)
        have hz1 := hg.size
        have rT_1 := Lib.hid (show Blk u1 u0.heap.size #[.string ⟨#[]⟩, .string ⟨#[126]⟩] 9 by rw [← hw]; exact Blk.made u0 _ _)
        have hl1 : u0.heap.size < u1.heap.size := by rw [← hw]; simp
        clear hg hw
        refine hK.out _ _ ?_ (fun hHeld => ?_)
        · exact trivial
        clear hK K
        (try dsimp only [Act.put]); try simp only [Act.put, List.setIfInBounds_toArray, List.set_cons_zero, List.set_cons_succ]
        refine takeD (i := 9) (some 16) (v := ?_) rfl rfl (by kernel_rfl) (by kernel_rfl) (by kernel_rfl) (fun _ _ _ h => h) (Or.inl ⟨by kernel_rfl, ?_⟩) (by assumption) ?_
        rotate_left
        · (intro w hSw; (try dsimp only at hSw); go_simp; try (with_reducible rfl))
        (try dsimp only [Act.put]); try simp only [Act.put, List.setIfInBounds_toArray, List.set_cons_zero, List.set_cons_succ]
        refine wpAnyH_ready (rs := [3, 10]) (by kernel_rfl) (by simp) ?_
        refine AllReadyH.cons rfl (fun K hK => ?_) ?_
        · go_simp
          (with_reducible refine (Hd1.out _).mono ?_)
          rintro e u2 ⟨rfl, hg⟩
          have HT2 := Lib.hid (HT1.out.trans hg)
          have rT_2 := Lib.hid (rT_1.out.frm hg (fun h => h))
          have hz2 := hg.size
          clear hg
          go_wp2_with fail
          refine hK.out _ _ ?_ (fun hHeld => ?_)
          · exact trivial
          clear hK K
          (try dsimp only [Act.put]); try simp only [Act.put, List.setIfInBounds_toArray, List.set_cons_zero, List.set_cons_succ]
          refine wpAnyH_ready (rs := [10, 17]) (by kernel_rfl) (by simp) ?_
          refine AllReadyH.cons rfl (fun K hK => ?_) ?_
          · have qc := rT_2.out.cell 1
            have ql := rT_2.out.lt
            simp at qc
            go_simp
            clear qc ql
            refine hK.out _ _ ?_ (fun hHeld => ?_)
            · exact trivial
            clear hK K
            (try dsimp only [Act.put]); try simp only [Act.put, List.setIfInBounds_toArray, List.set_cons_zero, List.set_cons_succ]
            refine takeD (i := 11) (some 18) (v := ?_) rfl rfl (by kernel_rfl) (by kernel_rfl) (by kernel_rfl) (fun _ _ _ h => h) (Or.inl ⟨by kernel_rfl, ?_⟩) (by assumption) ?_
            rotate_left
            · (intro w hSw; (try dsimp only at hSw); go_simp; try (with_reducible rfl))
            (try dsimp only [Act.put]); try simp only [Act.put, List.setIfInBounds_toArray, List.set_cons_zero, List.set_cons_succ]
            refine takeD (i := 12) (some 19) (v := ?_) rfl rfl (by kernel_rfl) (by kernel_rfl) (by kernel_rfl) (fun _ _ _ h => h) (Or.inl ⟨by kernel_rfl, ?_⟩) (by assumption) ?_
            rotate_left
            · (intro w hSw; (try dsimp only at hSw); go_simp; try (with_reducible rfl))
            (try dsimp only [Act.put]); try simp only [Act.put, List.setIfInBounds_toArray, List.set_cons_zero, List.set_cons_succ]
            refine wpAnyH_ready (rs := [17]) (by kernel_rfl) (by simp) ?_
            refine AllReadyH.cons rfl (fun K hK => ?_) ?_
            · go_simp
              (with_reducible refine (Hd2.out _).mono ?_)
              rintro e u3 ⟨rfl, hg⟩
              have HT3 := Lib.hid (HT2.out.trans hg)
              have rT_3 := Lib.hid (rT_2.out.frm hg (fun h => h))
              have hz3 := hg.size
              clear hg
              go_wp2_with fail
              refine hK.out _ _ ?_ (fun hHeld => ?_)
              · exact trivial
              clear hK K
              (try dsimp only [Act.put]); try simp only [Act.put, List.setIfInBounds_toArray, List.set_cons_zero, List.set_cons_succ]
              refine takeD (i := 18) (some 25) (v := ?_) rfl rfl (by kernel_rfl) (by kernel_rfl) (by kernel_rfl) (fun _ _ _ h => h) (Or.inl ⟨by kernel_rfl, ?_⟩) (by assumption) ?_
              rotate_left
              · (intro w hSw; (try dsimp only at hSw); go_simp; try (with_reducible rfl))
              (try dsimp only [Act.put]); try simp only [Act.put, List.setIfInBounds_toArray, List.set_cons_zero, List.set_cons_succ]
              refine takeD (i := 19) (some 4) (v := ?_) rfl rfl (by kernel_rfl) (by kernel_rfl) (by kernel_rfl) (fun _ _ _ h => h) (Or.inl ⟨by kernel_rfl, ?_⟩) (by assumption) ?_
              rotate_left
              · (intro w hSw; (try dsimp only at hSw); go_simp; try (with_reducible rfl))
              (try dsimp only [Act.put]); try simp only [Act.put, List.setIfInBounds_toArray, List.set_cons_zero, List.set_cons_succ]
              refine wpAnyH_done (by kernel_rfl) ?_ _
              refine NoPanic.normal ?_
              go_wp2_with fail
              go_meet
              exact ⟨by rw [Hfro.out], HT3.out⟩
            exact AllReadyH.nil
          refine AllReadyH.cons rfl (fun K hK => ?_) ?_
          · go_simp
            (with_reducible refine (Hd2.out _).mono ?_)
            rintro e u3 ⟨rfl, hg⟩
            have HT3 := Lib.hid (HT2.out.trans hg)
            have rT_3 := Lib.hid (rT_2.out.frm hg (fun h => h))
            have hz3 := hg.size
            clear hg
            go_wp2_with fail
            refine hK.out _ _ ?_ (fun hHeld => ?_)
            · exact trivial
            clear hK K
            (try dsimp only [Act.put]); try simp only [Act.put, List.setIfInBounds_toArray, List.set_cons_zero, List.set_cons_succ]
            refine wpAnyH_ready (rs := [10]) (by kernel_rfl) (by simp) ?_
            refine AllReadyH.cons rfl (fun K hK => ?_) ?_
            · have qc := rT_3.out.cell 1
              have ql := rT_3.out.lt
              simp at qc
              go_simp
              clear qc ql
              refine hK.out _ _ ?_ (fun hHeld => ?_)
              · exact trivial
              clear hK K
              (try dsimp only [Act.put]); try simp only [Act.put, List.setIfInBounds_toArray, List.set_cons_zero, List.set_cons_succ]
              refine takeD (i := 11) (some 18) (v := ?_) rfl rfl (by kernel_rfl) (by kernel_rfl) (by kernel_rfl) (fun _ _ _ h => h) (Or.inl ⟨by kernel_rfl, ?_⟩) (by assumption) ?_
              rotate_left
              · (intro w hSw; (try dsimp only at hSw); go_simp; try (with_reducible rfl))
              (try dsimp only [Act.put]); try simp only [Act.put, List.setIfInBounds_toArray, List.set_cons_zero, List.set_cons_succ]
              refine takeD (i := 12) (some 19) (v := ?_) rfl rfl (by kernel_rfl) (by kernel_rfl) (by kernel_rfl) (fun _ _ _ h => h) (Or.inl ⟨by kernel_rfl, ?_⟩) (by assumption) ?_
              rotate_left
              · (intro w hSw; (try dsimp only at hSw); go_simp; try (with_reducible rfl))
              (try dsimp only [Act.put]); try simp only [Act.put, List.setIfInBounds_toArray, List.set_cons_zero, List.set_cons_succ]
              refine takeD (i := 18) (some 25) (v := ?_) rfl rfl (by kernel_rfl) (by kernel_rfl) (by kernel_rfl) (fun _ _ _ h => h) (Or.inl ⟨by kernel_rfl, ?_⟩) (by assumption) ?_
              rotate_left
              · (intro w hSw; (try dsimp only at hSw); go_simp; try (with_reducible rfl))
              (try dsimp only [Act.put]); try simp only [Act.put, List.setIfInBounds_toArray, List.set_cons_zero, List.set_cons_succ]
              refine takeD (i := 19) (some 4) (v := ?_) rfl rfl (by kernel_rfl) (by kernel_rfl) (by kernel_rfl) (fun _ _ _ h => h) (Or.inl ⟨by kernel_rfl, ?_⟩) (by assumption) ?_
              rotate_left
              · (intro w hSw; (try dsimp only at hSw); go_simp; try (with_reducible rfl))
              (try dsimp only [Act.put]); try simp only [Act.put, List.setIfInBounds_toArray, List.set_cons_zero, List.set_cons_succ]
              refine wpAnyH_done (by kernel_rfl) ?_ _
              refine NoPanic.normal ?_
              go_wp2_with fail
              go_meet
              exact ⟨by rw [Hfro.out], HT3.out⟩
            exact AllReadyH.nil
          exact AllReadyH.nil
        refine AllReadyH.cons rfl (fun K hK => ?_) ?_
        · have qc := rT_1.out.cell 1
          have ql := rT_1.out.lt
          simp at qc
          go_simp
          clear qc ql
          refine hK.out _ _ ?_ (fun hHeld => ?_)
          · exact trivial
          clear hK K
          (try dsimp only [Act.put]); try simp only [Act.put, List.setIfInBounds_toArray, List.set_cons_zero, List.set_cons_succ]
          refine wpAnyH_ready (rs := [3]) (by kernel_rfl) (by simp) ?_
          refine AllReadyH.cons rfl (fun K hK => ?_) ?_
          · go_simp
            (with_reducible refine (Hd1.out _).mono ?_)
            rintro e u2 ⟨rfl, hg⟩
            have HT2 := Lib.hid (HT1.out.trans hg)
            have rT_2 := Lib.hid (rT_1.out.frm hg (fun h => h))
            have hz2 := hg.size
            clear hg
            go_wp2_with fail
            refine hK.out _ _ ?_ (fun hHeld => ?_)
            · exact trivial
            clear hK K
            (try dsimp only [Act.put]); try simp only [Act.put, List.setIfInBounds_toArray, List.set_cons_zero, List.set_cons_succ]
            refine takeD (i := 11) (some 18) (v := ?_) rfl rfl (by kernel_rfl) (by kernel_rfl) (by kernel_rfl) (fun _ _ _ h => h) (Or.inl ⟨by kernel_rfl, ?_⟩) (by assumption) ?_
            rotate_left
            · (intro w hSw; (try dsimp only at hSw); go_simp; try (with_reducible rfl))
            (try dsimp only [Act.put]); try simp only [Act.put, List.setIfInBounds_toArray, List.set_cons_zero, List.set_cons_succ]
            refine takeD (i := 12) (some 19) (v := ?_) rfl rfl (by kernel_rfl) (by kernel_rfl) (by kernel_rfl) (fun _ _ _ h => h) (Or.inl ⟨by kernel_rfl, ?_⟩) (by assumption) ?_
            rotate_left
            · (intro w hSw; (try dsimp only at hSw); go_simp; try (with_reducible rfl))
            (try dsimp only [Act.put]); try simp only [Act.put, List.setIfInBounds_toArray, List.set_cons_zero, List.set_cons_succ]
            refine wpAnyH_ready (rs := [17]) (by kernel_rfl) (by simp) ?_
            refine AllReadyH.cons rfl (fun K hK => ?_) ?_
            · go_simp
              (with_reducible refine (Hd2.out _).mono ?_)
              rintro e u3 ⟨rfl, hg⟩
              have HT3 := Lib.hid (HT2.out.trans hg)
              have rT_3 := Lib.hid (rT_2.out.frm hg (fun h => h))
              have hz3 := hg.size
              clear hg
              go_wp2_with fail
              refine hK.out _ _ ?_ (fun hHeld => ?_)
              · exact trivial
              clear hK K
              (try dsimp only [Act.put]); try simp only [Act.put, List.setIfInBounds_toArray, List.set_cons_zero, List.set_cons_succ]
              refine takeD (i := 18) (some 25) (v := ?_) rfl rfl (by kernel_rfl) (by kernel_rfl) (by kernel_rfl) (fun _ _ _ h => h) (Or.inl ⟨by kernel_rfl, ?_⟩) (by assumption) ?_
              rotate_left
              · (intro w hSw; (try dsimp only at hSw); go_simp; try (with_reducible rfl))
              (try dsimp only [Act.put]); try simp only [Act.put, List.setIfInBounds_toArray, List.set_cons_zero, List.set_cons_succ]
              refine takeD (i := 19) (some 4) (v := ?_) rfl rfl (by kernel_rfl) (by kernel_rfl) (by kernel_rfl) (fun _ _ _ h => h) (Or.inl ⟨by kernel_rfl, ?_⟩) (by assumption) ?_
              rotate_left
              · (intro w hSw; (try dsimp only at hSw); go_simp; try (with_reducible rfl))
              (try dsimp only [Act.put]); try simp only [Act.put, List.setIfInBounds_toArray, List.set_cons_zero, List.set_cons_succ]
              refine wpAnyH_done (by kernel_rfl) ?_ _
              refine NoPanic.normal ?_
              go_wp2_with fail
              go_meet
              exact ⟨by rw [Hfro.out], HT3.out⟩
            exact AllReadyH.nil
          exact AllReadyH.nil
        exact AllReadyH.nil
      exact AllReadyH.nil
    · have w3 := Hw3.out.trans (show (k : Int) / 6 % 5 / 4 = 0 by omega)
      have hfro := Hfro.out
      rw [Htl0.out ht] at hfro
      clear Hfro
      have Hfro := Lib.hid hfro
      clear hfro
      have f1 : (9223372036854775807 < D1.size + 1) = False := eq_false (by rw [Hs1.out]; omega)
      have f2 : (9223372036854775807 < D1.size) = False := eq_false (by rw [Hs1.out]; omega)
      have f3 : (9223372036854775807 < D1.size + 1 + D2.size) = False := eq_false (by rw [Hs1.out, Hs2.out]; omega)
      refine wp_region_noPanic ?_
      refine wp_region_held_drew (S := fun X => True) (by kernel_rfl) ?_ (fun hHeld => ?_)
      · exact trivial
      obtain ⟨u0, hu0⟩ : ∃ Wq, Wq = W1.drew := ⟨_, rfl⟩
      try rw [← hu0] at hHeld
      rw [← hu0]
      have hgd : Frm noB W1 u0 := by rw [hu0]; exact (Frm.refl noB W1).drew
      have HT0 := Lib.hid (hgd)
      have hz0 := hgd.size
      clear hu0 hgd
      refine takeD (i := 0) (some 7) (v := ?_) rfl rfl (by kernel_rfl) (by kernel_rfl) (by kernel_rfl) (fun _ _ _ h => h) (Or.inl ⟨by kernel_rfl, ?_⟩) (by assumption) ?_
      rotate_left
      · (intro w hSw; (try dsimp only at hSw); go_simp; try (with_reducible rfl))
      (try dsimp only [Act.put]); try simp only [Act.put, List.setIfInBounds_toArray, List.set_cons_zero, List.set_cons_succ]
      refine takeD (i := 1) (some 8) (v := ?_) rfl rfl (by kernel_rfl) (by kernel_rfl) (by kernel_rfl) (fun _ _ _ h => h) (Or.inl ⟨by kernel_rfl, ?_⟩) (by assumption) ?_
      rotate_left
      · (intro w hSw; (try dsimp only at hSw); go_simp; try (with_reducible rfl))
      (try dsimp only [Act.put]); try simp only [Act.put, List.setIfInBounds_toArray, List.set_cons_zero, List.set_cons_succ]
      refine takeD (i := 2) (some 9) (v := ?_) rfl rfl (by kernel_rfl) (by kernel_rfl) (by kernel_rfl) (fun _ _ _ h => h) (Or.inl ⟨by kernel_rfl, ?_⟩) (by assumption) ?_
      rotate_left
      · (intro w hSw; (try dsimp only at hSw); go_simp; try (with_reducible rfl))
      (try dsimp only [Act.put]); try simp only [Act.put, List.setIfInBounds_toArray, List.set_cons_zero, List.set_cons_succ]
      refine takeD (i := 5) (some 12) (v := ?_) rfl rfl (by kernel_rfl) (by kernel_rfl) (by kernel_rfl) (fun _ _ _ h => h) (Or.inl ⟨by kernel_rfl, ?_⟩) (by assumption) ?_
      rotate_left
      · (intro w hSw; (try dsimp only at hSw); go_simp; try (with_reducible rfl))
      (try dsimp only [Act.put]); try simp only [Act.put, List.setIfInBounds_toArray, List.set_cons_zero, List.set_cons_succ]
      refine takeD (i := 6) (some 13) (v := ?_) rfl rfl (by kernel_rfl) (by kernel_rfl) (by kernel_rfl) (fun _ _ _ h => h) (Or.inl ⟨by kernel_rfl, ?_⟩) (by assumption) ?_
      rotate_left
      · (intro w hSw; (try dsimp only at hSw); go_simp; try (with_reducible rfl))
      (try dsimp only [Act.put]); try simp only [Act.put, List.setIfInBounds_toArray, List.set_cons_zero, List.set_cons_succ]
      refine takeD (i := 7) (some 14) (v := ?_) rfl rfl (by kernel_rfl) (by kernel_rfl) (by kernel_rfl) (fun _ _ _ h => h) (Or.inl ⟨by kernel_rfl, ?_⟩) (by assumption) ?_
      rotate_left
      · (intro w hSw; (try dsimp only at hSw); go_simp; try (with_reducible rfl))
      (try dsimp only [Act.put]); try simp only [Act.put, List.setIfInBounds_toArray, List.set_cons_zero, List.set_cons_succ]
      refine takeD (i := 8) (some 15) (v := ?_) rfl rfl (by kernel_rfl) (by kernel_rfl) (by kernel_rfl) (fun _ _ _ h => h) (Or.inl ⟨by kernel_rfl, ?_⟩) (by assumption) ?_
      rotate_left
      · (intro w hSw; (try dsimp only at hSw); go_simp; try (with_reducible rfl))
      (try dsimp only [Act.put]); try simp only [Act.put, List.setIfInBounds_toArray, List.set_cons_zero, List.set_cons_succ]
      refine takeD (i := 13) (some 20) (v := ?_) rfl rfl (by kernel_rfl) (by kernel_rfl) (by kernel_rfl) (fun _ _ _ h => h) (Or.inl ⟨by kernel_rfl, ?_⟩) (by assumption) ?_
      rotate_left
      · (intro w hSw; (try dsimp only at hSw); go_simp; try (with_reducible rfl))
      (try dsimp only [Act.put]); try simp only [Act.put, List.setIfInBounds_toArray, List.set_cons_zero, List.set_cons_succ]
      refine takeD (i := 14) (some 21) (v := ?_) rfl rfl (by kernel_rfl) (by kernel_rfl) (by kernel_rfl) (fun _ _ _ h => h) (Or.inl ⟨by kernel_rfl, ?_⟩) (by assumption) ?_
      rotate_left
      · (intro w hSw; (try dsimp only at hSw); go_simp; try (with_reducible rfl))
      (try dsimp only [Act.put]); try simp only [Act.put, List.setIfInBounds_toArray, List.set_cons_zero, List.set_cons_succ]
      refine takeD (i := 15) (some 22) (v := ?_) rfl rfl (by kernel_rfl) (by kernel_rfl) (by kernel_rfl) (fun _ _ _ h => h) (Or.inl ⟨by kernel_rfl, ?_⟩) (by assumption) ?_
      rotate_left
      · (intro w hSw; (try dsimp only at hSw); go_simp; try (with_reducible rfl))
      (try dsimp only [Act.put]); try simp only [Act.put, List.setIfInBounds_toArray, List.set_cons_zero, List.set_cons_succ]
      refine takeD (i := 16) (some 23) (v := ?_) rfl rfl (by kernel_rfl) (by kernel_rfl) (by kernel_rfl) (fun _ _ _ h => h) (Or.inl ⟨by kernel_rfl, ?_⟩) (by assumption) ?_
      rotate_left
      · (intro w hSw; (try dsimp only at hSw); go_simp; try (with_reducible rfl))
      (try dsimp only [Act.put]); try simp only [Act.put, List.setIfInBounds_toArray, List.set_cons_zero, List.set_cons_succ]
      refine wpAnyH_ready (rs := [3, 4]) (by kernel_rfl) (by simp) ?_
      refine AllReadyH.cons rfl (fun K hK => ?_) ?_
      · go_simp
        (with_reducible refine (Hd1.out _).mono ?_)
        rintro e u1 ⟨rfl, hg⟩
        have HT1 := Lib.hid (HT0.out.trans hg)
        have hz1 := hg.size
        clear hg
        go_wp2_with fail
        refine hK.out _ _ ?_ (fun hHeld => ?_)
        · exact trivial
        clear hK K
        (try dsimp only [Act.put]); try simp only [Act.put, List.setIfInBounds_toArray, List.set_cons_zero, List.set_cons_succ]
        refine wpAnyH_ready (rs := [4, 17]) (by kernel_rfl) (by simp) ?_
        refine AllReadyH.cons rfl (fun K hK => ?_) ?_
        · go_simp
          generalize hw : World.alloc u1 _ = u2
          have hg : Frm noB u1 u2 := by rw [← hw]; exact (Frm.refl noB u1).alloc _
          have HT2 := Lib.hid (HT1.out.trans hg)
          have hz2 := hg.size
          have rT_2 := Lib.hid (show Blk u2 u1.heap.size #[.string ⟨#[]⟩, .string ⟨#[126]⟩] 9 by rw [← hw]; exact Blk.made u1 _ _)
          have hl2 : u1.heap.size < u2.heap.size := by rw [← hw]; simp
          clear hg hw
          refine hK.out _ _ ?_ (fun hHeld => ?_)
          · exact trivial
          clear hK K
          (try dsimp only [Act.put]); try simp only [Act.put, List.setIfInBounds_toArray, List.set_cons_zero, List.set_cons_succ]
          refine takeD (i := 9) (some 16) (v := ?_) rfl rfl (by kernel_rfl) (by kernel_rfl) (by kernel_rfl) (fun _ _ _ h => h) (Or.inl ⟨by kernel_rfl, ?_⟩) (by assumption) ?_
          rotate_left
          · (intro w hSw; (try dsimp only at hSw); go_simp; try (with_reducible rfl))
          (try dsimp only [Act.put]); try simp only [Act.put, List.setIfInBounds_toArray, List.set_cons_zero, List.set_cons_succ]
          refine wpAnyH_ready (rs := [10, 17]) (by kernel_rfl) (by simp) ?_
          refine AllReadyH.cons rfl (fun K hK => ?_) ?_
          · have qc := rT_2.out.cell 0
            have ql := rT_2.out.lt
            simp at qc
            go_simp
            clear qc ql
            refine hK.out _ _ ?_ (fun hHeld => ?_)
            · exact trivial
            clear hK K
            (try dsimp only [Act.put]); try simp only [Act.put, List.setIfInBounds_toArray, List.set_cons_zero, List.set_cons_succ]
            refine takeD (i := 11) (some 18) (v := ?_) rfl rfl (by kernel_rfl) (by kernel_rfl) (by kernel_rfl) (fun _ _ _ h => h) (Or.inl ⟨by kernel_rfl, ?_⟩) (by assumption) ?_
            rotate_left
            · (intro w hSw; (try dsimp only at hSw); go_simp; try (with_reducible rfl))
            (try dsimp only [Act.put]); try simp only [Act.put, List.setIfInBounds_toArray, List.set_cons_zero, List.set_cons_succ]
            refine takeD (i := 12) (some 19) (v := ?_) rfl rfl (by kernel_rfl) (by kernel_rfl) (by kernel_rfl) (fun _ _ _ h => h) (Or.inl ⟨by kernel_rfl, ?_⟩) (by assumption) ?_
            rotate_left
            · (intro w hSw; (try dsimp only at hSw); go_simp; try (with_reducible rfl))
            (try dsimp only [Act.put]); try simp only [Act.put, List.setIfInBounds_toArray, List.set_cons_zero, List.set_cons_succ]
            refine wpAnyH_ready (rs := [17]) (by kernel_rfl) (by simp) ?_
            refine AllReadyH.cons rfl (fun K hK => ?_) ?_
            · go_simp
              (with_reducible refine (Hd2.out _).mono ?_)
              rintro e u3 ⟨rfl, hg⟩
              have HT3 := Lib.hid (HT2.out.trans hg)
              have rT_3 := Lib.hid (rT_2.out.frm hg (fun h => h))
              have hz3 := hg.size
              clear hg
              go_wp2_with fail
              refine hK.out _ _ ?_ (fun hHeld => ?_)
              · exact trivial
              clear hK K
              (try dsimp only [Act.put]); try simp only [Act.put, List.setIfInBounds_toArray, List.set_cons_zero, List.set_cons_succ]
              refine takeD (i := 18) (some 25) (v := ?_) rfl rfl (by kernel_rfl) (by kernel_rfl) (by kernel_rfl) (fun _ _ _ h => h) (Or.inl ⟨by kernel_rfl, ?_⟩) (by assumption) ?_
              rotate_left
              · (intro w hSw; (try dsimp only at hSw); go_simp; try (with_reducible rfl))
              (try dsimp only [Act.put]); try simp only [Act.put, List.setIfInBounds_toArray, List.set_cons_zero, List.set_cons_succ]
              refine takeD (i := 19) (some 4) (v := ?_) rfl rfl (by kernel_rfl) (by kernel_rfl) (by kernel_rfl) (fun _ _ _ h => h) (Or.inl ⟨by kernel_rfl, ?_⟩) (by assumption) ?_
              rotate_left
              · (intro w hSw; (try dsimp only at hSw); go_simp; try (with_reducible rfl))
              (try dsimp only [Act.put]); try simp only [Act.put, List.setIfInBounds_toArray, List.set_cons_zero, List.set_cons_succ]
              refine wpAnyH_done (by kernel_rfl) ?_ _
              refine NoPanic.normal ?_
              go_wp2_with fail
              go_meet
              exact ⟨by rw [Hfro.out], HT3.out⟩
            exact AllReadyH.nil
          refine AllReadyH.cons rfl (fun K hK => ?_) ?_
          · go_simp
            (with_reducible refine (Hd2.out _).mono ?_)
            rintro e u3 ⟨rfl, hg⟩
            have HT3 := Lib.hid (HT2.out.trans hg)
            have rT_3 := Lib.hid (rT_2.out.frm hg (fun h => h))
            have hz3 := hg.size
            clear hg
            go_wp2_with fail
            refine hK.out _ _ ?_ (fun hHeld => ?_)
            · exact trivial
            clear hK K
            (try dsimp only [Act.put]); try simp only [Act.put, List.setIfInBounds_toArray, List.set_cons_zero, List.set_cons_succ]
            refine wpAnyH_ready (rs := [10]) (by kernel_rfl) (by simp) ?_
            refine AllReadyH.cons rfl (fun K hK => ?_) ?_
            · have qc := rT_3.out.cell 0
              have ql := rT_3.out.lt
              simp at qc
              go_simp
              clear qc ql
              refine hK.out _ _ ?_ (fun hHeld => ?_)
              · exact trivial
              clear hK K
              (try dsimp only [Act.put]); try simp only [Act.put, List.setIfInBounds_toArray, List.set_cons_zero, List.set_cons_succ]
              refine takeD (i := 11) (some 18) (v := ?_) rfl rfl (by kernel_rfl) (by kernel_rfl) (by kernel_rfl) (fun _ _ _ h => h) (Or.inl ⟨by kernel_rfl, ?_⟩) (by assumption) ?_
              rotate_left
              · (intro w hSw; (try dsimp only at hSw); go_simp; try (with_reducible rfl))
              (try dsimp only [Act.put]); try simp only [Act.put, List.setIfInBounds_toArray, List.set_cons_zero, List.set_cons_succ]
              refine takeD (i := 12) (some 19) (v := ?_) rfl rfl (by kernel_rfl) (by kernel_rfl) (by kernel_rfl) (fun _ _ _ h => h) (Or.inl ⟨by kernel_rfl, ?_⟩) (by assumption) ?_
              rotate_left
              · (intro w hSw; (try dsimp only at hSw); go_simp; try (with_reducible rfl))
              (try dsimp only [Act.put]); try simp only [Act.put, List.setIfInBounds_toArray, List.set_cons_zero, List.set_cons_succ]
              refine takeD (i := 18) (some 25) (v := ?_) rfl rfl (by kernel_rfl) (by kernel_rfl) (by kernel_rfl) (fun _ _ _ h => h) (Or.inl ⟨by kernel_rfl, ?_⟩) (by assumption) ?_
              rotate_left
              · (intro w hSw; (try dsimp only at hSw); go_simp; try (with_reducible rfl))
              (try dsimp only [Act.put]); try simp only [Act.put, List.setIfInBounds_toArray, List.set_cons_zero, List.set_cons_succ]
              refine takeD (i := 19) (some 4) (v := ?_) rfl rfl (by kernel_rfl) (by kernel_rfl) (by kernel_rfl) (fun _ _ _ h => h) (Or.inl ⟨by kernel_rfl, ?_⟩) (by assumption) ?_
              rotate_left
              · (intro w hSw; (try dsimp only at hSw); go_simp; try (with_reducible rfl))
              (try dsimp only [Act.put]); try simp only [Act.put, List.setIfInBounds_toArray, List.set_cons_zero, List.set_cons_succ]
              refine wpAnyH_done (by kernel_rfl) ?_ _
              refine NoPanic.normal ?_
              go_wp2_with fail
              go_meet
              exact ⟨by rw [Hfro.out], HT3.out⟩
            exact AllReadyH.nil
          exact AllReadyH.nil
        refine AllReadyH.cons rfl (fun K hK => ?_) ?_
        · go_simp
          (with_reducible refine (Hd2.out _).mono ?_)
          rintro e u2 ⟨rfl, hg⟩
          have HT2 := Lib.hid (HT1.out.trans hg)
          have hz2 := hg.size
          clear hg
          go_wp2_with fail
          refine hK.out _ _ ?_ (fun hHeld => ?_)
          · exact trivial
          clear hK K
          (try dsimp only [Act.put]); try simp only [Act.put, List.setIfInBounds_toArray, List.set_cons_zero, List.set_cons_succ]
          refine wpAnyH_ready (rs := [4]) (by kernel_rfl) (by simp) ?_
          refine AllReadyH.cons rfl (fun K hK => ?_) ?_
          · go_simp
            generalize hw : World.alloc u2 _ = u3
            have hg : Frm noB u2 u3 := by rw [← hw]; exact (Frm.refl noB u2).alloc _
            have HT3 := Lib.hid (HT2.out.trans hg)
            have hz3 := hg.size
            have rT_3 := Lib.hid (show Blk u3 u2.heap.size #[.string ⟨#[]⟩, .string ⟨#[126]⟩] 9 by rw [← hw]; exact Blk.made u2 _ _)
            have hl3 : u2.heap.size < u3.heap.size := by rw [← hw]; simp
            clear hg hw
            refine hK.out _ _ ?_ (fun hHeld => ?_)
            · exact trivial
            clear hK K
            (try dsimp only [Act.put]); try simp only [Act.put, List.setIfInBounds_toArray, List.set_cons_zero, List.set_cons_succ]
            refine takeD (i := 9) (some 16) (v := ?_) rfl rfl (by kernel_rfl) (by kernel_rfl) (by kernel_rfl) (fun _ _ _ h => h) (Or.inl ⟨by kernel_rfl, ?_⟩) (by assumption) ?_
            rotate_left
            · (intro w hSw; (try dsimp only at hSw); go_simp; try (with_reducible rfl))
            (try dsimp only [Act.put]); try simp only [Act.put, List.setIfInBounds_toArray, List.set_cons_zero, List.set_cons_succ]
            refine wpAnyH_ready (rs := [10]) (by kernel_rfl) (by simp) ?_
            refine AllReadyH.cons rfl (fun K hK => ?_) ?_
            · have qc := rT_3.out.cell 0
              have ql := rT_3.out.lt
              simp at qc
              go_simp
              clear qc ql
              refine hK.out _ _ ?_ (fun hHeld => ?_)
              · exact trivial
              clear hK K
              (try dsimp only [Act.put]); try simp only [Act.put, List.setIfInBounds_toArray, List.set_cons_zero, List.set_cons_succ]
              refine takeD (i := 11) (some 18) (v := ?_) rfl rfl (by kernel_rfl) (by kernel_rfl) (by kernel_rfl) (fun _ _ _ h => h) (Or.inl ⟨by kernel_rfl, ?_⟩) (by assumption) ?_
              rotate_left
              · (intro w hSw; (try dsimp only at hSw); go_simp; try (with_reducible rfl))
              (try dsimp only [Act.put]); try simp only [Act.put, List.setIfInBounds_toArray, List.set_cons_zero, List.set_cons_succ]
              refine takeD (i := 12) (some 19) (v := ?_) rfl rfl (by kernel_rfl) (by kernel_rfl) (by kernel_rfl) (fun _ _ _ h => h) (Or.inl ⟨by kernel_rfl, ?_⟩) (by assumption) ?_
              rotate_left
              · (intro w hSw; (try dsimp only at hSw); go_simp; try (with_reducible rfl))
              (try dsimp only [Act.put]); try simp only [Act.put, List.setIfInBounds_toArray, List.set_cons_zero, List.set_cons_succ]
              refine takeD (i := 18) (some 25) (v := ?_) rfl rfl (by kernel_rfl) (by kernel_rfl) (by kernel_rfl) (fun _ _ _ h => h) (Or.inl ⟨by kernel_rfl, ?_⟩) (by assumption) ?_
              rotate_left
              · (intro w hSw; (try dsimp only at hSw); go_simp; try (with_reducible rfl))
              (try dsimp only [Act.put]); try simp only [Act.put, List.setIfInBounds_toArray, List.set_cons_zero, List.set_cons_succ]
              refine takeD (i := 19) (some 4) (v := ?_) rfl rfl (by kernel_rfl) (by kernel_rfl) (by kernel_rfl) (fun _ _ _ h => h) (Or.inl ⟨by kernel_rfl, ?_⟩) (by assumption) ?_
              rotate_left
              · (intro w hSw; (try dsimp only at hSw); go_simp; try (with_reducible rfl))
              (try dsimp only [Act.put]); try simp only [Act.put, List.setIfInBounds_toArray, List.set_cons_zero, List.set_cons_succ]
              refine wpAnyH_done (by kernel_rfl) ?_ _
              refine NoPanic.normal ?_
              go_wp2_with fail
              go_meet
              exact ⟨by rw [Hfro.out], HT3.out⟩
            exact AllReadyH.nil
          exact AllReadyH.nil
        exact AllReadyH.nil
      refine AllReadyH.cons rfl (fun K hK => ?_) ?_
      · go_simp
        generalize hw : World.alloc u0 _ = u1
        have hg : Frm noB u0 u1 := by rw [← hw]; exact (Frm.refl noB u0).alloc _
        have HT1 := Lib.hid (HT0.out.trans hg)
        have hz1 := hg.size
        have rT_1 := Lib.hid (show Blk u1 u0.heap.size #[.string ⟨#[]⟩, .string ⟨#[126]⟩] 9 by rw [← hw]; exact Blk.made u0 _ _)
        have hl1 : u0.heap.size < u1.heap.size := by rw [← hw]; simp
        clear hg hw
        refine hK.out _ _ ?_ (fun hHeld => ?_)
        · exact trivial
        clear hK K
        (try dsimp only [Act.put]); try simp only [Act.put, List.setIfInBounds_toArray, List.set_cons_zero, List.set_cons_succ]
        refine takeD (i := 9) (some 16) (v := ?_) rfl rfl (by kernel_rfl) (by kernel_rfl) (by kernel_rfl) (fun _ _ _ h => h) (Or.inl ⟨by kernel_rfl, ?_⟩) (by assumption) ?_
        rotate_left
        · (intro w hSw; (try dsimp only at hSw); go_simp; try (with_reducible rfl))
        (try dsimp only [Act.put]); try simp only [Act.put, List.setIfInBounds_toArray, List.set_cons_zero, List.set_cons_succ]
        refine wpAnyH_ready (rs := [3, 10]) (by kernel_rfl) (by simp) ?_
        refine AllReadyH.cons rfl (fun K hK => ?_) ?_
        · go_simp
          (with_reducible refine (Hd1.out _).mono ?_)
          rintro e u2 ⟨rfl, hg⟩
          have HT2 := Lib.hid (HT1.out.trans hg)
          have rT_2 := Lib.hid (rT_1.out.frm hg (fun h => h))
          have hz2 := hg.size
          clear hg
          go_wp2_with fail
          refine hK.out _ _ ?_ (fun hHeld => ?_)
          · exact trivial
          clear hK K
          (try dsimp only [Act.put]); try simp only [Act.put, List.setIfInBounds_toArray, List.set_cons_zero, List.set_cons_succ]
          refine wpAnyH_ready (rs := [10, 17]) (by kernel_rfl) (by simp) ?_
          refine AllReadyH.cons rfl (fun K hK => ?_) ?_
          · have qc := rT_2.out.cell 0
            have ql := rT_2.out.lt
            simp at qc
            go_simp
            clear qc ql
            refine hK.out _ _ ?_ (fun hHeld => ?_)
            · exact trivial
            clear hK K
            (try dsimp only [Act.put]); try simp only [Act.put, List.setIfInBounds_toArray, List.set_cons_zero, List.set_cons_succ]
            refine takeD (i := 11) (some 18) (v := ?_) rfl rfl (by kernel_rfl) (by kernel_rfl) (by kernel_rfl) (fun _ _ _ h => h) (Or.inl ⟨by kernel_rfl, ?_⟩) (by assumption) ?_
            rotate_left
            · (intro w hSw; (try dsimp only at hSw); go_simp; try (with_reducible rfl))
            (try dsimp only [Act.put]); try simp only [Act.put, List.setIfInBounds_toArray, List.set_cons_zero, List.set_cons_succ]
            refine takeD (i := 12) (some 19) (v := ?_) rfl rfl (by kernel_rfl) (by kernel_rfl) (by kernel_rfl) (fun _ _ _ h => h) (Or.inl ⟨by kernel_rfl, ?_⟩) (by assumption) ?_
            rotate_left
            · (intro w hSw; (try dsimp only at hSw); go_simp; try (with_reducible rfl))
            (try dsimp only [Act.put]); try simp only [Act.put, List.setIfInBounds_toArray, List.set_cons_zero, List.set_cons_succ]
            refine wpAnyH_ready (rs := [17]) (by kernel_rfl) (by simp) ?_
            refine AllReadyH.cons rfl (fun K hK => ?_) ?_
            · go_simp
              (with_reducible refine (Hd2.out _).mono ?_)
              rintro e u3 ⟨rfl, hg⟩
              have HT3 := Lib.hid (HT2.out.trans hg)
              have rT_3 := Lib.hid (rT_2.out.frm hg (fun h => h))
              have hz3 := hg.size
              clear hg
              go_wp2_with fail
              refine hK.out _ _ ?_ (fun hHeld => ?_)
              · exact trivial
              clear hK K
              (try dsimp only [Act.put]); try simp only [Act.put, List.setIfInBounds_toArray, List.set_cons_zero, List.set_cons_succ]
              refine takeD (i := 18) (some 25) (v := ?_) rfl rfl (by kernel_rfl) (by kernel_rfl) (by kernel_rfl) (fun _ _ _ h => h) (Or.inl ⟨by kernel_rfl, ?_⟩) (by assumption) ?_
              rotate_left
              · (intro w hSw; (try dsimp only at hSw); go_simp; try (with_reducible rfl))
              (try dsimp only [Act.put]); try simp only [Act.put, List.setIfInBounds_toArray, List.set_cons_zero, List.set_cons_succ]
              refine takeD (i := 19) (some 4) (v := ?_) rfl rfl (by kernel_rfl) (by kernel_rfl) (by kernel_rfl) (fun _ _ _ h => h) (Or.inl ⟨by kernel_rfl, ?_⟩) (by assumption) ?_
              rotate_left
              · (intro w hSw; (try dsimp only at hSw); go_simp; try (with_reducible rfl))
              (try dsimp only [Act.put]); try simp only [Act.put, List.setIfInBounds_toArray, List.set_cons_zero, List.set_cons_succ]
              refine wpAnyH_done (by kernel_rfl) ?_ _
              refine NoPanic.normal ?_
              go_wp2_with fail
              go_meet
              exact ⟨by rw [Hfro.out], HT3.out⟩
            exact AllReadyH.nil
          refine AllReadyH.cons rfl (fun K hK => ?_) ?_
          · go_simp
            (with_reducible refine (Hd2.out _).mono ?_)
            rintro e u3 ⟨rfl, hg⟩
            have HT3 := Lib.hid (HT2.out.trans hg)
            have rT_3 := Lib.hid (rT_2.out.frm hg (fun h => h))
            have hz3 := hg.size
            clear hg
            go_wp2_with fail
            refine hK.out _ _ ?_ (fun hHeld => ?_)
            · exact trivial
            clear hK K
            (try dsimp only [Act.put]); try simp only [Act.put, List.setIfInBounds_toArray, List.set_cons_zero, List.set_cons_succ]
            refine wpAnyH_ready (rs := [10]) (by kernel_rfl) (by simp) ?_
            refine AllReadyH.cons rfl (fun K hK => ?_) ?_
            · have qc := rT_3.out.cell 0
              have ql := rT_3.out.lt
              simp at qc
              go_simp
              clear qc ql
              refine hK.out _ _ ?_ (fun hHeld => ?_)
              · exact trivial
              clear hK K
              (try dsimp only [Act.put]); try simp only [Act.put, List.setIfInBounds_toArray, List.set_cons_zero, List.set_cons_succ]
              refine takeD (i := 11) (some 18) (v := ?_) rfl rfl (by kernel_rfl) (by kernel_rfl) (by kernel_rfl) (fun _ _ _ h => h) (Or.inl ⟨by kernel_rfl, ?_⟩) (by assumption) ?_
              rotate_left
              · (intro w hSw; (try dsimp only at hSw); go_simp; try (with_reducible rfl))
              (try dsimp only [Act.put]); try simp only [Act.put, List.setIfInBounds_toArray, List.set_cons_zero, List.set_cons_succ]
              refine takeD (i := 12) (some 19) (v := ?_) rfl rfl (by kernel_rfl) (by kernel_rfl) (by kernel_rfl) (fun _ _ _ h => h) (Or.inl ⟨by kernel_rfl, ?_⟩) (by assumption) ?_
              rotate_left
              · (intro w hSw; (try dsimp only at hSw); go_simp; try (with_reducible rfl))
              (try dsimp only [Act.put]); try simp only [Act.put, List.setIfInBounds_toArray, List.set_cons_zero, List.set_cons_succ]
              refine takeD (i := 18) (some 25) (v := ?_) rfl rfl (by kernel_rfl) (by kernel_rfl) (by kernel_rfl) (fun _ _ _ h => h) (Or.inl ⟨by kernel_rfl, ?_⟩) (by assumption) ?_
              rotate_left
              · (intro w hSw; (try dsimp only at hSw); go_simp; try (with_reducible rfl))
              (try dsimp only [Act.put]); try simp only [Act.put, List.setIfInBounds_toArray, List.set_cons_zero, List.set_cons_succ]
              refine takeD (i := 19) (some 4) (v := ?_) rfl rfl (by kernel_rfl) (by kernel_rfl) (by kernel_rfl) (fun _ _ _ h => h) (Or.inl ⟨by kernel_rfl, ?_⟩) (by assumption) ?_
              rotate_left
              · (intro w hSw; (try dsimp only at hSw); go_simp; try (with_reducible rfl))
              (try dsimp only [Act.put]); try simp only [Act.put, List.setIfInBounds_toArray, List.set_cons_zero, List.set_cons_succ]
              refine wpAnyH_done (by kernel_rfl) ?_ _
              refine NoPanic.normal ?_
              go_wp2_with fail
              go_meet
              exact ⟨by rw [Hfro.out], HT3.out⟩
            exact AllReadyH.nil
          exact AllReadyH.nil
        refine AllReadyH.cons rfl (fun K hK => ?_) ?_
        · have qc := rT_1.out.cell 0
          have ql := rT_1.out.lt
          simp at qc
          go_simp
          clear qc ql
          refine hK.out _ _ ?_ (fun hHeld => ?_)
          · exact trivial
          clear hK K
          (try dsimp only [Act.put]); try simp only [Act.put, List.setIfInBounds_toArray, List.set_cons_zero, List.set_cons_succ]
          refine wpAnyH_ready (rs := [3]) (by kernel_rfl) (by simp) ?_
          refine AllReadyH.cons rfl (fun K hK => ?_) ?_
          · go_simp
            (with_reducible refine (Hd1.out _).mono ?_)
            rintro e u2 ⟨rfl, hg⟩
            have HT2 := Lib.hid (HT1.out.trans hg)
            have rT_2 := Lib.hid (rT_1.out.frm hg (fun h => h))
            have hz2 := hg.size
            clear hg
            go_wp2_with fail
            refine hK.out _ _ ?_ (fun hHeld => ?_)
            · exact trivial
            clear hK K
            (try dsimp only [Act.put]); try simp only [Act.put, List.setIfInBounds_toArray, List.set_cons_zero, List.set_cons_succ]
            refine takeD (i := 11) (some 18) (v := ?_) rfl rfl (by kernel_rfl) (by kernel_rfl) (by kernel_rfl) (fun _ _ _ h => h) (Or.inl ⟨by kernel_rfl, ?_⟩) (by assumption) ?_
            rotate_left
            · (intro w hSw; (try dsimp only at hSw); go_simp; try (with_reducible rfl))
            (try dsimp only [Act.put]); try simp only [Act.put, List.setIfInBounds_toArray, List.set_cons_zero, List.set_cons_succ]
            refine takeD (i := 12) (some 19) (v := ?_) rfl rfl (by kernel_rfl) (by kernel_rfl) (by kernel_rfl) (fun _ _ _ h => h) (Or.inl ⟨by kernel_rfl, ?_⟩) (by assumption) ?_
            rotate_left
            · (intro w hSw; (try dsimp only at hSw); go_simp; try (with_reducible rfl))
            (try dsimp only [Act.put]); try simp only [Act.put, List.setIfInBounds_toArray, List.set_cons_zero, List.set_cons_succ]
            refine wpAnyH_ready (rs := [17]) (by kernel_rfl) (by simp) ?_
            refine AllReadyH.cons rfl (fun K hK => ?_) ?_
            · go_simp
              (with_reducible refine (Hd2.out _).mono ?_)
              rintro e u3 ⟨rfl, hg⟩
              have HT3 := Lib.hid (HT2.out.trans hg)
              have rT_3 := Lib.hid (rT_2.out.frm hg (fun h => h))
              have hz3 := hg.size
              clear hg
              go_wp2_with fail
              refine hK.out _ _ ?_ (fun hHeld => ?_)
              · exact trivial
              clear hK K
              (try dsimp only [Act.put]); try simp only [Act.put, List.setIfInBounds_toArray, List.set_cons_zero, List.set_cons_succ]
              refine takeD (i := 18) (some 25) (v := ?_) rfl rfl (by kernel_rfl) (by kernel_rfl) (by kernel_rfl) (fun _ _ _ h => h) (Or.inl ⟨by kernel_rfl, ?_⟩) (by assumption) ?_
              rotate_left
              · (intro w hSw; (try dsimp only at hSw); go_simp; try (with_reducible rfl))
              (try dsimp only [Act.put]); try simp only [Act.put, List.setIfInBounds_toArray, List.set_cons_zero, List.set_cons_succ]
              refine takeD (i := 19) (some 4) (v := ?_) rfl rfl (by kernel_rfl) (by kernel_rfl) (by kernel_rfl) (fun _ _ _ h => h) (Or.inl ⟨by kernel_rfl, ?_⟩) (by assumption) ?_
              rotate_left
              · (intro w hSw; (try dsimp only at hSw); go_simp; try (with_reducible rfl))
              (try dsimp only [Act.put]); try simp only [Act.put, List.setIfInBounds_toArray, List.set_cons_zero, List.set_cons_succ]
              refine wpAnyH_done (by kernel_rfl) ?_ _
              refine NoPanic.normal ?_
              go_wp2_with fail
              go_meet
              exact ⟨by rw [Hfro.out], HT3.out⟩
            exact AllReadyH.nil
          exact AllReadyH.nil
        exact AllReadyH.nil
      exact AllReadyH.nil
  case rest =>
    obtain ⟨rfl, hfx⟩ := hcut
    have Hfx := Lib.hid hfx
    clear hfx
    obtain ⟨FL, hFL⟩ : ∃ F, F = bs (frontL k) := ⟨_, rfl⟩
    rw [← hFL]
    have hfl := Hfl.out
    rw [← hFL] at hfl
    have HFL := Lib.hid hFL
    clear hFL
    go_upto_if 29 with fail
    go_cut [4] (fun s wx => s = .string (bs (nameL k)) ∧ Frm noB W1 wx)
    case first =>
      by_cases hj : k / 90 % 3 = 1
      · have hnam := Hnam.out hj
        rw [show ((k : Int) / 90 % 3 == 1) = true from by rw [beq_iff_eq]; omega]
        rw [← HFL.out] at hnam
        have hs3 := Hs3.out
        have f1 : FL.size + 1 ≤ 5 := by omega
        have Hnam := Lib.hid hnam
        have Hs3 := Lib.hid hs3
        have Hj := Lib.hid hj
        clear hnam hs3 hj
        go_wp2_with fail
        refine (Hd3.out _).mono ?_
        rintro e w3 ⟨rfl, hf3⟩
        have Hf3 := Lib.hid (Hfx.out.trans hf3)
        clear hf3
        have hz3 : D3.size ≤ 1 := by rw [Hs3.out]; exact Nat.le_refl _
        go_wp2_with fail
        go_meet
        exact ⟨by rw [Hnam.out], Hf3.out⟩
      · have hnam := Hnam2.out hj
        rw [show ((k : Int) / 90 % 3 == 1) = false from by rw [beq_eq_false_iff_ne]; omega]
        have Hnam := Lib.hid hnam
        have Hj := Lib.hid hj
        clear hnam hj
        go_wp2_with fail
        go_meet
        exact ⟨by rw [Hnam.out, HFL.out], Hfx.out⟩
    case rest =>
      obtain ⟨rfl, hfx2⟩ := hcut
      have hbl := (HB1.out.frm hfx2 (fun h => h)).lt
      have hB2 := HB1.out.frm hfx2 (fun h => h)
      have hF2 := HF1.out.trans hfx2
      obtain ⟨nm, hnm⟩ : ∃ x, x = bs (nameL k) := ⟨_, rfl⟩
      rw [← hnm]
      have Hfx2 := Lib.hid hfx2
      have HB2 := Lib.hid hB2
      have HF2 := Lib.hid hF2
      have Hnm := Lib.hid hnm
      clear hfx2 hB2 hF2 hnm
      go_wp2_with (first | (refine wpl_store_blk (by rfl) 39 _ _ (by rfl) _ (by rfl) _ _ (by exact HB2.out) _ (by rfl) (by exact info_spz) (by rfl) (by kernel_rfl) ?_; intro wz hRq hfq))
      refine bodyPost_ret (span_res _ _ _ _ _ rfl hRq rfl) rfl ?_
      exact ⟨by rw [Hnm.out]; rfl, HF2.out.new hfq (fun i hi e => by have e2 : i = w.heap.size := e; omega)⟩
end Go.Proofs.YtdamhohoeobfgaaDoor
