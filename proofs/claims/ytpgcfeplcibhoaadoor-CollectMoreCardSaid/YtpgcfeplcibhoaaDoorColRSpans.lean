/- Req of the reference: the number with which a name begins. Name and Span of the reference: names and spans made of numbers. Spans of the reference: a row of spans made of numbers. -/
import Derived.Test.YtpgcfeplcibhoaaDoorColNames
import Derived.Test.YtpgcfeplcibhoaaDoorTraceRef
import Derived.Test.YtpgcfeplcibhoaaDoorDecimal
import Derived.Test.YtpgcfeplcibhoaaDoorStoreNew
import Derived.Deep.RegionLaw
import Derived.Deep.RegionHeld3
import Derived.Deep.DeepCutAuto
import Derived.StillTailTactics
import Derived.RegionTactic
import Derived.Test.YtpgcfeplcibhoaaDoorIntsL
import Derived.Test.YtpgcfeplcibhoaaDoorOwnSet
set_option linter.unusedVariables false
set_option linter.unusedSimpArgs false
namespace Go.Proofs.YtpgcfeplcibhoaaDoor
open Go.RowKit

theorem tw_take : ∀ (l : List UInt8) (j : Nat), (∀ c ∈ l.take j, isDig c = true) → l.takeWhile isDig = l.take j ++ (l.drop j).takeWhile isDig
  | l, 0, _ => by simp
  | [], j + 1, _ => by simp
  | a :: l, j + 1, h => by
    have ha : isDig a = true := h a (by simp)
    rw [List.takeWhile_cons, if_pos ha, List.take_succ_cons, List.drop_succ_cons, tw_take l j (fun c hc => h c (by rw [List.take_succ_cons]; exact List.mem_cons_of_mem _ hc))]
    rfl
theorem rq30_stop {l : List UInt8} {j : Nat} (h : ∀ c ∈ l.take j, isDig c = true) (hj : j ≤ 9) (hl : j ≤ l.length) (hs : j = 9 ∨ l[j]? = none ∨ ∃ c, l[j]? = some c ∧ isDig c = false) : rq30 l = dval (l.take j) := by
  unfold rq30
  rcases hs with rfl | hs
  · rw [tw_take l 9 h, List.take_append, List.take_take]
    have : (l.take 9).length = 9 := by rw [List.length_take]; omega
    rw [this]; simp
  · rw [run_stop h hs, List.take_take]
    congr 2; omega
set_option maxHeartbeats 1000000 in
theorem rreq_any (s : ByteArray) (w : World) (hs : s.size ≤ 1000000) :
    Calls Tryd.prog 26 #[.string s] w fun e w' => e = .returned (.int .i64 (rq30 s.data.toList)) ∧ w = w' := by
  have hlen := ba_len s
  have Hlen := Lib.hid hlen
  clear hlen
  go_enter Tryd.func26, Tryd.ntmps26
  go_wp2_with fail
  go_loop [3, 4] (fun n i => ∃ j : Nat, j ≤ s.size ∧ j ≤ 9 ∧ i = .int .i64 (j : Int) ∧ n = .int .i64 (dval (s.data.toList.take j)) ∧ ∀ c ∈ s.data.toList.take j, isDig c = true) (fun _ i => s.size - (intOf i).toNat)
  case atStart => exact ⟨0, by omega, by omega, rfl, rfl, by simp⟩
  case round =>
    obtain ⟨j, hj, hj9, rfl, rfl, hdig⟩ := hrel
    have hbd := dval_bd j (s.data.toList.take j) (by rw [List.length_take, Hlen.out]; omega) hdig
    have hp := pow10 (show j ≤ 10 by omega)
    have hb0 := hbd.1
    have hb1 : dval (s.data.toList.take j) ≤ 10000000000 := by omega
    clear hbd hp
    by_cases hlt : j < s.size
    · by_cases h9 : j < 9
      · have hget := byte_at hlt
        cases hd : isDig s[j]
        · have hnd : ¬ (48 ≤ (s[j].toNat : Int) ∧ (s[j].toNat : Int) ≤ 57) := by
            unfold isDig at hd; simp only [decide_eq_false_iff_not] at hd; omega
          have hst := rq30_stop hdig hj9 (by rw [Hlen.out]; exact hj) (.inr (.inr ⟨_, hget, hd⟩))
          have Hst := Lib.hid hst
          clear hst
          clear hget hd hdig
          by_cases h48 : (s[j].toNat : Int) < 48
          · go_wp2_with fail
            go_ret
            exact ⟨by rw [Hst.out]; rfl, rfl⟩
          · have h57 : 57 < (s[j].toNat : Int) := by omega
            go_wp2_with fail
            go_ret
            exact ⟨by rw [Hst.out]; rfl, rfl⟩
        · have hb := isDig_bd hd
          obtain ⟨hc0, hc1⟩ := hb
          have hts : s.data.toList.take (j + 1) = s.data.toList.take j ++ [s[j]] := by rw [List.take_add_one, hget]; rfl
          have hd2 := dval_app1 (s.data.toList.take j) s[j]
          rw [← hts] at hd2
          have hdg2 : ∀ c ∈ s.data.toList.take (j + 1), isDig c = true := by
            rw [hts]
            intro x hx
            rcases List.mem_append.1 hx with h0 | h0
            · exact hdig x h0
            · simp at h0; subst h0; exact hd
          have Hd2 := Lib.hid hd2
          have Hdg2 := Lib.hid hdg2
          clear hd2 hdg2
          clear hget hd hdig hts
          generalize dval (s.data.toList.take j) = n at *
          go_wp2_with fail
          go_round
          case rel => exact ⟨j + 1, by omega, by omega, by go_num, by rw [Hd2.out], Hdg2.out⟩
          case measure => simp [intOf]; omega
      · obtain rfl : j = 9 := by omega
        have hst := rq30_stop hdig hj9 (by rw [Hlen.out]; exact hj) (.inl rfl)
        have Hst := Lib.hid hst
        clear hst
        clear hdig
        go_wp2_with fail
        go_ret
        exact ⟨by rw [Hst.out]; rfl, rfl⟩
    · have hst := rq30_stop hdig hj9 (by rw [Hlen.out]; exact hj) (.inr (.inl (List.getElem?_eq_none (by rw [Hlen.out]; omega))))
      have Hst := Lib.hid hst
      clear hst
      clear hdig
      go_wp2_with fail
      go_ret
      exact ⟨by rw [Hst.out]; rfl, rfl⟩
end Go.Proofs.YtpgcfeplcibhoaaDoor
set_option linter.unusedVariables false
set_option linter.unusedSimpArgs false
namespace Go.Proofs.YtpgcfeplcibhoaaDoor
open Go.RowKit

theorem tails_len : ∀ l ∈ tailT, l.length ≤ 20 := by decide
theorem tail_len (k : Nat) (h : k < tailT.length) : (tailT.getD k []).length ≤ 20 := by
  rw [List.getD_eq_getElem?_getD, List.getElem?_eq_getElem h]
  exact tails_len _ (List.getElem_mem h)
set_option maxHeartbeats 1000000 in
theorem rname_any (r n : Int) (w : World) (hr : IsReq r) (h0 : -9223372036854775808 ≤ n) (h1 : n ≤ 9223372036854775807) :
    Calls Tryd.prog 28 #[.int .i64 r, .int .i64 n] w fun e w' => e = .returned (.string (bs (nameB r (around n 12)))) ∧ Frm noB w w' := by
  have hr1 : -9223372036854775808 ≤ r ∧ r ≤ 9223372036854775807 := by rcases hr with rfl | rfl | rfl <;> omega
  obtain ⟨hr2, hr3⟩ := hr1
  have hk := around_lt n 12 (by omega)
  go_enter Tryd.func28, Tryd.ntmps28
  go_wp2_with fail
  refine (decimal_any r _ hr2 hr3).mono ?_
  rintro e w1 ⟨rfl, hf⟩
  obtain ⟨wz, hwz⟩ : ∃ W : World, W = w.alloc (.cells (tailT.map fun l => Value.string (bs l)).toArray 9) := ⟨_, rfl⟩
  have hfz : Frm noB w wz := by rw [hwz]; exact (Frm.refl noB w).alloc _
  have hbz : Blk wz w.heap.size (tailT.map fun l => Value.string (bs l)).toArray 9 := by rw [hwz]; exact Blk.made w _ _
  have hf : Frm noB wz w1 := by rw [hwz]; exact hf
  have hb1 := (hbz.frm hf (fun h => h)).cell (around n 12)
  have hk2 : around n 12 < tailT.length := by show around n 12 < 12; omega
  have hb2 : (tailT.map fun l => Value.string (bs l)).toArray[around n 12]? = some (.string (bs (tailT.getD (around n 12) []))) := by
    rw [List.getElem?_toArray, List.getElem?_map, List.getD_eq_getElem?_getD, List.getElem?_eq_getElem hk2]; rfl
  obtain ⟨B, hB⟩ : ∃ B, B = bs (tailT.getD (around n 12) []) := ⟨_, rfl⟩
  have hlt := (hbz.frm hf (fun h => h)).lt
  rw [hb2, ← hB] at hb1
  have hBs : B.size ≤ 20 := by rw [hB, bs_size]; exact tail_len _ hk2
  obtain ⟨A, hA⟩ : ∃ A, A = bs (decL r) := ⟨_, rfl⟩
  have hAs : A.size ≤ 20 := by rw [hA, bs_size, pre_dec hr]; unfold preB; split; simp; split <;> simp
  have hres : A ++ B = bs (nameB r (around n 12)) := by rw [hA, hB, bs_app, pre_dec hr]; rfl
  rw [← hA]
  have hfw := hfz.trans hf
  clear hb2 hA hB
  have Hr := Lib.hid hr
  have Hf := Lib.hid hf
  have Hfz := Lib.hid hfz
  have Hbz := Lib.hid hbz
  have Hwz := Lib.hid hwz
  have Hfw := Lib.hid hfw
  have Hres := Lib.hid hres
  clear hr hf hfz hbz hwz hfw hres
  go_wp2_with fail
  refine (around_any n 12 _ h0 h1 (by omega) (by omega)).mono ?_
  rintro e w' ⟨rfl, rfl⟩
  go_wp2_with fail
  go_ret
  exact ⟨by rw [← Hres.out]; rfl, Hfw.out⟩
def spR (K : Int) (r : Int) : Spn := ⟨bs (nameB r (around (K / 3) 12)), 1 + K / 36 % 4, K / 144 % 50, K / 144 % 50 + K / 21600 % 9, decide (0 < K / 7200 % 3), K / 36 % 3⟩
theorem spK_R (k : Nat) (K : Int) (hK : K = (k : Int)) (r : Int) (h : req30 k = r) : spK k = spR K r := by
  subst hK
  unfold spK spR
  rw [h]
  have e : around ((k : Int) / 3) 12 = k / 3 % 12 := by unfold around; rw [if_neg (by omega)]; omega
  rw [e]
  congr 1
  simp only [decide_eq_decide]; omega
theorem info_sp6 : (Tryd.prog.info? 30).map (·.size) = some 6 := by kernel_rfl
theorem rspan_res (tmps : Array Value) (w : World) (B : Nat) (cs : Array Value) (T : TypeId) (h : tmps[2]?.getD undef = .pointer (some ⟨B, 0, none⟩)) (hB : Blk w B cs T) (hc : cs.size = 6) :
    (results Tryd.f30 tmps).run Tryd.prog w = .ok (.agg cs) w := by
  have hl := run_loadVar_mid (P := Tryd.prog) w B 0 30 cs.toList _ (fun j v hv => by rw [Nat.zero_add, hB.cell]; simpa using hv) Tryd.underlying30 rfl (by rw [Array.length_toList, hc]; exact info_sp6)
  simp only [Array.toArray_toList] at hl
  simp [results, Tryd.results30, asAddr, h, hl]
set_option maxRecDepth 100000 in
set_option maxHeartbeats 2000000 in
theorem rspan_any (n : Int) (w : World) (h0 : -9223372036854775808 ≤ n) (h1 : n ≤ 9223372036854775807) :
    Calls Tryd.prog 30 #[.int .i64 n] w fun e w' => e = .returned (spnV (sp30 n)) ∧ Frm noB w w' := by
  have hk0 := around_lt n 100000 (by omega)
  have hsp : sp30 n = spK (around n 100000) := rfl
  rw [hsp]
  clear hsp
  have Hk0 := Lib.hid hk0
  clear hk0
  go_enter Tryd.func30, Tryd.ntmps30
  go_wp2_with fail
  refine (around_any n 100000 _ h0 h1 (by omega) (by omega)).mono ?_
  rintro e w' ⟨rfl, rfl⟩
  obtain ⟨K, hK⟩ : ∃ K : Int, K = ((around n 100000 : Nat) : Int) := ⟨_, rfl⟩
  rw [← hK]
  have hK0 : 0 ≤ K := by omega
  have hK1 : K < 100000 := by have := Hk0.out; omega
  have HK := Lib.hid hK
  clear hK
  have hm : K % 3 = 0 ∨ K % 3 = 1 ∨ K % 3 = 2 := by omega
  rcases hm with hx | hx | hx
  · have hq : (Ending.returned (spnV (spK (around n 100000)))) = Ending.returned (spnV (spR K 1)) := by
      rw [spK_R _ _ HK.out 1 (by unfold req30; rw [if_pos (by have := HK.out; omega)])]
    have Hq := Lib.hid hq
    clear hq
    go_wp2_with fail
    refine (rname_any 1 (K / 3) _ (.inl rfl) (by omega) (by omega)).mono ?_
    rintro e w1 ⟨rfl, hf⟩
    obtain ⟨A, hA⟩ : ∃ A, A = bs (nameB 1 (around (K / 3) 12)) := ⟨_, rfl⟩
    rw [← hA]
    have Hb := Lib.hid (((Blk.made w #[.string ⟨#[]⟩, .int .i64 0, .int .i64 0, .int .i64 0, .bool false, .int .i64 0] 30).frm ((Frm.refl noB _).alloc (.cells #[.int .i64 1, .int .i64 2, .int .i64 11] 3)) (fun h => h)).frm hf (fun h => h))
    have Hf := Lib.hid ((((Frm.refl noB w).alloc (.cells #[.string ⟨#[]⟩, .int .i64 0, .int .i64 0, .int .i64 0, .bool false, .int .i64 0] 30)).alloc (.cells #[.int .i64 1, .int .i64 2, .int .i64 11] 3)).trans hf)
    have HA := Lib.hid hA
    clear hA
    clear hf
    obtain ⟨W, hW⟩ : ∃ W, decide (0 < K / 7200 % 3) = W := ⟨_, rfl⟩
    go_upto_region 3 with (refine wpl_store_new _ (by rfl) 30 _ _ (by rfl) _ (by rfl) (by first | rfl | simp) _ _ _ (by rfl) (by exact info_sp6) (by rfl) (by kernel_rfl) ?_)
    go_upto_region 4 with fail
    obtain ⟨c1, hc1⟩ : ∃ c, c = 1 + K / 36 % 4 := ⟨_, rfl⟩
    obtain ⟨c2, hc2⟩ : ∃ c, c = K / 144 % 50 := ⟨_, rfl⟩
    obtain ⟨c3, hc3⟩ : ∃ c, c = K / 144 % 50 + K / 21600 % 9 := ⟨_, rfl⟩
    obtain ⟨c5, hc5⟩ : ∃ c, c = K / 36 % 3 := ⟨_, rfl⟩
    rw [← hc1, ← hc3, ← hc5, ← hc2]
    have Hf2 := Lib.hid (Hf.out.alloc (.cells #[.string A, .int .i64 c1, .int .i64 c2, .int .i64 c3, .bool W, .int .i64 c5] 30))
    have bS := Hb.out.frm ((Frm.refl noB w1).alloc (.cells #[.string A, .int .i64 c1, .int .i64 c2, .int .i64 c3, .bool W, .int .i64 c5] 30)) (fun h => h)
    have bL := Blk.made w1 #[.string A, .int .i64 c1, .int .i64 c2, .int .i64 c3, .bool W, .int .i64 c5] 30
    generalize w1.alloc (.cells #[.string A, .int .i64 c1, .int .i64 c2, .int .i64 c3, .bool W, .int .i64 c5] 30) = w2 at *
    have Hc1 := Lib.hid hc1
    have Hc2 := Lib.hid hc2
    have Hc3 := Lib.hid hc3
    have Hc5 := Lib.hid hc5
    have HW := Lib.hid hW
    have Hx := Lib.hid hx
    have HK0 := Lib.hid hK0
    have HK1 := Lib.hid hK1
    clear hc1 hc2 hc3 hc5 hW hx hK0 hK1
    go_wp2_with (first | (refine wpl_load_blk (by rfl) 30 _ (by rfl) _ (by rfl) _ _ (by exact bL) _ Tryd.underlying30 (by rfl) (by exact info_sp6) ?_) | (refine wpl_store_blk (by rfl) 30 _ _ (by rfl) _ (by rfl) _ _ (by exact bS) _ (by rfl) (by exact info_sp6) (by rfl) (by kernel_rfl) ?_; intro wz hRq hfq))
    refine bodyPost_ret (rspan_res _ _ _ _ _ (by rfl) hRq (by rfl)) rfl ⟨?_, Hf2.out.new hfq (fun i hi e => by have e2 := (show _ = _ from e); omega)⟩
    rw [Hq.out]
    unfold spR
    rw [← HA.out, ← Hc1.out, ← Hc3.out, ← Hc2.out, ← Hc5.out, HW.out]; rfl
  · have hq : (Ending.returned (spnV (spK (around n 100000)))) = Ending.returned (spnV (spR K 2)) := by
      rw [spK_R _ _ HK.out 2 (by unfold req30; rw [if_neg (by have := HK.out; omega), if_pos (by have := HK.out; omega)])]
    have Hq := Lib.hid hq
    clear hq
    go_wp2_with fail
    refine (rname_any 2 (K / 3) _ (.inr (.inl rfl)) (by omega) (by omega)).mono ?_
    rintro e w1 ⟨rfl, hf⟩
    obtain ⟨A, hA⟩ : ∃ A, A = bs (nameB 2 (around (K / 3) 12)) := ⟨_, rfl⟩
    rw [← hA]
    have Hb := Lib.hid (((Blk.made w #[.string ⟨#[]⟩, .int .i64 0, .int .i64 0, .int .i64 0, .bool false, .int .i64 0] 30).frm ((Frm.refl noB _).alloc (.cells #[.int .i64 1, .int .i64 2, .int .i64 11] 3)) (fun h => h)).frm hf (fun h => h))
    have Hf := Lib.hid ((((Frm.refl noB w).alloc (.cells #[.string ⟨#[]⟩, .int .i64 0, .int .i64 0, .int .i64 0, .bool false, .int .i64 0] 30)).alloc (.cells #[.int .i64 1, .int .i64 2, .int .i64 11] 3)).trans hf)
    have HA := Lib.hid hA
    clear hA
    clear hf
    obtain ⟨W, hW⟩ : ∃ W, decide (0 < K / 7200 % 3) = W := ⟨_, rfl⟩
    go_upto_region 3 with (refine wpl_store_new _ (by rfl) 30 _ _ (by rfl) _ (by rfl) (by first | rfl | simp) _ _ _ (by rfl) (by exact info_sp6) (by rfl) (by kernel_rfl) ?_)
    go_upto_region 4 with fail
    obtain ⟨c1, hc1⟩ : ∃ c, c = 1 + K / 36 % 4 := ⟨_, rfl⟩
    obtain ⟨c2, hc2⟩ : ∃ c, c = K / 144 % 50 := ⟨_, rfl⟩
    obtain ⟨c3, hc3⟩ : ∃ c, c = K / 144 % 50 + K / 21600 % 9 := ⟨_, rfl⟩
    obtain ⟨c5, hc5⟩ : ∃ c, c = K / 36 % 3 := ⟨_, rfl⟩
    rw [← hc1, ← hc3, ← hc5, ← hc2]
    have Hf2 := Lib.hid (Hf.out.alloc (.cells #[.string A, .int .i64 c1, .int .i64 c2, .int .i64 c3, .bool W, .int .i64 c5] 30))
    have bS := Hb.out.frm ((Frm.refl noB w1).alloc (.cells #[.string A, .int .i64 c1, .int .i64 c2, .int .i64 c3, .bool W, .int .i64 c5] 30)) (fun h => h)
    have bL := Blk.made w1 #[.string A, .int .i64 c1, .int .i64 c2, .int .i64 c3, .bool W, .int .i64 c5] 30
    generalize w1.alloc (.cells #[.string A, .int .i64 c1, .int .i64 c2, .int .i64 c3, .bool W, .int .i64 c5] 30) = w2 at *
    have Hc1 := Lib.hid hc1
    have Hc2 := Lib.hid hc2
    have Hc3 := Lib.hid hc3
    have Hc5 := Lib.hid hc5
    have HW := Lib.hid hW
    have Hx := Lib.hid hx
    have HK0 := Lib.hid hK0
    have HK1 := Lib.hid hK1
    clear hc1 hc2 hc3 hc5 hW hx hK0 hK1
    go_wp2_with (first | (refine wpl_load_blk (by rfl) 30 _ (by rfl) _ (by rfl) _ _ (by exact bL) _ Tryd.underlying30 (by rfl) (by exact info_sp6) ?_) | (refine wpl_store_blk (by rfl) 30 _ _ (by rfl) _ (by rfl) _ _ (by exact bS) _ (by rfl) (by exact info_sp6) (by rfl) (by kernel_rfl) ?_; intro wz hRq hfq))
    refine bodyPost_ret (rspan_res _ _ _ _ _ (by rfl) hRq (by rfl)) rfl ⟨?_, Hf2.out.new hfq (fun i hi e => by have e2 := (show _ = _ from e); omega)⟩
    rw [Hq.out]
    unfold spR
    rw [← HA.out, ← Hc1.out, ← Hc3.out, ← Hc2.out, ← Hc5.out, HW.out]; rfl
  · have hq : (Ending.returned (spnV (spK (around n 100000)))) = Ending.returned (spnV (spR K 11)) := by
      rw [spK_R _ _ HK.out 11 (by unfold req30; rw [if_neg (by have := HK.out; omega), if_neg (by have := HK.out; omega)])]
    have Hq := Lib.hid hq
    clear hq
    go_wp2_with fail
    refine (rname_any 11 (K / 3) _ (.inr (.inr rfl)) (by omega) (by omega)).mono ?_
    rintro e w1 ⟨rfl, hf⟩
    obtain ⟨A, hA⟩ : ∃ A, A = bs (nameB 11 (around (K / 3) 12)) := ⟨_, rfl⟩
    rw [← hA]
    have Hb := Lib.hid (((Blk.made w #[.string ⟨#[]⟩, .int .i64 0, .int .i64 0, .int .i64 0, .bool false, .int .i64 0] 30).frm ((Frm.refl noB _).alloc (.cells #[.int .i64 1, .int .i64 2, .int .i64 11] 3)) (fun h => h)).frm hf (fun h => h))
    have Hf := Lib.hid ((((Frm.refl noB w).alloc (.cells #[.string ⟨#[]⟩, .int .i64 0, .int .i64 0, .int .i64 0, .bool false, .int .i64 0] 30)).alloc (.cells #[.int .i64 1, .int .i64 2, .int .i64 11] 3)).trans hf)
    have HA := Lib.hid hA
    clear hA
    clear hf
    obtain ⟨W, hW⟩ : ∃ W, decide (0 < K / 7200 % 3) = W := ⟨_, rfl⟩
    go_upto_region 3 with (refine wpl_store_new _ (by rfl) 30 _ _ (by rfl) _ (by rfl) (by first | rfl | simp) _ _ _ (by rfl) (by exact info_sp6) (by rfl) (by kernel_rfl) ?_)
    go_upto_region 4 with fail
    obtain ⟨c1, hc1⟩ : ∃ c, c = 1 + K / 36 % 4 := ⟨_, rfl⟩
    obtain ⟨c2, hc2⟩ : ∃ c, c = K / 144 % 50 := ⟨_, rfl⟩
    obtain ⟨c3, hc3⟩ : ∃ c, c = K / 144 % 50 + K / 21600 % 9 := ⟨_, rfl⟩
    obtain ⟨c5, hc5⟩ : ∃ c, c = K / 36 % 3 := ⟨_, rfl⟩
    rw [← hc1, ← hc3, ← hc5, ← hc2]
    have Hf2 := Lib.hid (Hf.out.alloc (.cells #[.string A, .int .i64 c1, .int .i64 c2, .int .i64 c3, .bool W, .int .i64 c5] 30))
    have bS := Hb.out.frm ((Frm.refl noB w1).alloc (.cells #[.string A, .int .i64 c1, .int .i64 c2, .int .i64 c3, .bool W, .int .i64 c5] 30)) (fun h => h)
    have bL := Blk.made w1 #[.string A, .int .i64 c1, .int .i64 c2, .int .i64 c3, .bool W, .int .i64 c5] 30
    generalize w1.alloc (.cells #[.string A, .int .i64 c1, .int .i64 c2, .int .i64 c3, .bool W, .int .i64 c5] 30) = w2 at *
    have Hc1 := Lib.hid hc1
    have Hc2 := Lib.hid hc2
    have Hc3 := Lib.hid hc3
    have Hc5 := Lib.hid hc5
    have HW := Lib.hid hW
    have Hx := Lib.hid hx
    have HK0 := Lib.hid hK0
    have HK1 := Lib.hid hK1
    clear hc1 hc2 hc3 hc5 hW hx hK0 hK1
    go_wp2_with (first | (refine wpl_load_blk (by rfl) 30 _ (by rfl) _ (by rfl) _ _ (by exact bL) _ Tryd.underlying30 (by rfl) (by exact info_sp6) ?_) | (refine wpl_store_blk (by rfl) 30 _ _ (by rfl) _ (by rfl) _ _ (by exact bS) _ (by rfl) (by exact info_sp6) (by rfl) (by kernel_rfl) ?_; intro wz hRq hfq))
    refine bodyPost_ret (rspan_res _ _ _ _ _ (by rfl) hRq (by rfl)) rfl ⟨?_, Hf2.out.new hfq (fun i hi e => by have e2 := (show _ = _ from e); omega)⟩
    rw [Hq.out]
    unfold spR
    rw [← HA.out, ← Hc1.out, ← Hc3.out, ← Hc2.out, ← Hc5.out, HW.out]; rfl
end Go.Proofs.YtpgcfeplcibhoaaDoor
set_option linter.unusedVariables false
set_option linter.unusedSimpArgs false
namespace Go.Proofs.YtpgcfeplcibhoaaDoor
open Go.RowKit

theorem map_take_snoc2 {α β : Type} (f : α → β) (l : List α) (j : Nat) (x : α) (hx : l[j]? = some x) : (l.take (j + 1)).map f = (l.take j).map f ++ [f x] := by
  rw [List.take_add_one, hx, List.map_append]; rfl
set_option maxRecDepth 100000 in
set_option maxHeartbeats 2000000 in
theorem rspans_any (a0 : Option Addr) (n c : Nat) (xs : List Int) (w : World) (h0 : IntsL w a0 n xs) :
    Calls Tryd.prog 11 #[.slice a0 n c] w fun e w' => ∃ v, e = .returned v ∧ Own spnE w' w.heap.size 30 v (spans30 xs) ∧ Frm noB w w' := by
  have hn := h0.most
  have hl := h0.len
  have hbd := h0.bd
  have H0 := Lib.hid h0
  have Hl := Lib.hid hl
  have Hbd := Lib.hid hbd
  clear h0 hl hbd
  go_enter Tryd.func11, Tryd.ntmps11
  go_wp2_with fail
  go_loopw [3, 4] (fun o i wr => ∃ k : Nat, k ≤ n ∧ k ≤ 16 ∧ i = .int .i64 k ∧ Own spnE wr w.heap.size 30 o ((xs.take k).map sp30) ∧ Frm noB w wr) (fun _ i _ => n - (intOf i).toNat)
  case atStart => exact ⟨0, by omega, by omega, rfl, Own.nil _ _ _ _, Frm.refl _ _⟩
  case round =>
    obtain ⟨k, hk, hk16, rfl, ho, hf⟩ := hrel
    by_cases hlt : k < n
    · by_cases hlt16 : k < 16
      · obtain ⟨x, hx⟩ := get_of_lt (l := xs) (j := k) (by rw [Hl.out]; exact hlt)
        obtain ⟨bb, off, rfl, hb, hc⟩ := (H0.out.keep hf).cells k x hx
        obtain ⟨hx0, hx1⟩ := Hbd.out x (List.mem_of_getElem? hx)
        have hol : ((xs.take k).map sp30).length ≤ 1000000 := by rw [List.length_map, List.length_take]; omega
        have hsn := map_take_snoc2 sp30 xs k x hx
        have hbs := hf.size
        obtain ⟨P, hP⟩ : ∃ P, P = (xs.take k).map sp30 := ⟨_, rfl⟩
        rw [← hP] at ho hol hsn
        obtain ⟨S, hS⟩ : ∃ S, S = sp30 x := ⟨_, rfl⟩
        rw [← hS] at hsn
        have hcall := fun W => rspan_any x W hx0 hx1
        simp only [← hS] at hcall
        obtain ⟨s0, s1, s2, s3, s4, s5⟩ := S
        simp only [spnV] at hcall
        clear hP hS hx0 hx1
        have Ho := Lib.hid ho
        have Hf := Lib.hid hf
        have Hx := Lib.hid hx
        have Hol := Lib.hid hol
        have Hsn := Lib.hid hsn
        have Hbs := Lib.hid hbs
        have Hcall := Lib.hid hcall
        clear ho hf hx hol hsn hbs hcall
        go_wp2_with (first | (go_at_call 30; refine (Hcall.out _).mono ?_; rintro e w1 ⟨rfl, hf1⟩; have Ho1 := Lib.hid (Ho.out.keep hf1); have Hf1 := Lib.hid (Hf.out.trans hf1); have Hbs1 := Lib.hid (Nat.le_trans Hbs.out hf1.size); clear hf1) | (at_builtin; refine app_spn w1 rfl _ _ (by rfl) w.heap.size _ _ (by rfl) Ho1.out ⟨s0, s1, s2, s3, s4, s5⟩ _ (by rfl) _ rfl (by rfl) Hol.out Hbs1.out ?_; intro v' w2 ho2 _ hf2 _ _; have Ho2 := Lib.hid ho2; have Hf2 := Lib.hid (Hf1.out.new hf2 (fun i hi e => by have := (Ho1.out.lt i e.symm).1; omega)); clear ho2 hf2))
        go_roundw
        case rel => exact ⟨k + 1, by omega, by omega, by go_num, by rw [Hsn.out]; exact Ho2.out, Hf2.out⟩
        case measure => simp [intOf]; omega
      · obtain rfl : k = 16 := by omega
        have he : spans30 xs = (xs.take 16).map sp30 := rfl
        have He := Lib.hid he
        have Ho := Lib.hid ho
        have Hf := Lib.hid hf
        clear he ho hf
        go_wp2_with fail
        go_ret
        exact ⟨_, rfl, by rw [He.out]; exact Ho.out, Hf.out⟩
    · obtain rfl : k = n := by omega
      have he : spans30 xs = (xs.take k).map sp30 := by
        unfold spans30
        rw [List.take_of_length_le (by rw [Hl.out]; exact hk16), List.take_of_length_le (by rw [Hl.out]; exact Nat.le_refl _)]
      have He := Lib.hid he
      have Ho := Lib.hid ho
      have Hf := Lib.hid hf
      clear he ho hf
      go_wp2_with fail
      go_ret
      exact ⟨_, rfl, by rw [He.out]; exact Ho.out, Hf.out⟩
end Go.Proofs.YtpgcfeplcibhoaaDoor
