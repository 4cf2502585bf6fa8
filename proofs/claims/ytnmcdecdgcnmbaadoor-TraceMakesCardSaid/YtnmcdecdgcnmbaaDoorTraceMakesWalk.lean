/- The walk of the statement TraceMakes. -/
import Derived.Test.YtnmcdecdgcnmbaaDoorMakesP
import Derived.Test.YtnmcdecdgcnmbaaDoorTraceLives
import Derived.Deep.RegionHeld3
import Derived.Outline
import Derived.IntWalk
set_option linter.unusedVariables false
set_option linter.unusedSimpArgs false
namespace Go.Proofs.YtnmcdecdgcnmbaaDoor
open Go.RowKit

set_option maxRecDepth 100000 in
set_option maxHeartbeats 4000000 in
theorem traceMakes_walk (a0 : Int) (a1 : Int) (a2 : Int) (a3 : Int) (w0 : (Lit.int .i64 a0).wf = true) (w1 : (Lit.int .i64 a1).wf = true) (w2 : (Lit.int .i64 a2).wf = true) (w3 : (Lit.int .i64 a3).wf = true) (w : World) :
    Calls Tryd.prog 3 #[.int .i64 a0, .int .i64 a1, .int .i64 a2, .int .i64 a3] w fun e w' => e = .returned (.bool true) ∧ Below w.heap.size w w' := by
  have b0 := wf_i64 w0
  have b1 := wf_i64 w1
  have b2 := wf_i64 w2
  have b3 := wf_i64 w3
  clear w0 w1 w2 w3
  have p0 := fun w => around_any a0 300 w b0.1 b0.2 (by omega) (by omega)
  have p1 := fun w => around_any a1 8 w b1.1 b1.2 (by omega) (by omega)
  have p2 := fun w => around_any a2 4 w b2.1 b2.2 (by omega) (by omega)
  have p3 := fun w => around_any a3 8 w b3.1 b3.2 (by omega) (by omega)
  have l0 := around_lt a0 300 (by omega)
  have l1 := around_lt a1 8 (by omega)
  have l2 := around_lt a2 4 (by omega)
  have l3 := around_lt a3 8 (by omega)
  generalize around a0 300 = q0 at *
  generalize around a1 8 = q1 at *
  generalize around a2 4 = k at *
  generalize around a3 8 = q3 at *
  obtain ⟨r, hr⟩ : ∃ r, r = q0 + 1 := ⟨_, rfl⟩
  obtain ⟨t, ht⟩ : ∃ t, t = q1 + 1 := ⟨_, rfl⟩
  obtain ⟨n, hn⟩ : ∃ n, n = q3 + 1 := ⟨_, rfl⟩
  have e0 : (1 : Int) + (q0 : Int) = (r : Int) := by omega
  have e1 : (1 : Int) + (q1 : Int) = (t : Int) := by omega
  have e3 : (1 : Int) + (q3 : Int) = (n : Int) := by omega
  have r1 : 1 ≤ r ∧ r ≤ 300 := by omega
  have t1 : 1 ≤ t ∧ t ≤ 8 := by omega
  have n1 : 1 ≤ n ∧ n ≤ 8 := by omega
  have k1 : k < 4 := by omega
  clear l0 l1 l2 l3 b0 b1 b2 b3
  have hmd := made r t k n r1.1 (by omega) t1.1 (by omega) (by omega) n1.1 (by omega)
  have hzl := nmZ_len r t k n (by omega) (by omega) (by omega) (by omega)
  have hde := fun w => decimal_any (r : Int) w (by omega) (by omega)
  unfold DecIs at hde
  have hdr : decL (r : Int) = digN r := by simp [decL, show ¬ (r : Int) < 0 from by omega]
  rw [hdr] at hde
  have tr0 := fun w => try_any (r : Int) (bs (digN r)) 0 false false 50 8 1 0 (t : Int) 4 w
  have hX : spanL (bs (digN r)) t = bs (nmX r t) := by unfold spanL; rw [if_pos (by omega), show (⟨#[58]⟩ : ByteArray) = bs [58] from rfl, bs_app, bs_app]; simp [nmX]
  have ki0 := fun w => kid_4 (r : Int) (bs (digN r)) t false false 50 1 0 k w (by omega) k1 (by rw [bs_size]; have := digN_len_le 3 r (by omega); omega) (by omega) (by omega)
  have sp0 := fun w => cspan_any (r : Int) (bs (digN r)) t false false 50 4 1 0 w (by omega) (by rw [bs_size]; have := digN_len_le 3 r (by omega); omega)
  have hK : bs (nmX r t) ++ ⟨#[47]⟩ ++ bs (digN k) = bs (nmK r t k) := by rw [show (⟨#[47]⟩ : ByteArray) = bs [47] from rfl, bs_app, bs_app]; simp [nmK]
  rw [hX, hK, show (50 - 1 : Int) = 49 from rfl] at ki0
  rw [hX] at sp0
  have tr1 := fun w => try_any (r : Int) (bs (nmK r t k)) 0 false false 49 1 1 0 (n : Int) 0 w
  have hlK : (bs (nmK r t k)).size ≤ 60 := by rw [bs_size]; simp only [nmZ, nmK2, nmY, List.length_append, List.length_cons] at hzl; omega
  have hY : spanL (bs (nmK r t k)) n = bs (nmY r t k n) := by unfold spanL; rw [if_pos (by omega), show (⟨#[58]⟩ : ByteArray) = bs [58] from rfl, bs_app, bs_app]; simp [nmY]
  have ki1 := fun w => kid_0 (r : Int) (bs (nmK r t k)) n false false 49 1 0 k w (by omega) k1 (by omega) (by omega) (by omega)
  have sp1 := fun w => cspan_any (r : Int) (bs (nmK r t k)) n false false 49 0 1 0 w (by omega) (by omega)
  have hK2 : bs (nmY r t k n) ++ ⟨#[47]⟩ ++ bs (digN k) = bs (nmK2 r t k n) := by rw [show (⟨#[47]⟩ : ByteArray) = bs [47] from rfl, bs_app, bs_app]; simp [nmK2]
  rw [hY, hK2, show (49 - 1 : Int) = 48 from rfl] at ki1
  rw [hY] at sp1
  have hlK2 : (bs (nmK2 r t k n)).size ≤ 60 := by rw [bs_size]; simp only [nmZ, List.length_append, List.length_cons] at hzl; omega
  have co := fun w => copy_any (r : Int) (bs (nmK2 r t k n)) 0 false false 48 0 1 0 w (by omega)
  have hC : bs (nmK2 r t k n) ++ (⟨#[126]⟩ : ByteArray) = bs (nmK2 r t k n ++ [126]) := by rw [show (⟨#[126]⟩ : ByteArray) = bs [126] from rfl, bs_app]
  rw [hC] at co
  have hlC : (bs (nmK2 r t k n ++ [126])).size ≤ 60 := by rw [bs_size]; simp only [nmZ, List.length_append, List.length_cons, List.length_nil] at hzl ⊢; omega
  have tr2 := fun w => try_any (r : Int) (bs (nmK2 r t k n ++ [126])) 0 false true 48 0 1 0 1 0 w
  have hZ : spanL (bs (nmK2 r t k n ++ [126])) 1 = bs (nmZ r t k n) := by unfold spanL; rw [if_pos (by omega), show (⟨#[58]⟩ : ByteArray) = bs [58] from rfl, bs_app, bs_app]; simp [nmZ]
  have sp2 := fun w => cspan_any (r : Int) (bs (nmK2 r t k n ++ [126])) 1 false true 48 0 1 0 w (by omega) (by omega)
  rw [hZ] at sp2
  have hlX : (bs (nmX r t)).size ≤ 60 := by rw [bs_size]; simp only [nmZ, nmK2, nmY, nmK, List.length_append, List.length_cons] at hzl; omega
  have hlY : (bs (nmY r t k n)).size ≤ 60 := by rw [bs_size]; simp only [nmZ, nmK2, List.length_append, List.length_cons] at hzl; omega
  have hlZ : (bs (nmZ r t k n)).size ≤ 60 := by rw [bs_size]; omega
  clear hX hK hY hK2 hC hZ hzl hlK hlK2 hlC hdr hr ht hn
  generalize bs (digN r) = cr at *
  generalize bs (nmK r t k) = ck at *
  generalize bs (nmK2 r t k n ++ [126]) = cz at *
  generalize bs (nmK2 r t k n) = cy at *
  generalize nmX r t = X at *
  generalize nmY r t k n = Y at *
  generalize nmZ r t k n = Z at *
  have Hp0 := Lib.hid p0
  have Hp1 := Lib.hid p1
  have Hp2 := Lib.hid p2
  have Hp3 := Lib.hid p3
  have Hmd := Lib.hid hmd
  have Hde := Lib.hid hde
  have Htr0 := Lib.hid tr0
  have Hki0 := Lib.hid ki0
  have Hsp0 := Lib.hid sp0
  have Htr1 := Lib.hid tr1
  have Hki1 := Lib.hid ki1
  have Hsp1 := Lib.hid sp1
  have Hco := Lib.hid co
  have Htr2 := Lib.hid tr2
  have Hsp2 := Lib.hid sp2
  have HlX := Lib.hid hlX
  have HlY := Lib.hid hlY
  have HlZ := Lib.hid hlZ
  clear p0 p1 p2 p3 hmd hde tr0 ki0 sp0 tr1 ki1 sp1 co tr2 sp2 hlX hlY hlZ
  go_enter Tryd.func3, Tryd.ntmps3
  go_wp2_with fail
  refine (Hp0.out _).mono ?_
  rintro e y ⟨rfl, rfl⟩
  go_wp2_with fail
  refine (Hde.out _).mono ?_
  rintro e y1 ⟨rfl, hg⟩
  have HF1 := Lib.hid hg
  clear hg e0
  go_wp2_with fail
  refine (Hp1.out _).mono ?_
  rintro e y ⟨rfl, rfl⟩
  go_wp2_with fail
  refine (Htr0.out _).mono ?_
  rintro e y2 ⟨rfl, hg⟩
  have HF2 := Lib.hid ((HF1.out.trans hg).alloc (.cells #[.int .i64 (r : Int), .string cr, .int .i64 (t : Int), .bool false, .bool false, .int .i64 50, .int .i64 4, .int .i64 1, .int .i64 0] 24))
  have HB10 := Lib.hid (Blk.made y2 #[.int .i64 (r : Int), .string cr, .int .i64 (t : Int), .bool false, .bool false, .int .i64 50, .int .i64 4, .int .i64 1, .int .i64 0] 24)
  clear hg e1
  go_upto_region 3 with (refine wpl_store_new _ (by rfl) 24 _ _ (by rfl) _ (by rfl) (by first | rfl | simp) _ _ _ (by rfl) (by exact info_ctx) (by rfl) (by kernel_rfl) ?_)
  generalize y2.alloc (.cells #[.int .i64 (r : Int), .string cr, .int .i64 (t : Int), .bool false, .bool false, .int .i64 50, .int .i64 4, .int .i64 1, .int .i64 0] 24) = W2 at *
  go_wp2_with fail
  refine (Hp2.out _).mono ?_
  rintro e y ⟨rfl, rfl⟩
  have bL := HB10.out
  go_upto_region 4 with fail
  go_wp2_with (refine wpl_load_blk (by rfl) 24 _ (by rfl) _ (by rfl) _ _ (by exact bL) _ Tryd.underlying24 (by rfl) (by exact info_ctx) ?_)
  refine (Hki0.out _).mono ?_
  rintro e y3 ⟨rfl, hg⟩
  clear bL
  have HG3 := Lib.hid (hg.alloc (.cells #[.int .i64 (r : Int), .string ck, .int .i64 0, .bool false, .bool false, .int .i64 49, .int .i64 1, .int .i64 1, .int .i64 0] 24))
  have HB12 := Lib.hid (Blk.made y3 #[.int .i64 (r : Int), .string ck, .int .i64 0, .bool false, .bool false, .int .i64 49, .int .i64 1, .int .i64 1, .int .i64 0] 24)
  clear hg
  go_upto_region 5 with (refine wpl_store_new _ (by rfl) 24 _ _ (by rfl) _ (by rfl) (by first | rfl | simp) _ _ _ (by rfl) (by exact info_ctx) (by rfl) (by kernel_rfl) ?_)
  generalize y3.alloc (.cells #[.int .i64 (r : Int), .string ck, .int .i64 0, .bool false, .bool false, .int .i64 49, .int .i64 1, .int .i64 1, .int .i64 0] 24) = W3 at *
  have HF3 := Lib.hid (HF2.out.trans HG3.out)
  have HB10 := Lib.hid (HB10.out.frm HG3.out (fun h => h))
  (try dsimp only [Act.put]); try simp only [Act.put, List.setIfInBounds_toArray, List.set_cons_zero, List.set_cons_succ]
  go_cut [13] (fun s wx => ∃ B : Nat, s = .pointer (some ⟨B, 0, none⟩) ∧ Blk wx B #[.int .i64 (r : Int), .string ck, .int .i64 (n : Int), .bool false, .bool false, .int .i64 49, .int .i64 0, .int .i64 1, .int .i64 0] 24 ∧ Frm noB W3 wx)
  case first =>
    have e4 : IntKind.i64.wrap (n : Int) = (n : Int) := IntWalk.i64_in _ (by omega)
    refine wp_region_noPanic ?_
    refine wp_region_held_drew (S := fun X => Blk X y3.heap.size #[.int .i64 (r : Int), .string ck, .int .i64 0, .bool false, .bool false, .int .i64 49, .int .i64 1, .int .i64 1, .int .i64 0] 24) (by kernel_rfl) ?_ (fun hHeld => ?_)
    · exact HB12.out.frm (Frm.refl noB _).drew (fun h => h)
    obtain ⟨u0, hu0⟩ : ∃ Wq, Wq = W3.drew := ⟨_, rfl⟩
    rw [← hu0] at hHeld ⊢
    have hgd : Frm noB W3 u0 := by rw [hu0]; exact (Frm.refl noB W3).drew
    have HT0 := Lib.hid (hgd)
    have hz0 := hgd.size
    clear hu0 hgd
    refine takeD (i := 0) (some 35) (v := .agg (List.toArray (#[.int .i64 (r : Int), .string ck, .int .i64 0, .bool false, .bool false, .int .i64 49, .int .i64 1, .int .i64 1, .int .i64 0] : Array Value).toList)) rfl rfl (by kernel_rfl) (by kernel_rfl) (by kernel_rfl) (fun _ _ _ h => h) (yieldsIf_load_mid (by kernel_rfl) 24 _ (by rfl) y3.heap.size 0 (by rfl) (#[.int .i64 (r : Int), .string ck, .int .i64 0, .bool false, .bool false, .int .i64 49, .int .i64 1, .int .i64 1, .int .i64 0] : Array Value).toList _ (fun w h => blk_range h) Tryd.underlying24 rfl (by exact info_ctx)) (by assumption) ?_
    (try dsimp only [Act.put]); try simp only [Act.put, List.setIfInBounds_toArray, List.set_cons_zero, List.set_cons_succ]
    refine takeD (i := 1) (some 36) (v := ?_) rfl rfl (by kernel_rfl) (by kernel_rfl) (by kernel_rfl) (fun _ _ _ h => h) (Or.inl ⟨by kernel_rfl, ?_⟩) (by assumption) ?_
    rotate_left
    · (intro w hSw; (try dsimp only at hSw); go_simp; try (with_reducible rfl))
    (try dsimp only [Act.put]); try simp only [Act.put, List.setIfInBounds_toArray, List.set_cons_zero, List.set_cons_succ]
    refine wpAnyH_ready (rs := [2, 5]) (by kernel_rfl) (by simp) ?_
    refine AllReadyH.cons rfl (fun K hK => ?_) ?_
    · go_simp
      refine (Hp3.out _).mono ?_
      rintro e yy ⟨rfl, hyy⟩
      subst hyy
      go_wp2_with fail
      refine hK.out _ _ ?_ (fun hHeld => ?_)
      · exact HB12.out.frm HT0.out (fun h => h)
      clear hK K
      (try dsimp only [Act.put]); try simp only [Act.put, List.setIfInBounds_toArray, List.set_cons_zero, List.set_cons_succ]
      refine takeD (i := 3) (some 38) (v := ?_) rfl rfl (by kernel_rfl) (by kernel_rfl) (by kernel_rfl) (fun _ _ _ h => h) (Or.inl ⟨by kernel_rfl, ?_⟩) (by assumption) ?_
      rotate_left
      · (intro w hSw; (try dsimp only at hSw); go_simp; try (with_reducible rfl))
      (try dsimp only [Act.put]); try simp only [Act.put, List.setIfInBounds_toArray, List.set_cons_zero, List.set_cons_succ]
      refine wpAnyH_ready (rs := [4, 5]) (by kernel_rfl) (by simp) ?_
      refine AllReadyH.cons rfl (fun K hK => ?_) ?_
      · go_simp
        refine (Htr1.out _).mono ?_
        rintro e u1 ⟨rfl, hg⟩
        have HT1 := Lib.hid (HT0.out.trans hg)
        have hz1 := hg.size
        clear hg
        go_wp2_with fail
        refine hK.out _ _ ?_ (fun hHeld => ?_)
        · exact HB12.out.frm HT1.out (fun h => h)
        clear hK K
        (try dsimp only [Act.put]); try simp only [Act.put, List.setIfInBounds_toArray, List.set_cons_zero, List.set_cons_succ]
        refine wpAnyH_ready (rs := [5]) (by kernel_rfl) (by simp) ?_
        refine AllReadyH.cons rfl (fun K hK => ?_) ?_
        · go_simp
          generalize hw : World.alloc u1 _ = u2
          have hg : Frm noB u1 u2 := by rw [← hw]; exact (Frm.refl noB u1).alloc _
          have HT2 := Lib.hid (HT1.out.trans hg)
          have hz2 := hg.size
          have rN_2 := Lib.hid (show Blk u2 u1.heap.size #[.int .i64 0, .string ⟨#[]⟩, .int .i64 0, .bool false, .bool false, .int .i64 0, .int .i64 0, .int .i64 0, .int .i64 0] 24 by rw [← hw]; exact Blk.made u1 _ _)
          have hl2 : u1.heap.size < u2.heap.size := by rw [← hw]; simp
          clear hg hw
          refine hK.out _ _ ?_ (fun hHeld => ?_)
          · exact HB12.out.frm HT2.out (fun h => h)
          clear hK K
          (try dsimp only [Act.put]); try simp only [Act.put, List.setIfInBounds_toArray, List.set_cons_zero, List.set_cons_succ]
          refine wpAnyH_ready (rs := [6]) (by kernel_rfl) (by simp) ?_
          refine AllReadyH.cons rfl (fun K hK => ?_) ?_
          · rw [if_pos (by rfl)]
            refine wp_store_blk 24 _ _ (by rfl) _ (by rfl) _ _ rN_2.out #[.int .i64 (r : Int), .string ck, .int .i64 (n : Int), .bool false, .bool false, .int .i64 49, .int .i64 0, .int .i64 1, .int .i64 0] (by rfl) (by exact info_ctx) (by rfl) (by kernel_rfl) (fun u3 hs hg => ?_)
            have HT3 := Lib.hid (show Frm noB W3 u3 from HT2.out.new hg (fun i hi e => by have e2 := (show _ = _ from e); omega))
            have rN_3 := Lib.hid hs
            clear hs hg
            refine hK.out _ _ ?_ (fun hHeld => ?_)
            · exact HB12.out.frm HT3.out (fun h => h)
            clear hK K
            (try dsimp only [Act.put]); try simp only [Act.put, List.setIfInBounds_toArray, List.set_cons_zero, List.set_cons_succ]
            refine wpAnyH_done (by kernel_rfl) ?_ _
            refine NoPanic.normal ?_
            go_wp2_with fail
            go_meet
            exact ⟨_, rfl, rN_3.out, HT3.out⟩
          exact AllReadyH.nil
        exact AllReadyH.nil
      refine AllReadyH.cons rfl (fun K hK => ?_) ?_
      · go_simp
        generalize hw : World.alloc u0 _ = u1
        have hg : Frm noB u0 u1 := by rw [← hw]; exact (Frm.refl noB u0).alloc _
        have HT1 := Lib.hid (HT0.out.trans hg)
        have hz1 := hg.size
        have rN_1 := Lib.hid (show Blk u1 u0.heap.size #[.int .i64 0, .string ⟨#[]⟩, .int .i64 0, .bool false, .bool false, .int .i64 0, .int .i64 0, .int .i64 0, .int .i64 0] 24 by rw [← hw]; exact Blk.made u0 _ _)
        have hl1 : u0.heap.size < u1.heap.size := by rw [← hw]; simp
        clear hg hw
        refine hK.out _ _ ?_ (fun hHeld => ?_)
        · exact HB12.out.frm HT1.out (fun h => h)
        clear hK K
        (try dsimp only [Act.put]); try simp only [Act.put, List.setIfInBounds_toArray, List.set_cons_zero, List.set_cons_succ]
        refine wpAnyH_ready (rs := [4]) (by kernel_rfl) (by simp) ?_
        refine AllReadyH.cons rfl (fun K hK => ?_) ?_
        · go_simp
          refine (Htr1.out _).mono ?_
          rintro e u2 ⟨rfl, hg⟩
          have HT2 := Lib.hid (HT1.out.trans hg)
          have rN_2 := Lib.hid (rN_1.out.frm hg (fun h => h))
          have hz2 := hg.size
          clear hg
          go_wp2_with fail
          refine hK.out _ _ ?_ (fun hHeld => ?_)
          · exact HB12.out.frm HT2.out (fun h => h)
          clear hK K
          (try dsimp only [Act.put]); try simp only [Act.put, List.setIfInBounds_toArray, List.set_cons_zero, List.set_cons_succ]
          refine wpAnyH_ready (rs := [6]) (by kernel_rfl) (by simp) ?_
          refine AllReadyH.cons rfl (fun K hK => ?_) ?_
          · rw [if_pos (by rfl)]
            refine wp_store_blk 24 _ _ (by rfl) _ (by rfl) _ _ rN_2.out #[.int .i64 (r : Int), .string ck, .int .i64 (n : Int), .bool false, .bool false, .int .i64 49, .int .i64 0, .int .i64 1, .int .i64 0] (by rfl) (by exact info_ctx) (by rfl) (by kernel_rfl) (fun u3 hs hg => ?_)
            have HT3 := Lib.hid (show Frm noB W3 u3 from HT2.out.new hg (fun i hi e => by have e2 := (show _ = _ from e); omega))
            have rN_3 := Lib.hid hs
            clear hs hg
            refine hK.out _ _ ?_ (fun hHeld => ?_)
            · exact HB12.out.frm HT3.out (fun h => h)
            clear hK K
            (try dsimp only [Act.put]); try simp only [Act.put, List.setIfInBounds_toArray, List.set_cons_zero, List.set_cons_succ]
            refine wpAnyH_done (by kernel_rfl) ?_ _
            refine NoPanic.normal ?_
            go_wp2_with fail
            go_meet
            exact ⟨_, rfl, rN_3.out, HT3.out⟩
          exact AllReadyH.nil
        exact AllReadyH.nil
      exact AllReadyH.nil
    refine AllReadyH.cons rfl (fun K hK => ?_) ?_
    · go_simp
      generalize hw : World.alloc u0 _ = u1
      have hg : Frm noB u0 u1 := by rw [← hw]; exact (Frm.refl noB u0).alloc _
      have HT1 := Lib.hid (HT0.out.trans hg)
      have hz1 := hg.size
      have rN_1 := Lib.hid (show Blk u1 u0.heap.size #[.int .i64 0, .string ⟨#[]⟩, .int .i64 0, .bool false, .bool false, .int .i64 0, .int .i64 0, .int .i64 0, .int .i64 0] 24 by rw [← hw]; exact Blk.made u0 _ _)
      have hl1 : u0.heap.size < u1.heap.size := by rw [← hw]; simp
      clear hg hw
      refine hK.out _ _ ?_ (fun hHeld => ?_)
      · exact HB12.out.frm HT1.out (fun h => h)
      clear hK K
      (try dsimp only [Act.put]); try simp only [Act.put, List.setIfInBounds_toArray, List.set_cons_zero, List.set_cons_succ]
      refine wpAnyH_ready (rs := [2]) (by kernel_rfl) (by simp) ?_
      refine AllReadyH.cons rfl (fun K hK => ?_) ?_
      · go_simp
        refine (Hp3.out _).mono ?_
        rintro e yy ⟨rfl, hyy⟩
        subst hyy
        go_wp2_with fail
        refine hK.out _ _ ?_ (fun hHeld => ?_)
        · exact HB12.out.frm HT1.out (fun h => h)
        clear hK K
        (try dsimp only [Act.put]); try simp only [Act.put, List.setIfInBounds_toArray, List.set_cons_zero, List.set_cons_succ]
        refine takeD (i := 3) (some 38) (v := ?_) rfl rfl (by kernel_rfl) (by kernel_rfl) (by kernel_rfl) (fun _ _ _ h => h) (Or.inl ⟨by kernel_rfl, ?_⟩) (by assumption) ?_
        rotate_left
        · (intro w hSw; (try dsimp only at hSw); go_simp; try (with_reducible rfl))
        (try dsimp only [Act.put]); try simp only [Act.put, List.setIfInBounds_toArray, List.set_cons_zero, List.set_cons_succ]
        refine wpAnyH_ready (rs := [4]) (by kernel_rfl) (by simp) ?_
        refine AllReadyH.cons rfl (fun K hK => ?_) ?_
        · go_simp
          refine (Htr1.out _).mono ?_
          rintro e u2 ⟨rfl, hg⟩
          have HT2 := Lib.hid (HT1.out.trans hg)
          have rN_2 := Lib.hid (rN_1.out.frm hg (fun h => h))
          have hz2 := hg.size
          clear hg
          go_wp2_with fail
          refine hK.out _ _ ?_ (fun hHeld => ?_)
          · exact HB12.out.frm HT2.out (fun h => h)
          clear hK K
          (try dsimp only [Act.put]); try simp only [Act.put, List.setIfInBounds_toArray, List.set_cons_zero, List.set_cons_succ]
          refine wpAnyH_ready (rs := [6]) (by kernel_rfl) (by simp) ?_
          refine AllReadyH.cons rfl (fun K hK => ?_) ?_
          · rw [if_pos (by rfl)]
            refine wp_store_blk 24 _ _ (by rfl) _ (by rfl) _ _ rN_2.out #[.int .i64 (r : Int), .string ck, .int .i64 (n : Int), .bool false, .bool false, .int .i64 49, .int .i64 0, .int .i64 1, .int .i64 0] (by rfl) (by exact info_ctx) (by rfl) (by kernel_rfl) (fun u3 hs hg => ?_)
            have HT3 := Lib.hid (show Frm noB W3 u3 from HT2.out.new hg (fun i hi e => by have e2 := (show _ = _ from e); omega))
            have rN_3 := Lib.hid hs
            clear hs hg
            refine hK.out _ _ ?_ (fun hHeld => ?_)
            · exact HB12.out.frm HT3.out (fun h => h)
            clear hK K
            (try dsimp only [Act.put]); try simp only [Act.put, List.setIfInBounds_toArray, List.set_cons_zero, List.set_cons_succ]
            refine wpAnyH_done (by kernel_rfl) ?_ _
            refine NoPanic.normal ?_
            go_wp2_with fail
            go_meet
            exact ⟨_, rfl, rN_3.out, HT3.out⟩
          exact AllReadyH.nil
        exact AllReadyH.nil
      exact AllReadyH.nil
    exact AllReadyH.nil
  case rest =>
    obtain ⟨B, rfl, hB, hg⟩ := hcut
    have HB13 := Lib.hid hB
    have HF4 := Lib.hid (HF3.out.trans hg)
    have HB10 := Lib.hid (HB10.out.frm hg (fun h => h))
    clear hB hg e3
    have bL := HB13.out
    go_wp2_with (refine wpl_load_blk (by rfl) 24 _ (by rfl) _ (by rfl) _ _ (by exact bL) _ Tryd.underlying24 (by rfl) (by exact info_ctx) ?_)
    refine (Hki1.out _).mono ?_
    rintro e y4 ⟨rfl, hg4⟩
    clear bL
    go_wp2_with fail
    refine (Hco.out _).mono ?_
    rintro e y5 ⟨rfl, hg5⟩
    go_wp2_with fail
    refine (Htr2.out _).mono ?_
    rintro e y6 ⟨rfl, hg6⟩
    have HG6 := Lib.hid (((hg4.trans hg5).trans hg6).alloc (.cells #[.int .i64 (r : Int), .string cz, .int .i64 1, .bool false, .bool true, .int .i64 48, .int .i64 0, .int .i64 1, .int .i64 0] 24))
    have HB14 := Lib.hid (Blk.made y6 #[.int .i64 (r : Int), .string cz, .int .i64 1, .bool false, .bool true, .int .i64 48, .int .i64 0, .int .i64 1, .int .i64 0] 24)
    clear hg4 hg5 hg6
    go_upto_region 7 with (refine wpl_store_new _ (by rfl) 24 _ _ (by rfl) _ (by rfl) (by first | rfl | simp) _ _ _ (by rfl) (by exact info_ctx) (by rfl) (by kernel_rfl) ?_)
    generalize y6.alloc (.cells #[.int .i64 (r : Int), .string cz, .int .i64 1, .bool false, .bool true, .int .i64 48, .int .i64 0, .int .i64 1, .int .i64 0] 24) = W6 at *
    have HF6 := Lib.hid (HF4.out.trans HG6.out)
    have HB10 := Lib.hid (HB10.out.frm HG6.out (fun h => h))
    have HB13 := Lib.hid (HB13.out.frm HG6.out (fun h => h))
    have bL := HB10.out
    go_wp2_with (refine wpl_load_blk (by rfl) 24 _ (by rfl) _ (by rfl) _ _ (by exact bL) _ Tryd.underlying24 (by rfl) (by exact info_ctx) ?_)
    refine (Hsp0.out _).mono ?_
    rintro e z0 ⟨rfl, hg⟩
    clear bL
    have HZ0 := Lib.hid (HF6.out.trans hg)
    have HB13 := Lib.hid (HB13.out.frm hg (fun h => h))
    have HB14 := Lib.hid (HB14.out.frm hg (fun h => h))
    clear hg
    have bL := HB13.out
    go_wp2_with (refine wpl_load_blk (by rfl) 24 _ (by rfl) _ (by rfl) _ _ (by exact bL) _ Tryd.underlying24 (by rfl) (by exact info_ctx) ?_)
    refine (Hsp1.out _).mono ?_
    rintro e z1 ⟨rfl, hg⟩
    clear bL
    have HZ1 := Lib.hid (HZ0.out.trans hg)
    have HB13 := Lib.hid (HB13.out.frm hg (fun h => h))
    have HB14 := Lib.hid (HB14.out.frm hg (fun h => h))
    clear hg
    have bL := HB14.out
    go_wp2_with (refine wpl_load_blk (by rfl) 24 _ (by rfl) _ (by rfl) _ _ (by exact bL) _ Tryd.underlying24 (by rfl) (by exact info_ctx) ?_)
    refine (Hsp2.out _).mono ?_
    rintro e z2 ⟨rfl, hg⟩
    clear bL
    have HZ2 := Lib.hid (HZ1.out.trans hg)
    have HB13 := Lib.hid (HB13.out.frm hg (fun h => h))
    have HB14 := Lib.hid (HB14.out.frm hg (fun h => h))
    clear hg
    clear HB10 HB13 HB14
    obtain ⟨hX0, hZ0, hY0, hY5⟩ := Hmd.out.log
    obtain ⟨f1, f2, f3, f4⟩ := Hmd.out.bef
    have hLB := Blk.made z2 (logCells none none) 33
    have hFL := HZ2.out.alloc (.cells (logCells none none) 33)
    have hL0 : LogIs (z2.alloc (.cells (logCells none none) 33)) z2.heap.size [] (oneB z2.heap.size) := .inl ⟨rfl, hLB, rfl, fun k hk => by have e2 := (show _ = _ from hk); subst e2; exact hLB.lt⟩
    have hO0 : ∀ k, oneB z2.heap.size k → w.heap.size ≤ k := fun k hk => by have e2 := (show _ = _ from hk); have := HZ2.out.size; omega
    simp only [logCells] at hFL hL0
    have HBf := Lib.hid (And.intro f1 (And.intro f2 (And.intro f3 f4)))
    have HX0 := Lib.hid hX0
    have HZ0 := Lib.hid hZ0
    have HY0 := Lib.hid hY0
    have HY5 := Lib.hid hY5
    have HLB := Lib.hid hLB
    have HFL := Lib.hid hFL
    have HL0 := Lib.hid hL0
    have HO0 := Lib.hid hO0
    clear hX0 hZ0 hY0 hY5 hLB hFL hL0 hO0
    clear f1 f2 f3 f4
    go_upto_region 11 with fail
    generalize z2.alloc (.cells #[.map none, .map none] 33) = V0 at *
    go_wp2_with fail
    refine (note_any z2.heap.size (spO X) [] (oneB z2.heap.size) _ HL0.out (by simp) (by have := HlX.out; show (bs X).size ≤ 1000000; omega)).mono ?_
    rintro e V1 ⟨O1, rfl, hL, hg, hO⟩
    rw [HX0.out.1]
    rw [HX0.out.2] at hL
    have HO1 := Lib.hid (show ∀ k, O1 k → w.heap.size ≤ k from fun k hk => by
      rcases hO k hk with h1 | h1
      · exact HO0.out k h1
      · have := HFL.out.size; omega)
    have HFL1 := Lib.hid (HFL.out.new hg (fun i hi e => by have := HO0.out i e; omega))
    have HL1 := Lib.hid hL
    clear hL hg hO
    go_wp2_with fail
    refine (note_any z2.heap.size (spO Z) [spO X] O1 _ HL1.out (by simp) (by have := HlZ.out; show (bs Z).size ≤ 1000000; omega)).mono ?_
    rintro e V2 ⟨O2, rfl, hL, hg, hO⟩
    rw [HZ0.out.1]
    rw [HZ0.out.2] at hL
    have HO2 := Lib.hid (show ∀ k, O2 k → w.heap.size ≤ k from fun k hk => by
      rcases hO k hk with h1 | h1
      · exact HO1.out k h1
      · have := HFL1.out.size; omega)
    have HFL2 := Lib.hid (HFL1.out.new hg (fun i hi e => by have := HO1.out i e; omega))
    have HL2 := Lib.hid hL
    clear hL hg hO
    go_wp2_with fail
    refine (note_any z2.heap.size (spO Y) [spO X, spO Z] O2 _ HL2.out (by simp) (by have := HlY.out; show (bs Y).size ≤ 1000000; omega)).mono ?_
    rintro e V3 ⟨O3, rfl, hL, hg, hO⟩
    rw [HY0.out.1]
    rw [HY0.out.2] at hL
    have HO3 := Lib.hid (show ∀ k, O3 k → w.heap.size ≤ k from fun k hk => by
      rcases hO k hk with h1 | h1
      · exact HO2.out k h1
      · have := HFL2.out.size; omega)
    have HFL3 := Lib.hid (HFL2.out.new hg (fun i hi e => by have := HO2.out i e; omega))
    have HL3 := Lib.hid hL
    clear hL hg hO
    go_wp2_with fail
    refine (note_any z2.heap.size (spO Y) [spO X, spO Z, spO Y] O3 _ HL3.out (by simp) (by have := HlY.out; show (bs Y).size ≤ 1000000; omega)).mono ?_
    rintro e V4 ⟨O4, rfl, hL, hg, hO⟩
    rw [HY5.out.1]
    rw [HY5.out.2] at hL
    have HO4 := Lib.hid (show ∀ k, O4 k → w.heap.size ≤ k from fun k hk => by
      rcases hO k hk with h1 | h1
      · exact HO3.out k h1
      · have := HFL3.out.size; omega)
    have HFL4 := Lib.hid (HFL3.out.new hg (fun i hi e => by have := HO3.out i e; omega))
    have HL4 := Lib.hid hL
    clear hL hg hO
    go_upto_region 13 with fail
    go_wp2_with fail
    refine (before_any (bs X) (bs Y) _ (by have := HlY.out; omega)).mono ?_
    rintro e U0 ⟨rfl, hg⟩
    rw [bs_list, bs_list, HBf.out.1]
    have HU0 := Lib.hid (HFL4.out.trans hg)
    have HL5 := Lib.hid (HL4.out.frm hg (fun _ _ h => h))
    clear hg
    go_wp2_with fail
    refine (before_any (bs Y) (bs Z) _ (by have := HlZ.out; omega)).mono ?_
    rintro e U1 ⟨rfl, hg⟩
    rw [bs_list, bs_list, HBf.out.2.1]
    have HU1 := Lib.hid (HU0.out.trans hg)
    have HL6 := Lib.hid (HL5.out.frm hg (fun _ _ h => h))
    clear hg
    go_wp2_with fail
    refine (before_any (bs X) (bs Z) _ (by have := HlZ.out; omega)).mono ?_
    rintro e U2 ⟨rfl, hg⟩
    rw [bs_list, bs_list, HBf.out.2.2.1]
    have HU2 := Lib.hid (HU1.out.trans hg)
    have HL7 := Lib.hid (HL6.out.frm hg (fun _ _ h => h))
    clear hg
    go_wp2_with fail
    refine (before_any (bs Y) (bs X) _ (by have := HlX.out; omega)).mono ?_
    rintro e U3 ⟨rfl, hg⟩
    rw [bs_list, bs_list, HBf.out.2.2.2]
    have HU3 := Lib.hid (HU2.out.trans hg)
    have HL8 := Lib.hid (HL7.out.frm hg (fun _ _ h => h))
    clear hg
    have hrq : reqL (bs Z).data.toList = (r : Int) := by rw [bs_list]; exact reqL_of Hmd.out.z
    have hreq := fun w => req_any (bs Z) w (by have := HlZ.out; omega)
    rw [hrq] at hreq
    have hwr : (Lit.int .i64 (r : Int)).wf = true := by simp [Lit.wf, IntKind.min, IntKind.max, IntKind.signed, IntKind.bits]; omega
    have hown := Hmd.out.own
    have hfor := Hmd.out.forest
    have t9 : ((r : Int) == (r : Int)) = true := by simp
    have Hrq := Lib.hid hrq
    have Hreq := Lib.hid hreq
    have Hwr := Lib.hid hwr
    have Hown := Lib.hid hown
    have Hfor := Lib.hid hfor
    clear hrq hreq hwr hown hfor
    go_wp2_with fail
    refine (Hreq.out _).mono ?_
    rintro e y ⟨rfl, hyy⟩
    subst hyy
    go_wp2_with fail
    refine (spans_any z2.heap.size [spO X, spO Z, spO Y] O4 (r : Int) _ HL8.out (by simp) Hwr.out).mono ?_
    rintro e U4 ⟨v, rfl, ho, hg⟩
    rw [Hown.out] at ho
    obtain ⟨va, vc, rfl, hrd⟩ := ho.rd
    have HU4 := Lib.hid (HU3.out.trans hg)
    have HL9 := Lib.hid (HL8.out.frm hg (fun _ _ h => h))
    have hfa := fun w h => forest_any va [spO X, spO Z, spO Y].length vc [spO X, spO Z, spO Y] w h (show [spO X, spO Z, spO Y].length ≤ 1000 by simp) (fun s hs => by
      simp at hs
      rcases hs with rfl | rfl | rfl
      · have := HlX.out; show (bs X).size ≤ _; omega
      · have := HlZ.out; show (bs Z).size ≤ _; omega
      · have := HlY.out; show (bs Y).size ≤ _; omega)
    rw [Hfor.out] at hfa
    have Ho := Lib.hid ho
    have Hrd := Lib.hid hrd
    have Hfa := Lib.hid hfa
    clear ho hrd hfa
    clear hg
    go_wp2_with fail
    refine (Hfa.out _ Hrd.out).mono ?_
    rintro e U5 ⟨rfl, hg⟩
    have HU5 := Lib.hid (HU4.out.trans hg)
    have HL10 := Lib.hid (HL9.out.frm hg (fun _ _ h => h))
    clear hg
    go_wp2_with fail
    refine (spans_any z2.heap.size [spO X, spO Z, spO Y] O4 (r : Int) _ HL10.out (by simp) Hwr.out).mono ?_
    rintro e U6 ⟨v2, rfl, ho2, hg⟩
    rw [Hown.out] at ho2
    obtain ⟨vb, vd, rfl, _⟩ := ho2.rd
    have HU6 := Lib.hid (HU5.out.trans hg)
    have h3 : [spO X, spO Z, spO Y].length = 3 := rfl
    rw [h3]
    have Ho2 := Lib.hid ho2
    have H3 := Lib.hid h3
    clear ho2 h3
    clear hg
    go_wp2_with fail
    refine (lives_any _).mono ?_
    rintro e U7 ⟨rfl, hg⟩
    have HU7 := Lib.hid (HU6.out.trans hg)
    clear hg
    go_wp2_with fail
    go_ret
    exact ⟨rfl, HU7.out.below (Nat.le_refl _) (fun _ _ h => h)⟩
end Go.Proofs.YtnmcdecdgcnmbaaDoor
