/- Print of the reference. -/
import Derived.Test.YtpgcfeplcibhoaaDoorColPrP
import Derived.Test.YtpgcfeplcibhoaaDoorDecimal
import Derived.Test.YtpgcfeplcibhoaaDoorStoreNew
import Derived.Deep.RegionLaw
import Derived.Deep.RegionHeld3
import Derived.Deep.DeepCutAuto
import Derived.StillTailTactics
import Derived.RegionTactic
set_option linter.unusedVariables false
set_option linter.unusedSimpArgs false
namespace Go.Proofs.YtpgcfeplcibhoaaDoor
open Go.RowKit

theorem bsapp1 (l : List UInt8) (c : List UInt8) : bs l ++ (⟨c.toArray⟩ : ByteArray) = bs (l ++ c) := bs_app l c
theorem info_sp6b : (Tryd.prog.info? 30).map (·.size) = some 6 := by kernel_rfl
theorem line_cat (O : ByteArray) (x0 : ByteArray) (D1 D2 D3 : List UInt8) : ((((((((O ++ (⟨#[32]⟩ : ByteArray)) ++ bs D1) ++ (⟨#[32]⟩ : ByteArray)) ++ bs D2) ++ (⟨#[45]⟩ : ByteArray)) ++ bs D3))) = bs (O.data.toList ++ 32 :: (D1 ++ 32 :: (D2 ++ 45 :: D3))) := by
  apply ByteArray.ext; apply Array.ext'
  simp [ByteArray.data_append, bs]
set_option maxRecDepth 100000 in
set_option maxHeartbeats 4000000 in
theorem rprint_any (base : Nat) (v : Value) (l : List Nod) (w : World) (h : Own nodE w base 37 v l) (hl : l.length ≤ 1000) (hG : ∀ x ∈ l, GoodN x) :
    Calls Tryd.prog 19 #[v] w fun e w' => e = .returned (.string (bs (prN l))) ∧ Frm noB w w' := by
  obtain ⟨n, hn⟩ : ∃ n, n = l.length := ⟨_, rfl⟩
  obtain ⟨a, c, hv, _, hg⟩ := h.shape
  rw [← hn] at hv hg hl
  subst hv
  have Hn := Lib.hid hn
  have Hg := Lib.hid hg
  have Hh := Lib.hid h
  have HG := Lib.hid hG
  clear hn hg h hG
  go_enter Tryd.func19, Tryd.ntmps19
  go_wp2_with fail
  go_loopw [3, 4] (fun o i wr => ∃ (k : Nat) (O : ByteArray), k ≤ n ∧ i = .int .i64 k ∧ o = .string O ∧ O = bs (prN (l.take k)) ∧ Frm noB w wr) (fun _ i _ => n - (intOf i).toNat)
  case atStart => exact ⟨0, ⟨#[]⟩, by omega, rfl, rfl, rfl, Frm.refl _ _⟩
  case round =>
    obtain ⟨k, O, hk, rfl, rfl, hO, hf⟩ := hrel
    by_cases hlt : k < n
    · obtain ⟨x, hx⟩ := get_of_lt (l := l) (j := k) (by rw [← Hn.out]; exact hlt)
      obtain ⟨g, rfl, hg1, hg2⟩ := Hg.out (by omega)
      have hgx := HG.out x (List.mem_of_getElem? hx)
      have hOl : O.size ≤ 60000 := by
        rw [hO, bs_size]
        have := prN_len (l.take k) (fun y hy => HG.out y (List.mem_of_mem_take hy))
        rw [List.length_take] at this
        omega
      have hsn := prN_snoc hx
      have hxn := hgx.nm
      have c0 := (nod_cells (Hh.out.keep hf) hx).1
      have hgw : g < wr.heap.size := Nat.lt_of_lt_of_le hg2 hf.size
      obtain ⟨d, hd⟩ : ∃ d, d = depL x.name.data.toList := ⟨_, rfl⟩
      have hdl : d ≤ 16 := by
        have := depL_le x.name.data.toList
        rw [ba_len] at this; omega
      have hdep := fun W => rdepth_any x.name W (by omega)
      rw [← hd] at hdep
      have Hf := Lib.hid hf
      have Hx := Lib.hid hx
      have HO := Lib.hid hO
      have Hgx := Lib.hid hgx
      have Hsn := Lib.hid hsn
      have Hd := Lib.hid hd
      have Hdep := Lib.hid hdep
      clear hf hx hO hgx hsn hd hdep
      go_upto_region 6 with (go_at_call 42; refine (Hdep.out _).mono ?_; rintro e w' ⟨rfl, rfl⟩)
      clear c0
      go_wp2_with fail
      go_loop [3, 6] (fun o i => ∃ (j : Nat) (P : ByteArray), j ≤ d ∧ i = .int .i64 j ∧ o = .string P ∧ P = O ++ bs (List.replicate j 32) ∧ P.size ≤ 60000 + j) (fun _ i => d - (intOf i).toNat)
      case atStart => exact ⟨0, O, by omega, rfl, rfl, by apply ByteArray.ext; apply Array.ext'; simp [bs], by omega⟩
      case round =>
        obtain ⟨j, P, hj, rfl, rfl, hP, hPl⟩ := hrel
        by_cases hjd : j < d
        · have hP2 : P ++ (⟨#[32]⟩ : ByteArray) = O ++ bs (List.replicate (j + 1) 32) := by
            rw [hP]
            apply ByteArray.ext; apply Array.ext'
            simp [ByteArray.data_append, bs, List.replicate_succ']
          have hP3 : (P ++ (⟨#[32]⟩ : ByteArray)).size ≤ 60000 + (j + 1) := by rw [ByteArray.size_append]; show P.size + 1 ≤ _; omega
          have HP := Lib.hid hP
          have HP2 := Lib.hid hP2
          have HP3 := Lib.hid hP3
          clear hP hP2 hP3
          go_wp2_with fail
          go_round
          case rel => exact ⟨j + 1, _, by omega, by go_num, rfl, HP2.out, HP3.out⟩
          case measure => simp [intOf]; omega
        · obtain rfl : j = d := by omega
          obtain ⟨c0, c1, c2, c3, c4, c5, c6, c7⟩ := nod_cells (Hh.out.keep Hf.out) Hx.out
          have hgw : g < wr.heap.size := Nat.lt_of_lt_of_le hg2 Hf.out.size
          have hO2l : (P ++ x.name).size ≤ 70000 := by rw [ByteArray.size_append]; omega
          have hO2 : (P ++ x.name).data.toList = prN (l.take k) ++ (spcB x ++ x.name.data.toList) := by
            rw [hP, HO.out]
            unfold spcB
            rw [← Hd.out]
            simp [ByteArray.data_append, bs]
          have hPs : P.size + x.name.size ≤ 9223372036854775807 := by omega
          cases hm : x.miss
          case true =>
            rw [hm] at c1
            have hnx : (P ++ x.name) ++ (⟨#[32, 63, 10]⟩ : ByteArray) = bs (prN (l.take (k + 1))) := by
              rw [Hsn.out]
              unfold lineB tailB
              rw [hm, if_pos rfl]
              apply ByteArray.ext; apply Array.ext'
              rw [ByteArray.data_append, Array.toList_append, hO2]
              simp [bs]
            obtain ⟨O2, hOO⟩ : ∃ O2, O2 = P ++ x.name := ⟨_, rfl⟩
            rw [← hOO] at hnx hO2l
            clear c2 c3 c4 c5 c6 c7
            have HP := Lib.hid hP
            have HPl := Lib.hid hPl
            have HO2 := Lib.hid hO2
            have Hm := Lib.hid hm
            have Hnx := Lib.hid hnx
            have HOO := Lib.hid hOO
            have Hj := Lib.hid hj
            clear hP hPl hO2 hm hnx hOO hj
            go_upto_region 11 with fail
            rw [← HOO.out]
            go_wp2_with fail
            go_roundw
            case rel => exact ⟨k + 1, _, by omega, by go_num, rfl, Hnx.out, Hf.out⟩
            case measure => simp [intOf]; omega
          case false =>
            obtain ⟨x0, x1, ⟨x2, x3, x4, x5, x6, x7⟩⟩ := x
            simp only at hm
            subst hm
            simp only at c0 c1 c2 c3 c4 c5 c6 c7 hxn hPs
            obtain ⟨⟨s0, s1⟩, ⟨e0, e1⟩, ⟨t0, t1⟩⟩ : (0 ≤ x3 ∧ x3 ≤ 99) ∧ (0 ≤ x4 ∧ x4 ≤ 99) ∧ (0 ≤ x5 ∧ x5 ≤ 99) := ⟨Hgx.out.serv, Hgx.out.frm, Hgx.out.til⟩
            have hd1 := fun W => decimal_any x3 W (by omega) (by omega)
            have hd2 := fun W => decimal_any x4 W (by omega) (by omega)
            have hd3 := fun W => decimal_any x5 W (by omega) (by omega)
            unfold DecIs at hd1 hd2 hd3
            have z1 := dec99 s0 s1
            have z2 := dec99 e0 e1
            have z3 := dec99 t0 t1
            rw [← bs_size] at z1 z2 z3
            obtain ⟨O2, hOO⟩ : ∃ O2, O2 = P ++ x0 := ⟨_, rfl⟩
            have hcat := line_cat O2 x0 (decL x3) (decL x4) (decL x5)
            obtain ⟨D1, hD1⟩ : ∃ D, D = bs (decL x3) := ⟨_, rfl⟩
            obtain ⟨D2, hD2⟩ : ∃ D, D = bs (decL x4) := ⟨_, rfl⟩
            obtain ⟨D3, hD3⟩ : ∃ D, D = bs (decL x5) := ⟨_, rfl⟩
            rw [← hD1, ← hD2, ← hD3] at hcat
            rw [← hD1] at z1 hd1
            rw [← hD2] at z2 hd2
            rw [← hD3] at z3 hd3
            simp only at hO2l hO2
            rw [← hOO] at hO2 hO2l
            have hnx : ∀ Z, Z = ((((((O2 ++ (⟨#[32]⟩ : ByteArray)) ++ D1) ++ (⟨#[32]⟩ : ByteArray)) ++ D2) ++ (⟨#[45]⟩ : ByteArray)) ++ D3) → (x6 = true → Z ++ (⟨#[10]⟩ : ByteArray) = bs (prN (l.take (k + 1)))) ∧ (x6 = false → (Z ++ (⟨#[32, 33]⟩ : ByteArray)) ++ (⟨#[10]⟩ : ByteArray) = bs (prN (l.take (k + 1)))) ∧ Z.size ≤ 80000 := by
              intro Z hZ
              rw [hcat] at hZ
              have hZs : Z.size ≤ 80000 := by
                rw [hZ, bs_size]
                rw [hD1, bs_size] at z1
                rw [hD2, bs_size] at z2
                rw [hD3, bs_size] at z3
                simp only [List.length_append, List.length_cons, ba_len]; omega
              refine ⟨fun h6 => ?_, fun h6 => ?_, hZs⟩
              · rw [Hsn.out]
                unfold lineB tailB
                rw [if_neg (by simp), hZ, hO2]
                simp only [h6, if_true]
                apply ByteArray.ext; apply Array.ext'
                simp [ByteArray.data_append, bs]
              · rw [Hsn.out]
                unfold lineB tailB
                rw [if_neg (by simp), hZ, hO2]
                simp only [h6]
                apply ByteArray.ext; apply Array.ext'
                simp [ByteArray.data_append, bs]
            have HP := Lib.hid hP
            have HPl := Lib.hid hPl
            have HO2 := Lib.hid hO2
            have HOO := Lib.hid hOO
            have Hj := Lib.hid hj
            have Hcat := Lib.hid hcat
            have HD1 := Lib.hid hD1
            have HD2 := Lib.hid hD2
            have HD3 := Lib.hid hD3
            have Hnx := Lib.hid hnx
            have Hd1 := Lib.hid hd1
            have Hd2 := Lib.hid hd2
            have Hd3 := Lib.hid hd3
            clear hP hPl hO2 hOO hj hcat hD1 hD2 hD3 hnx hd1 hd2 hd3
            go_upto_region 11 with fail
            rw [← HOO.out]
            go_upto_region 14 with (refine wpl_store_new _ (by rfl) 30 _ _ (by rfl) _ (by rfl) (by first | rfl | simp) _ _ _ (by rfl) (by exact info_sp6b) (by rfl) (by kernel_rfl) ?_)
            have hbx := Blk.made wr #[.string x2, .int .i64 x3, .int .i64 x4, .int .i64 x5, .bool x6, .int .i64 x7] 30
            have hfb : Frm noB w (wr.alloc (.cells #[.string x2, .int .i64 x3, .int .i64 x4, .int .i64 x5, .bool x6, .int .i64 x7] 30)) := Hf.out.alloc _
            obtain ⟨B, hB⟩ : ∃ B, B = wr.heap.size := ⟨_, rfl⟩
            rw [← hB] at hbx ⊢
            obtain ⟨wb, hwb⟩ : ∃ W : World, W = wr.alloc (.cells #[.string x2, .int .i64 x3, .int .i64 x4, .int .i64 x5, .bool x6, .int .i64 x7] 30) := ⟨_, rfl⟩
            rw [← hwb] at hbx hfb ⊢
            clear c0 c1 c2 c3 c4 c5 c6 c7 hgw
            (try dsimp only [Act.put])
            have fr0 := Frm.drew (Frm.refl noB wb)
            have g1 := cell_frm fr0 (fun h => h) ((hbx.cell 1).trans (show _ = some (Value.int .i64 x3) from rfl))
            have g2 := cell_frm fr0 (fun h => h) ((hbx.cell 2).trans (show _ = some (Value.int .i64 x4) from rfl))
            have g3 := cell_frm fr0 (fun h => h) ((hbx.cell 3).trans (show _ = some (Value.int .i64 x5) from rfl))
            have hfd : Frm noB wb wb.drew := fr0
            have f1 : (9223372036854775807 < O2.size + 1) = False := eq_false (by omega)
            have f2 : (9223372036854775807 < O2.size + 1 + D1.size) = False := eq_false (by omega)
            have f3 : (9223372036854775807 < O2.size + 1 + D1.size + 1) = False := eq_false (by omega)
            have f4 : (9223372036854775807 < O2.size + 1 + D1.size + 1 + D2.size) = False := eq_false (by omega)
            have f5 : (9223372036854775807 < O2.size + 1 + D1.size + 1 + D2.size + 1) = False := eq_false (by omega)
            have f6 : (9223372036854775807 < O2.size + 1 + D1.size + 1 + D2.size + 1 + D3.size) = False := eq_false (by omega)
            have Hfd := Lib.hid hfd
            have Hfr0 := Lib.hid fr0
            have Hbx := Lib.hid hbx
            have Hfb := Lib.hid hfb
            have Hwb := Lib.hid hwb
            have HB := Lib.hid hB
            clear fr0 hbx hfb hwb hB
            clear hfd
            go_region_held3 (fun W => W.cell? ⟨B, 1, none⟩ = some (.int .i64 x3) ∧ W.cell? ⟨B, 2, none⟩ = some (.int .i64 x4) ∧ W.cell? ⟨B, 3, none⟩ = some (.int .i64 x5)) (first | exact ⟨g1, g2, g3⟩ | exact ⟨r1, r2, r3⟩ | exact ⟨p1, p2, p3⟩ | exact ⟨q1, q2, q3⟩)
              (first | (go_at_call 43; (with_reducible refine (Hd1.out _).mono ?_); rintro e rw ⟨rfl, rf⟩; have r1 := cell_frm rf (fun h => h) g1; have r2 := cell_frm rf (fun h => h) g2; have r3 := cell_frm rf (fun h => h) g3; have Hfr := Lib.hid (Hfd.out.trans rf); clear rf) | (go_at_call 43; (with_reducible refine (Hd2.out _).mono ?_); rintro e pw ⟨rfl, pf⟩; have p1 := cell_frm pf (fun h => h) r1; have p2 := cell_frm pf (fun h => h) r2; have p3 := cell_frm pf (fun h => h) r3; have Hfp := Lib.hid (Hfr.out.trans pf); clear pf) | (go_at_call 43; (with_reducible refine (Hd3.out _).mono ?_); rintro e qw ⟨rfl, qf⟩; have q1 := cell_frm qf (fun h => h) p1; have q2 := cell_frm qf (fun h => h) p2; have q3 := cell_frm qf (fun h => h) p3; have Hfq := Lib.hid (Hfp.out.trans qf); clear qf))
            have hb4 := ((Hbx.out.frm Hfq.out (fun h => h)).cell 4).trans (show _ = some (Value.bool x6) from rfl)
            have hbl := (Hbx.out.frm Hfq.out (fun h => h)).lt
            have Hff := Lib.hid (Hfb.out.trans Hfq.out)
            clear g1 g2 g3 r1 r2 r3 p1 p2 p3 q1 q2 q3 f1 f2 f3 f4 f5 f6
            obtain ⟨Z, hZ⟩ : ∃ Z, Z = ((((((O2 ++ (⟨#[32]⟩ : ByteArray)) ++ D1) ++ (⟨#[32]⟩ : ByteArray)) ++ D2) ++ (⟨#[45]⟩ : ByteArray)) ++ D3) := ⟨_, rfl⟩
            obtain ⟨hn1, hn2, hZs⟩ := Hnx.out Z hZ
            rw [← hZ]
            have hZs2 : (Z ++ (⟨#[32, 33]⟩ : ByteArray)).size ≤ 90000 := by rw [ByteArray.size_append]; show Z.size + 2 ≤ _; omega
            cases h6 : x6
            · rw [h6] at hb4
              have hn3 := hn2 h6
              obtain ⟨Z2, hZ2⟩ : ∃ Z2, Z2 = Z ++ (⟨#[32, 33]⟩ : ByteArray) := ⟨_, rfl⟩
              rw [← hZ2] at hn3 hZs2
              have Hn1 := Lib.hid hn1
              have Hn2 := Lib.hid hn2
              have Hn3 := Lib.hid hn3
              have HZ := Lib.hid hZ
              have H6 := Lib.hid h6
              clear hn1 hn2 hn3 hZ h6
              go_upto_region 17 with fail
              rw [← hZ2]
              have HZ2 := Lib.hid hZ2
              clear hZ2
              go_wp2_with fail
              go_roundw
              case rel => exact ⟨k + 1, _, by omega, by go_num, rfl, Hn3.out, Hff.out⟩
              case measure => simp [intOf]; omega
            · rw [h6] at hb4
              have hn3 := hn1 h6
              have Hn1 := Lib.hid hn1
              have Hn2 := Lib.hid hn2
              have Hn3 := Lib.hid hn3
              have HZ := Lib.hid hZ
              have H6 := Lib.hid h6
              clear hn1 hn2 hn3 hZ h6
              go_wp2_with fail
              go_roundw
              case rel => exact ⟨k + 1, _, by omega, by go_num, rfl, Hn3.out, Hff.out⟩
              case measure => simp [intOf]; omega
    · obtain rfl : k = n := by omega
      rw [List.take_of_length_le (by rw [← Hn.out]; exact Nat.le_refl _)] at hO
      have HO := Lib.hid hO
      have Hf := Lib.hid hf
      clear hO hf
      go_wp2_with fail
      go_ret
      exact ⟨by rw [← HO.out]; rfl, Hf.out⟩
end Go.Proofs.YtpgcfeplcibhoaaDoor
