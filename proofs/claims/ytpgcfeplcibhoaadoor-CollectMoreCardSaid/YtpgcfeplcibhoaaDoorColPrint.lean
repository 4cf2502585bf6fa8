/- Print of a collector's tree. -/
import Derived.Test.YtpgcfeplcibhoaaDoorColPrP
import Derived.Test.YtpgcfeplcibhoaaDoorBuilder
import Derived.Test.YtpgcfeplcibhoaaDoorDecimal
import Derived.Test.YtpgcfeplcibhoaaDoorStoreNew
import Derived.Deep.RegionLaw
import Derived.Deep.RegionHeld3
import Derived.Deep.DeepCutAuto
import Derived.StillTailTactics
import Derived.RegionTactic
set_option linter.unusedVariables false
set_option linter.unusedSimpArgs false
namespace Go.Proofs.YtpgcfeplcibhoaaDoor
open Go.RowKit

theorem decDigits_dig2 (n : Nat) : Lib.decDigits n = digN n := by
  induction n using Nat.strongRecOn with
  | _ n ih =>
    rw [Lib.decDigits, digN]
    split
    · rfl
    · rw [ih _ (by omega)]
theorem itoa_dec (n : Int) (h0 : 0 ≤ n) (h1 : n ≤ 99) (w : World) : Calls Tryd.prog 40 #[.int .i64 n] w fun e w' => e = .returned (.string (bs (decL n))) ∧ w' = w := by
  obtain ⟨k, rfl⟩ := Int.eq_ofNat_of_zero_le h0
  have h := Tryd.strconv_Itoa_small k (by omega) w
  have e : decL (k : Int) = Lib.decDigits k := by
    rw [decDigits_dig2]
    unfold decL
    rw [if_neg (by omega)]; simp
  rw [e]
  exact h
theorem spaces (d : Nat) (w : World) (hd : d ≤ 1000) : Calls Tryd.prog 38 #[.string ⟨#[32]⟩, .int .i64 (d : Int)] w fun e w' => e = .returned (.string (bs (List.replicate d 32))) ∧ Frm noB w w' := by
  refine (Tryd.strings_Repeat ⟨#[32]⟩ d w (by omega) (by show 1 * d ≤ _; omega)).mono ?_
  rintro e w' ⟨rfl, hb⟩
  refine ⟨?_, (Frm.refl noB w).andBelow hb⟩
  have : Lib.repeatL (⟨#[32]⟩ : ByteArray).data.toList d = List.replicate d 32 := by
    have := Lib.repeatL_replicate 32 1 d
    rw [Nat.mul_one] at this
    exact this
  rw [this]; rfl
theorem info_nod8 : (Tryd.prog.info? 49).map (·.size) = some 8 := by kernel_rfl
theorem itoa_cat (D1 D2 D3 : List UInt8) : ((((((⟨#[32]⟩ : ByteArray) ++ bs D1) ++ (⟨#[32]⟩ : ByteArray)) ++ bs D2) ++ (⟨#[45]⟩ : ByteArray)) ++ bs D3) = bs (32 :: (D1 ++ 32 :: (D2 ++ 45 :: D3))) := by
  apply ByteArray.ext; apply Array.ext'
  simp [ByteArray.data_append, bs]
set_option maxRecDepth 100000 in
set_option maxHeartbeats 4000000 in
theorem cprint_any (base : Nat) (v : Value) (l : List Nod) (w : World) (h : Own nodE w base 49 v l) (hl : l.length ≤ 1000) (hG : ∀ x ∈ l, GoodN x) :
    Calls Tryd.prog 18 #[v] w fun e w' => e = .returned (.string (bs (prN l))) ∧ Frm noB w w' := by
  obtain ⟨n, hn⟩ : ∃ n, n = l.length := ⟨_, rfl⟩
  obtain ⟨a, c, hv, _, hg⟩ := h.shape
  rw [← hn] at hv hg hl
  subst hv
  have hbd := bd_new w
  have hfa : Frm noB w (w.alloc (.cells #[.pointer none, .slice none 0 0] 70)) := (Frm.refl _ _).alloc _
  have Hn := Lib.hid hn
  have Hg := Lib.hid hg
  have Hh := Lib.hid h
  have HG := Lib.hid hG
  have Hbd := Lib.hid hbd
  have Hfa := Lib.hid hfa
  clear hn hg h hG hbd hfa
  go_enter Tryd.func18, Tryd.ntmps18
  go_wp2_with fail
  go_loopw [8] (fun i wr => ∃ k : Nat, k ≤ n ∧ i = .int .i64 k ∧ Bd w.heap.size w.heap.size (prN (l.take k)) wr ∧ Frm noB w wr) (fun i _ => n - (intOf i).toNat)
  case atStart => exact ⟨0, by omega, rfl, Hbd.out, Hfa.out⟩
  case round =>
    obtain ⟨k, hk, rfl, hbd1, hf⟩ := hrel
    by_cases hlt : k < n
    · obtain ⟨x, hx⟩ := get_of_lt (l := l) (j := k) (by rw [← Hn.out]; exact hlt)
      obtain ⟨g, rfl, hg1, hg2⟩ := Hg.out (by omega)
      have hgx := HG.out x (List.mem_of_getElem? hx)
      have hXl : (prN (l.take k)).length ≤ 60000 := by
        have := prN_len (l.take k) (fun y hy => HG.out y (List.mem_of_mem_take hy))
        rw [List.length_take] at this
        omega
      have hsn := prN_snoc hx
      have hxn := hgx.nm
      have hcs := nod_cells (Hh.out.keep hf) hx
      have hgw : g < wr.heap.size := Nat.lt_of_lt_of_le hg2 hf.size
      obtain ⟨x0, x1, ⟨x2, x3, x4, x5, x6, x7⟩⟩ := x
      simp only at hcs hxn
      obtain ⟨c0, c1, c2, c3, c4, c5, c6, c7⟩ := hcs
      obtain ⟨⟨s0, s1⟩, ⟨e0, e1⟩, ⟨t0, t1⟩⟩ : (0 ≤ x3 ∧ x3 ≤ 99) ∧ (0 ≤ x4 ∧ x4 ≤ 99) ∧ (0 ≤ x5 ∧ x5 ≤ 99) := ⟨hgx.serv, hgx.frm, hgx.til⟩
      obtain ⟨d, hd⟩ : ∃ d, d = depL x0.data.toList := ⟨_, rfl⟩
      have hdl : d ≤ 16 := by
        have := depL_le x0.data.toList
        rw [ba_len] at this; omega
      have hdep := fun W => depth_any x0 W (by omega)
      rw [← hd] at hdep
      have hrep := fun W => spaces d W (by omega)
      have hSs : (bs (List.replicate d 32)).size ≤ 16 := by rw [bs_size, List.length_replicate]; exact hdl
      have hSd : (bs (List.replicate d 32)).data.toList = List.replicate d 32 := rfl
      have hd1 := fun W => itoa_dec x3 s0 s1 W
      have hd2 := fun W => itoa_dec x4 e0 e1 W
      have hd3 := fun W => itoa_dec x5 t0 t1 W
      have z1 := dec99 s0 s1
      have z2 := dec99 e0 e1
      have z3 := dec99 t0 t1
      rw [← bs_size] at z1 z2 z3
      have hcat := itoa_cat (decL x3) (decL x4) (decL x5)
      have hlb : ∀ Y : List UInt8, Y = prN (l.take k) ++ List.replicate d 32 ++ x0.data.toList → (x1 = true → Y ++ [32, 63, 10] = prN (l.take (k + 1))) ∧ (x1 = false → x6 = true → (Y ++ (32 :: (decL x3 ++ 32 :: (decL x4 ++ 45 :: decL x5)))) ++ [10] = prN (l.take (k + 1))) ∧ (x1 = false → x6 = false → ((Y ++ (32 :: (decL x3 ++ 32 :: (decL x4 ++ 45 :: decL x5)))) ++ [32, 33]) ++ [10] = prN (l.take (k + 1))) := by
        intro Y hY
        have hd' : depL x0.data.toList = d := hd.symm
        refine ⟨fun h1 => ?_, fun h1 h6 => ?_, fun h1 h6 => ?_⟩
        · rw [hsn, hY]; unfold lineB tailB spcB; simp [h1, hd']
        · rw [hsn, hY]; unfold lineB tailB spcB; simp [h1, h6, hd']
        · rw [hsn, hY]; unfold lineB tailB spcB; simp [h1, h6, hd']
      have hZl : (32 :: (decL x3 ++ 32 :: (decL x4 ++ 45 :: decL x5))).length ≤ 20 := by
        rw [bs_size] at z1 z2 z3
        simp only [List.length_append, List.length_cons]; omega
      obtain ⟨S, hS⟩ : ∃ S, S = bs (List.replicate d 32) := ⟨_, rfl⟩
      rw [← hS] at hSs hSd
      simp only [← hS] at hrep
      obtain ⟨Zl, hZL⟩ : ∃ Z, Z = (32 :: (decL x3 ++ 32 :: (decL x4 ++ 45 :: decL x5))) := ⟨_, rfl⟩
      rw [← hZL] at hZl hcat
      simp only [← hZL] at hlb
      obtain ⟨D1, hD1⟩ : ∃ D, D = bs (decL x3) := ⟨_, rfl⟩
      obtain ⟨D2, hD2⟩ : ∃ D, D = bs (decL x4) := ⟨_, rfl⟩
      obtain ⟨D3, hD3⟩ : ∃ D, D = bs (decL x5) := ⟨_, rfl⟩
      rw [← hD1, ← hD2, ← hD3] at hcat
      simp only [← hD1] at hd1 z1
      simp only [← hD2] at hd2 z2
      simp only [← hD3] at hd3 z3
      obtain ⟨X, hX⟩ : ∃ X, X = prN (l.take k) := ⟨_, rfl⟩
      rw [← hX] at hbd1 hXl hlb
      have hlb2 := hlb _ rfl
      have hxl : x0.data.toList.length ≤ 16 := by rw [ba_len]; exact hxn
      have hNl : (X ++ List.replicate d 32).length ≤ 70000 := by rw [List.length_append, List.length_replicate]; omega
      have hYl : (X ++ List.replicate d 32 ++ x0.data.toList).length ≤ 80000 := by rw [List.length_append]; omega
      have hZs : (bs Zl).size ≤ 1000000 := by rw [bs_size]; omega
      clear hlb hsn
      have Hf := Lib.hid hf
      have Hx := Lib.hid hx
      have Hgx := Lib.hid hgx
      have HXl := Lib.hid hXl
      have Hd := Lib.hid hd
      have Hdep := Lib.hid hdep
      have Hrep := Lib.hid hrep
      have HSd := Lib.hid hSd
      have Hd1 := Lib.hid hd1
      have Hd2 := Lib.hid hd2
      have Hd3 := Lib.hid hd3
      have Hcat := Lib.hid hcat
      have Hlb2 := Lib.hid hlb2
      have HZl := Lib.hid hZl
      have HZL := Lib.hid hZL
      have HD1 := Lib.hid hD1
      have HD2 := Lib.hid hD2
      have HD3 := Lib.hid hD3
      have HX := Lib.hid hX
      have HS := Lib.hid hS
      have Hbd1 := Lib.hid hbd1
      have HNl := Lib.hid hNl
      have HYl := Lib.hid hYl
      have HZs := Lib.hid hZs
      have Hxl := Lib.hid hxl
      clear hf hx hgx hXl hd hdep hrep hSd hd1 hd2 hd3 hcat hlb2 hZl hZL hD1 hD2 hD3 hX hS hbd1 hNl hYl hZs hxl
      go_upto_region 5 with (refine wpl_store_new _ (by rfl) 49 _ _ (by rfl) _ (by rfl) (by first | rfl | simp) _ _ _ (by rfl) (by exact info_nod8) (by rfl) (by kernel_rfl) ?_)
      have hbx := Blk.made wr #[.string x0, .bool x1, .string x2, .int .i64 x3, .int .i64 x4, .int .i64 x5, .bool x6, .int .i64 x7] 49
      have hfb : Frm noB wr (wr.alloc (.cells #[.string x0, .bool x1, .string x2, .int .i64 x3, .int .i64 x4, .int .i64 x5, .bool x6, .int .i64 x7] 49)) := (Frm.refl noB wr).alloc _
      have hne : wr.heap.size ≠ w.heap.size := fun e => by have := (bd_lt Hbd1.out).1; omega
      obtain ⟨B, hB⟩ : ∃ B, B = wr.heap.size := ⟨_, rfl⟩
      rw [← hB] at hbx hne ⊢
      obtain ⟨wb, hwb⟩ : ∃ W : World, W = wr.alloc (.cells #[.string x0, .bool x1, .string x2, .int .i64 x3, .int .i64 x4, .int .i64 x5, .bool x6, .int .i64 x7] 49) := ⟨_, rfl⟩
      rw [← hwb] at hbx hfb ⊢
      clear c0 c1 c2 c3 c4 c5 c6 c7 hgw
      have Hfwb := Lib.hid (Hf.out.trans hfb)
      have Hbdwb := Lib.hid (bd_frm Hbd1.out hfb)
      have q0 := (hbx.cell 0).trans (show _ = some (Value.string x0) from rfl)
      have ql := hbx.lt
      have Hbxwb := Lib.hid hbx
      clear hbx hfb
      have Hwb := Lib.hid hwb
      have HB := Lib.hid hB
      have Hne := Lib.hid hne
      clear hwb hB hne
      go_upto_region 6 with (first
        | (go_at_call 39; refine (Hdep.out _).mono ?_; rintro e w' ⟨rfl, rfl⟩)
        | (go_at_call 38; refine (Hrep.out _).mono ?_; rintro e y1 ⟨rfl, hy⟩; have Hfy1 := Lib.hid (Hfwb.out.trans hy); have Hbdy1 := Lib.hid (bd_frm Hbdwb.out hy); have Hbxy1 := Lib.hid (Hbxwb.out.frm hy (fun h => h)); have Hzy1 := Lib.hid Hfy1.out.size; clear hy)
        | (go_at_call 37; (with_reducible refine (wstr_any w.heap.size w.heap.size X S _ Hbdy1.out (by have := HXl.out; omega) (by omega) Hzy1.out).mono ?_); rintro e y2 ⟨rfl, hbd, hbl, hel⟩; have Hbxy2 := Lib.hid (hel _ _ _ (by decide) Hne.out Hbxy1.out); have Hfy2 := Lib.hid (Hfy1.out.andBelow hbl); have Hzy2 := Lib.hid Hfy2.out.size; have Hbdy2 := Lib.hid hbd; clear hbd hbl hel))
      rw [HSd.out] at Hbdy2
      clear q0 ql
      have q0 := (Hbxy2.out.cell 0).trans (show _ = some (Value.string x0) from rfl)
      have ql := Hbxy2.out.lt
      go_upto_region 7 with (go_at_call 37; (with_reducible refine (wstr_any w.heap.size w.heap.size (X ++ List.replicate d 32) x0 _ Hbdy2.out (by have := HNl.out; omega) (by omega) Hzy2.out).mono ?_); rintro e y3 ⟨rfl, hbd, hbl, hel⟩; have Hbxy3 := Lib.hid (hel _ _ _ (by decide) Hne.out Hbxy2.out); have Hfy3 := Lib.hid (Hfy2.out.andBelow hbl); have Hzy3 := Lib.hid Hfy3.out.size; have Hbdy3 := Lib.hid hbd; clear hbd hbl hel)
      obtain ⟨Y, hY⟩ : ∃ Y, Y = X ++ List.replicate d 32 ++ x0.data.toList := ⟨_, rfl⟩
      have hlb3 := Hlb2.out
      have hYl2 := HYl.out
      rw [← hY] at Hbdy3 hlb3 hYl2
      clear q0 ql
      have q1 := (Hbxy3.out.cell 1).trans (show _ = some (Value.bool x1) from rfl)
      have ql := Hbxy3.out.lt
      cases h1 : x1
      · rw [h1] at q1
        obtain ⟨_, hl1, hl2⟩ := hlb3
        have hl1 := hl1 h1
        have hl2 := hl2 h1
        have HY := Lib.hid hY
        have HYl2 := Lib.hid hYl2
        have Hl1 := Lib.hid hl1
        have Hl2 := Lib.hid hl2
        have H1 := Lib.hid h1
        clear hY hYl2 hl1 hl2 h1
        go_upto_region 9 with fail
        have hfd := (Frm.refl noB y3).drew
        have Hbdy4 := Lib.hid (bd_frm Hbdy3.out hfd)
        have hbx4 := Hbxy3.out.frm hfd (fun h => h)
        have Hfy4 := Lib.hid (Hfy3.out.trans hfd)
        have Hzy4 := Lib.hid (show w.heap.size ≤ y3.drew.heap.size from Hfy4.out.size)
        clear q1 ql hfd
        have q3 := (hbx4.cell 3).trans (show _ = some (Value.int .i64 x3) from rfl)
        have q4 := (hbx4.cell 4).trans (show _ = some (Value.int .i64 x4) from rfl)
        have q5 := (hbx4.cell 5).trans (show _ = some (Value.int .i64 x5) from rfl)
        have Hbxy4 := Lib.hid hbx4
        clear hbx4
        have hZ2 : ((((((⟨#[32]⟩ : ByteArray) ++ D1) ++ (⟨#[32]⟩ : ByteArray)) ++ D2) ++ (⟨#[45]⟩ : ByteArray)) ++ D3).size ≤ 1000000 := by rw [Hcat.out]; exact HZs.out
        have f1 : (9223372036854775807 < 1 + D1.size) = False := eq_false (by omega)
        have f2 : (9223372036854775807 < 1 + D1.size + 1) = False := eq_false (by omega)
        have f3 : (9223372036854775807 < 1 + D1.size + 1 + D2.size) = False := eq_false (by omega)
        have f4 : (9223372036854775807 < 1 + D1.size + 1 + D2.size + 1) = False := eq_false (by omega)
        have f5 : (9223372036854775807 < 1 + D1.size + 1 + D2.size + 1 + D3.size) = False := eq_false (by omega)
        have HZ2 := Lib.hid hZ2
        clear hZ2
        have HYl3 := Lib.hid (show Y.length ≤ 1000000 by have := HYl2.out; omega)
        go_region_held3 (fun W => W.cell? ⟨B, 3, none⟩ = some (.int .i64 x3) ∧ W.cell? ⟨B, 4, none⟩ = some (.int .i64 x4) ∧ W.cell? ⟨B, 5, none⟩ = some (.int .i64 x5)) (first | exact ⟨q3, q4, q5⟩ | exact ⟨r3, r4, r5⟩)
          (first
          | (go_at_call 40; (with_reducible refine (Hd1.out _).mono ?_); rintro e w' ⟨rfl, rfl⟩)
          | (go_at_call 40; (with_reducible refine (Hd2.out _).mono ?_); rintro e w' ⟨rfl, rfl⟩)
          | (go_at_call 40; (with_reducible refine (Hd3.out _).mono ?_); rintro e w' ⟨rfl, rfl⟩)
          | (go_at_call 37; (with_reducible refine (wstr_any w.heap.size w.heap.size Y ((((((⟨#[32]⟩ : ByteArray) ++ D1) ++ (⟨#[32]⟩ : ByteArray)) ++ D2) ++ (⟨#[45]⟩ : ByteArray)) ++ D3) _ Hbdy4.out HYl3.out HZ2.out Hzy4.out).mono ?_); rintro e y5 ⟨rfl, hbd, hbl, hel⟩; have Hbxy5 := Lib.hid (hel _ _ _ (by decide) Hne.out Hbxy4.out); have Hfy5 := Lib.hid (Hfy4.out.andBelow hbl); have Hzy5 := Lib.hid Hfy5.out.size; have Hbdy5 := Lib.hid hbd; have hb5 := Hbxy5.out; have r3 := (hb5.cell 3).trans (show _ = some (Value.int .i64 x3) from rfl); have r4 := (hb5.cell 4).trans (show _ = some (Value.int .i64 x4) from rfl); have r5 := (hb5.cell 5).trans (show _ = some (Value.int .i64 x5) from rfl); clear hb5 hbd hbl hel))
        clear f1 f2 f3 f4 f5 r3 r4 r5
        rw [Hcat.out] at Hbdy5
        clear q3 q4 q5
        have q6 := (Hbxy5.out.cell 6).trans (show _ = some (Value.bool x6) from rfl)
        have ql := Hbxy5.out.lt
        have Hl5 := Lib.hid (show (Y ++ (bs Zl).data.toList).length ≤ 1000000 by rw [List.length_append]; have h9 : (bs Zl).data.toList.length = Zl.length := rfl; rw [h9]; have := HYl2.out; have := HZl.out; omega)
        cases h6 : x6
        · rw [h6] at q6
          have hl6_ := Hl2.out h6
          have H6 := Lib.hid h6
          have Hl6_ := Lib.hid hl6_
          clear h6 hl6_
          go_upto_region 12 with (go_at_call 37; (with_reducible refine (wstr_any w.heap.size w.heap.size (Y ++ (bs Zl).data.toList) ⟨#[32, 33]⟩ _ Hbdy5.out Hl5.out (by decide) Hzy5.out).mono ?_); rintro e y6 ⟨rfl, hbd, hbl, hel⟩; have Hbxy6 := Lib.hid (hel _ _ _ (by decide) Hne.out Hbxy5.out); have Hfy6 := Lib.hid (Hfy5.out.andBelow hbl); have Hzy6 := Lib.hid Hfy6.out.size; have Hbdy6 := Lib.hid hbd; clear hbd hbl hel)
          have Hl6 := Lib.hid (show (Y ++ (bs Zl).data.toList ++ (⟨#[32, 33]⟩ : ByteArray).data.toList).length ≤ 1000000 by rw [List.length_append, List.length_append]; have h9 : (bs Zl).data.toList.length = Zl.length := rfl; rw [h9]; have := HYl2.out; have := HZl.out; show Y.length + Zl.length + 2 ≤ 1000000; omega)
          go_wp2_with (go_at_call 37; (with_reducible refine (wstr_any w.heap.size w.heap.size (Y ++ (bs Zl).data.toList ++ (⟨#[32, 33]⟩ : ByteArray).data.toList) ⟨#[10]⟩ _ Hbdy6.out Hl6.out (by decide) Hzy6.out).mono ?_); rintro e y7 ⟨rfl, hbd, hbl, hel⟩; have Hbxy7 := Lib.hid (hel _ _ _ (by decide) Hne.out Hbxy6.out); have Hfy7 := Lib.hid (Hfy6.out.andBelow hbl); have Hzy7 := Lib.hid Hfy7.out.size; have Hbdy7 := Lib.hid hbd; clear hbd hbl hel)
          go_roundw
          case rel => exact ⟨k + 1, by omega, by go_num, by rw [← Hl6_.out]; exact Hbdy7.out, Hfy7.out⟩
          case measure => simp [intOf]; omega
        · rw [h6] at q6
          have hl6 := Hl1.out h6
          have H6 := Lib.hid h6
          have Hl6 := Lib.hid hl6
          clear h6 hl6
          go_wp2_with (go_at_call 37; (with_reducible refine (wstr_any w.heap.size w.heap.size (Y ++ (bs Zl).data.toList) ⟨#[10]⟩ _ Hbdy5.out Hl5.out (by decide) Hzy5.out).mono ?_); rintro e y7 ⟨rfl, hbd, hbl, hel⟩; have Hbxy7 := Lib.hid (hel _ _ _ (by decide) Hne.out Hbxy5.out); have Hfy7 := Lib.hid (Hfy5.out.andBelow hbl); have Hzy7 := Lib.hid Hfy7.out.size; have Hbdy7 := Lib.hid hbd; clear hbd hbl hel)
          go_roundw
          case rel => exact ⟨k + 1, by omega, by go_num, by rw [← Hl6.out]; exact Hbdy7.out, Hfy7.out⟩
          case measure => simp [intOf]; omega
      · rw [h1] at q1
        have hl1 := hlb3.1 h1
        clear hlb3
        have HY := Lib.hid hY
        have HYl2 := Lib.hid hYl2
        have Hl1 := Lib.hid hl1
        have H1 := Lib.hid h1
        clear hY hYl2 hl1 h1
        go_wp2_with (go_at_call 37; (with_reducible refine (wstr_any w.heap.size w.heap.size Y ⟨#[32, 63, 10]⟩ _ Hbdy3.out (by have := HYl2.out; omega) (by decide) Hzy3.out).mono ?_); rintro e y4 ⟨rfl, hbd, hbl, hel⟩; have Hbxy4 := Lib.hid (hel _ _ _ (by decide) Hne.out Hbxy3.out); have Hfy4 := Lib.hid (Hfy3.out.andBelow hbl); have Hzy4 := Lib.hid Hfy4.out.size; have Hbdy4 := Lib.hid hbd; clear hbd hbl hel)
        go_roundw
        case rel => exact ⟨k + 1, by omega, by go_num, by rw [← Hl1.out]; exact Hbdy4.out, Hfy4.out⟩
        case measure => simp [intOf]; omega
    · obtain rfl : k = n := by omega
      rw [List.take_of_length_le (by rw [← Hn.out]; exact Nat.le_refl _)] at hbd1
      have hwz := hf.size
      have Hbd1 := Lib.hid hbd1
      have Hf := Lib.hid hf
      clear hbd1 hf
      go_wp2_with fail
      refine (Tryd.Builder_String_any w.heap.size w.heap.size (prN l) _ Hbd1.out hwz).mono ?_
      rintro e w1 ⟨rfl, hbl⟩
      have hf2 := Hf.out.andBelow hbl
      have Hf2 := Lib.hid hf2
      clear hf2
      clear hbl
      go_wp2_with fail
      go_ret
      exact ⟨rfl, Hf2.out⟩
end Go.Proofs.YtpgcfeplcibhoaaDoor
