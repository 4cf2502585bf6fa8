/- The walk of the statement DrawAgain. -/
import Derived.Test.YtfgbcfhnbkffnaaLaws02
set_option linter.unusedVariables false
namespace Go.Proofs.Ytfgbcfhnbkffnaa
open Go.RowKit

def adv : Nat → Nat → Nat
  | 0, s => s
  | k + 1, s => stepped (adv k s)
theorem adv_succ (k s : Nat) : adv (k + 1) s = seedOn [] (adv k s) := rfl
theorem adv_zero (s : Nat) : s = adv 0 s := rfl
attribute [irreducible] adv

/-- The third loop and the end: five draws of the seed alone, thrice. -/
def Thrice (w0 : World) (D E F rd re : Nat) (seed used fu : Nat) (w : World) : Prop :=
  Drw w D rd [] seed used ∧ Drw w E re [] seed used ∧ Drw w F F [] seed fu ∧ Frm noB w0 w

set_option maxRecDepth 100000 in
set_option maxHeartbeats 1000000 in
theorem drawAgain_none (seed : Nat) (a1 : Option Addr) (cap1 : Nat) (a2 : Int) (w : World) (hs : seed < 18446744073709551616) :
    Calls Try.prog 3 #[.int .u64 (seed : Int), .slice a1 0 cap1, .int .u64 a2] w fun e w' => e = .returned (.bool true) ∧ Below w.heap.size w w' := by
  go_enter Try.func3, Try.ntmps3
  go_wp2_with fail
  refine (few_none a1 cap1 w).mono ?_
  rintro e w' ⟨rfl, rfl⟩
  go_wp2_with fail
  refine (new_none seed none 0 w).mono ?_
  rintro e w1 ⟨rfl, hw⟩
  have hd : Drw w1 w.heap.size w.heap.size [] seed 0 := hw ▸ drw_new hs
  have hf : Frm noB w w1 := hw ▸ (Frm.refl noB w).alloc _
  have hz : w1.heap.size = w.heap.size + 1 := by rw [← hw]; simp
  have Hd := Lib.hid hd
  have Hf := Lib.hid hf
  have Hz := Lib.hid hz
  clear hd hf hz hw
  go_wp2_with fail
  refine (few_none a1 cap1 _).mono ?_
  rintro e w' ⟨rfl, rfl⟩
  go_wp2_with fail
  refine (new_none seed none 0 _).mono ?_
  rintro e w2 ⟨rfl, hw⟩
  have hd : Drw w2 w1.heap.size w1.heap.size [] seed 0 := hw ▸ drw_new hs
  have hf : Frm noB w1 w2 := hw ▸ (Frm.refl noB w1).alloc _
  have hz : w2.heap.size = w1.heap.size + 1 := by rw [← hw]; simp
  have Hd2 := Lib.hid hd
  have Hf2 := Lib.hid hf
  have Hz2 := Lib.hid hz
  clear hd hf hz hw
  go_wp2_with fail
  refine (new_none seed none 0 _).mono ?_
  rintro e w3 ⟨rfl, hw⟩
  have hd : Drw w3 w2.heap.size w2.heap.size [] seed 0 := hw ▸ drw_new hs
  have hf : Frm noB w2 w3 := hw ▸ (Frm.refl noB w2).alloc _
  have Hd3 := Lib.hid hd
  have Hf3 := Lib.hid hf
  clear hd hf hw
  have hT : Thrice w w.heap.size w1.heap.size w2.heap.size w.heap.size w1.heap.size seed 0 0 w3 :=
    ⟨(Hd.out.frm Hf2.out (fun h => h) (fun h => h)).frm Hf3.out (fun h => h) (fun h => h), Hd2.out.frm Hf3.out (fun h => h) (fun h => h), Hd3.out, (Hf.out.trans Hf2.out).trans Hf3.out⟩
  have HT := Lib.hid hT
  have HNE : Hid (w.heap.size < w1.heap.size ∧ w1.heap.size < w2.heap.size) := Lib.hid ⟨by rw [Hz.out]; omega, by rw [Hz2.out]; omega⟩
  clear hT Hd Hd2 Hd3 Hf Hf2 Hf3
  go_wp2_with fail
  refine wp_loop_once ?_
  go_wp2_with fail
  refine (few_none a1 cap1 _).mono ?_
  rintro e w' ⟨rfl, rfl⟩
  go_wp2_with fail
  refine wp_loop_once ?_
  go_wp2_with fail
  go_loopw [16] (fun i wr => ∃ k : Nat, k ≤ 5 ∧ i = .int .i64 k ∧ Thrice w w.heap.size w1.heap.size w2.heap.size w.heap.size w1.heap.size (adv k seed) (0 + k) k wr) (fun i _ => 5 - (intOf i).toNat)
  case atStart => exact ⟨0, by omega, rfl, by rw [← adv_zero]; exact HT.out⟩
  case round =>
    obtain ⟨k, hk, rfl, hT⟩ := hrel
    have HT2 := Lib.hid hT
    clear hT
    by_cases hlt : k < 5
    · have ha : adv (k + 1) seed = seedOn [] (adv k seed) := adv_succ _ _
      have Ha := Lib.hid ha
      clear ha
      go_wp2_with fail
      refine (next_any _ _ _ _ _ _ HT2.out.1 (by omega)).mono ?_
      rintro e w5 ⟨rfl, hd5, hf5⟩
      have He := Lib.hid (HT2.out.2.1.frm hf5 (by simp only [oneB]; have := HNE.out; omega) (by simp only [oneB]; have := HNE.out; omega))
      have hF := HT2.out.2.2.1
      have HF := Lib.hid (hF.frm hf5 (by simp only [oneB]; have := HNE.out; omega) (by simp only [oneB]; have := HNE.out; omega))
      have Hf5 := Lib.hid (HT2.out.2.2.2.new hf5 (fun i hi h => by simp only [oneB] at h; have := HNE.out; omega))
      have Hd5 := Lib.hid hd5
      clear hd5 hf5 hF
      go_wp2_with fail
      refine (next_any _ _ _ _ _ _ He.out (by omega)).mono ?_
      rintro e w6 ⟨rfl, he6, hf6⟩
      have Hd6 := Lib.hid (Hd5.out.frm hf6 (by simp only [oneB]; have := HNE.out; omega) (by simp only [oneB]; have := HNE.out; omega))
      have HF6 := Lib.hid (HF.out.frm hf6 (by simp only [oneB]; have := HNE.out; omega) (by simp only [oneB]; have := HNE.out; omega))
      have Hf6 := Lib.hid (Hf5.out.new hf6 (fun i hi h => by simp only [oneB] at h; have := HNE.out; omega))
      have He6 := Lib.hid he6
      clear he6 hf6
      go_wp2_with fail
      refine (next_any _ _ _ _ _ _ HF6.out (by omega)).mono ?_
      rintro e w7 ⟨rfl, hF7, hf7⟩
      have Hd7 := Lib.hid (Hd6.out.frm hf7 (by simp only [oneB]; have := HNE.out; omega) (by simp only [oneB]; have := HNE.out; omega))
      have He7 := Lib.hid (He6.out.frm hf7 (by simp only [oneB]; have := HNE.out; omega) (by simp only [oneB]; have := HNE.out; omega))
      have Hf7 := Lib.hid (Hf6.out.new hf7 (fun i hi h => by simp only [oneB] at h; have := HNE.out; omega))
      have HF7 := Lib.hid hF7
      clear hF7 hf7
      go_wp2
      go_roundw
      case rel => exact ⟨k + 1, by omega, by go_num, by rw [Ha.out]; exact ⟨Hd7.out, He7.out, HF7.out, Hf7.out⟩⟩
      case measure => simp [intOf]; omega
    · obtain rfl : k = 5 := by omega
      go_wp2_with fail
      refine (used_any _ _ _ _ _ _ HT2.out.1).mono ?_
      rintro e w' ⟨rfl, rfl⟩
      go_wp2_with fail
      refine (lives_any _).mono ?_
      rintro e w' ⟨rfl, hf⟩
      have Hf := Lib.hid (HT2.out.2.2.2.trans hf)
      clear hf
      go_wp2
      go_ret
      exact ⟨rfl, Hf.out.below (Nat.le_refl _) (fun _ _ h => h)⟩

set_option maxRecDepth 100000 in
set_option maxHeartbeats 2000000 in
theorem drawAgain_some (seed b off n c : Nat) (said : List Nat) (a2 : Int) (w : World) (hs : seed < 18446744073709551616) (hn : 0 < n) (hnc : n ≤ c) (hm : c ≤ 9223372036854775807) (hl : said.length = n)
    (hall : ∀ x ∈ said, x < 18446744073709551616) (hc : ∀ (j x : Nat), said[j]? = some x → w.cell? ⟨b, off + j, none⟩ = some (.int .u64 (x : Int))) :
    Calls Try.prog 3 #[.int .u64 (seed : Int), .slice (some ⟨b, off, none⟩) n c, .int .u64 a2] w fun e w' => e = .returned (.bool true) ∧ Below w.heap.size w w' := by
  have Hc := Lib.hid hc
  have Hl := Lib.hid hl
  have Hall := Lib.hid hall
  have hbw : b < w.heap.size := by
    cases hh : said with
    | nil => rw [hh] at hl; simp at hl; omega
    | cons x l => exact World.block_lt_of_cell? w ⟨b, off + 0, none⟩ (hc 0 x (by rw [hh]; rfl))
  clear hc hl hall
  have sub : ∀ w1 : World, Frm noB w w1 → ∀ (j x : Nat), said[j]? = some x → w1.cell? ⟨b, off + j, none⟩ = some (.int .u64 (x : Int)) := fun _ f j x hx => cell_frm f (fun h => h) (Hc.out j x hx)
  have Sub := Lib.hid sub
  clear sub
  obtain ⟨m, hmm⟩ : ∃ m, m = min n 12 := ⟨_, rfl⟩
  obtain ⟨sd, hsd⟩ : ∃ sd, sd = said.take 12 := ⟨_, rfl⟩
  have hm0 : 0 < m := by omega
  have hm12 : m ≤ 12 := by omega
  have hsl : sd.length = m := by rw [hsd, hmm]; simp [Hl.out, Nat.min_comm]
  have hsa : ∀ x ∈ sd, x < 18446744073709551616 := fun x hx => Hall.out x (List.mem_of_mem_take (hsd ▸ hx))
  have Hnn := Lib.hid (show sd ≠ [] from fun e => by rw [e] at hsl; simp at hsl; omega)
  have Hmm := Lib.hid hmm
  have Hsd := Lib.hid hsd
  have Hsl := Lib.hid hsl
  have Hsa := Lib.hid hsa
  clear hmm hsd hsl hsa
  go_enter Try.func3, Try.ntmps3
  go_wp2_with fail
  refine (few_m b off n c said w m sd Hmm.out Hsd.out hn hnc hm Hl.out Hc.out).mono ?_
  rintro e w1 ⟨g1, cap1, cur1, rfl, hg1, hb1, hc1, hcm1, hcs1, hv1, hf1⟩
  have Hb1 := Lib.hid hb1
  have Hv1 := Lib.hid hv1
  have Hf1 := Lib.hid hf1
  have Hcs1 := Lib.hid hcs1
  have hgl1 := hb1.lt
  clear hb1 hv1 hf1 hcs1
  go_wp2_with fail
  refine (new_some seed g1 0 m cap1 sd w1 hs hm0 (by omega) Hsl.out Hsa.out ?_).mono ?_
  · intro j x hx
    rw [Hb1.out.cell, Nat.zero_add]; exact Hv1.out j x hx
  rintro e w2 ⟨rd, rfl, hd2, hrd, hf2⟩
  have Hd2 := Lib.hid hd2
  have Hf2 := Lib.hid hf2
  have hz2 : w1.heap.size < w2.heap.size := by obtain ⟨_, _, hb⟩ := hd2.blk; exact hb.lt
  have hrdw : rd < w2.heap.size := hd2.rlt Hnn.out
  clear hd2 hf2
  go_wp2_with fail
  refine (few_m b off n c said w2 m sd Hmm.out Hsd.out hn hnc hm Hl.out (Sub.out _ (Hf1.out.trans Hf2.out))).mono ?_
  rintro e w3 ⟨g2, cap2, cur2, rfl, hg2, hb2, hc2, hcm2, hcs2, hv2, hf3⟩
  have Hb2 := Lib.hid hb2
  have Hv2 := Lib.hid hv2
  have Hf3 := Lib.hid hf3
  have hgl2 := hb2.lt
  have hz3 := hf3.size
  clear hb2 hv2 hf3 hcs2
  go_wp2_with fail
  refine (new_some seed g2 0 m cap2 sd w3 hs hm0 (by omega) Hsl.out Hsa.out ?_).mono ?_
  · intro j x hx
    rw [Hb2.out.cell, Nat.zero_add]; exact Hv2.out j x hx
  rintro e w4 ⟨re, rfl, he4, hre, hf4⟩
  have He4 := Lib.hid he4
  have Hf4 := Lib.hid hf4
  have hz4 : w3.heap.size < w4.heap.size := by obtain ⟨_, _, hb⟩ := he4.blk; exact hb.lt
  have hrew : re < w4.heap.size := he4.rlt Hnn.out
  clear he4 hf4
  go_wp2_with fail
  refine (new_none seed none 0 w4).mono ?_
  rintro e w5 ⟨rfl, hw⟩
  have hF5 : Drw w5 w4.heap.size w4.heap.size [] seed 0 := hw ▸ drw_new hs
  have hf5 : Frm noB w4 w5 := hw ▸ (Frm.refl noB w4).alloc _
  have HF5 := Lib.hid hF5
  have hF2 : Frm noB w2 w5 := (Hf3.out.trans Hf4.out).trans hf5
  have HD5 := Lib.hid (Hd2.out.frm hF2 (fun h => h) (fun h => h))
  have HE5 := Lib.hid (He4.out.frm hf5 (fun h => h) (fun h => h))
  have HB5 := Lib.hid (Hb1.out.frm (Hf2.out.trans hF2) (fun h => h))
  have HW5 := Lib.hid (Hf1.out.trans (Hf2.out.trans hF2))
  clear hw hF5 hf5 hF2 Hd2 He4 Hb1 Hb2 Hv2
  go_wp2_with fail
  go_loopw [11] (fun i wr => ∃ k : Nat, ∃ cur, k ≤ m ∧ i = .int .i64 k ∧ Blk wr g1 cur 22 ∧ cur.size = cap1 ∧ Frm (oneB g1) w5 wr) (fun i _ => m - (intOf i).toNat)
  case atStart => exact ⟨0, cur1, by omega, rfl, HB5.out, Hcs1.out, Frm.refl _ _⟩
  case round =>
    obtain ⟨k, cur, hk, rfl, hbk, hks, hfk⟩ := hrel
    have Hbk := Lib.hid hbk
    have Hks := Lib.hid hks
    have Hfk := Lib.hid hfk
    clear hks hfk
    by_cases hlt : k < m
    · have hcl := hbk.cell k
      have hfr := hbk.free k
      rw [Array.getElem?_eq_getElem (by rw [Hks.out]; omega)] at hcl
      clear hbk
      go_wp2
      go_roundw
      case rel => exact ⟨k + 1, _, by omega, by go_num, Hbk.out.set k (.int .u64 a2), by simpa using Hks.out, Hfk.out.setOne k _⟩
      case measure => simp [intOf]; omega
    · clear hbk
      have HD6 := Lib.hid (HD5.out.frm Hfk.out (by simp only [oneB]; omega) (by simp only [oneB]; omega))
      have HE6 := Lib.hid (HE5.out.frm Hfk.out (by simp only [oneB]; omega) (by simp only [oneB]; omega))
      have HF6 := Lib.hid (HF5.out.frm Hfk.out (by simp only [oneB]; omega) (by simp only [oneB]; omega))
      have HW6 := Lib.hid (HW5.out.new Hfk.out (fun i hi h => by simp only [oneB] at h; omega))
      clear HD5 HE5 HF5 HW5 HB5 Hbk Hks Hfk
      go_wp2_with fail
      refine (few_m b off n c said wr m sd Hmm.out Hsd.out hn hnc hm Hl.out (Sub.out _ HW6.out)).mono ?_
      rintro e w6 ⟨g3, cap3, cur3, rfl, hg3, hb3, hc3, hcm3, hcs3, hv3, hf6⟩
      have hzr : w4.heap.size < wr.heap.size := by obtain ⟨_, _, hb⟩ := HF6.out.blk; exact hb.lt
      have HV3 := Lib.hid hv3
      have HB3 := Lib.hid hb3
      have HD7 := Lib.hid (HD6.out.frm hf6 (fun h => h) (fun h => h))
      have HE7 := Lib.hid (HE6.out.frm hf6 (fun h => h) (fun h => h))
      have HF7 := Lib.hid (HF6.out.frm hf6 (fun h => h) (fun h => h))
      have HW7 := Lib.hid (HW6.out.trans hf6)
      have hge : wr.heap.size ≤ w6.heap.size := hf6.size
      clear hb3 hv3 hf6 HD6 HE6 HF6 HW6 hcs3
      go_wp2_with fail
      go_loopw [13] (fun i wr => ∃ k : Nat, k ≤ m ∧ i = .int .i64 k ∧ Drw wr w1.heap.size rd (sd.drop k) seed k ∧ Drw wr w3.heap.size re (sd.drop k) seed k ∧ Drw wr w4.heap.size w4.heap.size [] seed 0 ∧ Blk wr g3 cur3 22 ∧ Frm noB w wr) (fun i _ => m - (intOf i).toNat)
      case atStart => exact ⟨0, by omega, rfl, HD7.out, HE7.out, HF7.out, HB3.out, HW7.out⟩
      case round =>
        obtain ⟨j, hj, rfl, hd, he, hF, hB, hW⟩ := hrel
        have HFx := Lib.hid hF
        have HBx := Lib.hid hB
        have HWx := Lib.hid hW
        clear hF hB hW HD7 HE7 HF7 HB3 HW7
        by_cases hlt2 : j < m
        · obtain ⟨y, hy⟩ : ∃ y, sd[j]? = some y := ⟨_, List.getElem?_eq_getElem (by rw [Hsl.out]; exact hlt2)⟩
          have hdr : sd.drop j = y :: sd.drop (j + 1) := by rw [List.drop_eq_getElem_cons (by rw [Hsl.out]; exact hlt2)]; rw [List.getElem?_eq_getElem (by rw [Hsl.out]; exact hlt2)] at hy; simp at hy; rw [hy]
          rw [hdr] at hd he
          have hcell := HV3.out j y hy
          have HD8 := Lib.hid hd
          have HE8 := Lib.hid he
          have HY := Lib.hid hcell
          clear hd he hcell hdr hy
          go_wp2_with fail
          refine (next_any _ _ _ _ _ _ HD8.out (by omega)).mono ?_
          rintro e wa ⟨rfl, hd9, hf9⟩
          have HD9 := Lib.hid hd9
          have HE9 := Lib.hid (HE8.out.frm hf9 (by simp only [oneB]; omega) (by simp only [oneB]; omega))
          have HF9 := Lib.hid (HFx.out.frm hf9 (by simp only [oneB]; omega) (by simp only [oneB]; omega))
          have HB9 := Lib.hid (HBx.out.frm hf9 (by simp only [oneB]; omega))
          have HW9 := Lib.hid (HWx.out.new hf9 (fun i hi h => by simp only [oneB] at h; omega))
          clear hd9 hf9
          rw [show nxt (y :: sd.drop (j + 1)) seed = y from rfl]
          go_wp2_with fail
          refine (next_any _ _ _ _ _ _ HE9.out (by omega)).mono ?_
          rintro e wb ⟨rfl, he10, hf10⟩
          have HE10 := Lib.hid he10
          have HD10 := Lib.hid (HD9.out.frm hf10 (by simp only [oneB]; omega) (by simp only [oneB]; omega))
          have HF10 := Lib.hid (HF9.out.frm hf10 (by simp only [oneB]; omega) (by simp only [oneB]; omega))
          have HB10 := Lib.hid (HB9.out.frm hf10 (by simp only [oneB]; omega))
          have HW10 := Lib.hid (HW9.out.new hf10 (fun i hi h => by simp only [oneB] at h; omega))
          clear he10 hf10
          rw [show nxt (y :: sd.drop (j + 1)) seed = y from rfl]
          have hcl := HB10.out.cell j
          rw [HY.out] at hcl
          go_wp2
          go_roundw
          case rel => exact ⟨j + 1, by omega, by go_num, HD10.out, HE10.out, HF10.out, HB10.out, HW10.out⟩
          case measure => simp [intOf]; omega
        · obtain rfl : j = m := by omega
          have hdn : sd.drop j = [] := List.drop_of_length_le (by rw [Hsl.out]; omega)
          rw [hdn] at hd he
          have HT : Hid (Thrice w w1.heap.size w3.heap.size w4.heap.size rd re seed (j + 0) 0 _) := Lib.hid ⟨hd, he, HFx.out, HWx.out⟩
          clear hd he hdn
          go_wp2_with fail
          go_loopw [16] (fun i wq => ∃ k : Nat, k ≤ 5 ∧ i = .int .i64 k ∧ Thrice w w1.heap.size w3.heap.size w4.heap.size rd re (adv k seed) (j + k) k wq) (fun i _ => 5 - (intOf i).toNat)
          case atStart => exact ⟨0, by omega, rfl, by rw [← adv_zero]; exact HT.out⟩
          case round =>
            obtain ⟨k, hk, rfl, hT⟩ := hrel
            have HT2 := Lib.hid hT
            clear hT
            by_cases hlt : k < 5
            · have ha : adv (k + 1) seed = seedOn [] (adv k seed) := adv_succ _ _
              have Ha := Lib.hid ha
              clear ha
              go_wp2_with fail
              refine (next_any _ _ _ _ _ _ HT2.out.1 (by omega)).mono ?_
              rintro e w5 ⟨rfl, hd5, hf5⟩
              have He := Lib.hid (HT2.out.2.1.frm hf5 (by simp only [oneB]; omega) (by simp only [oneB]; omega))
              have hF := HT2.out.2.2.1
              have HF := Lib.hid (hF.frm hf5 (by simp only [oneB]; omega) (by simp only [oneB]; omega))
              have Hf5 := Lib.hid (HT2.out.2.2.2.new hf5 (fun i hi h => by simp only [oneB] at h; omega))
              have Hd5 := Lib.hid hd5
              clear hd5 hf5 hF
              go_wp2_with fail
              refine (next_any _ _ _ _ _ _ He.out (by omega)).mono ?_
              rintro e w6 ⟨rfl, he6, hf6⟩
              have Hd6 := Lib.hid (Hd5.out.frm hf6 (by simp only [oneB]; omega) (by simp only [oneB]; omega))
              have HF6 := Lib.hid (HF.out.frm hf6 (by simp only [oneB]; omega) (by simp only [oneB]; omega))
              have Hf6 := Lib.hid (Hf5.out.new hf6 (fun i hi h => by simp only [oneB] at h; omega))
              have He6 := Lib.hid he6
              clear he6 hf6
              go_wp2_with fail
              refine (next_any _ _ _ _ _ _ HF6.out (by omega)).mono ?_
              rintro e w7 ⟨rfl, hF7, hf7⟩
              have Hd7 := Lib.hid (Hd6.out.frm hf7 (by simp only [oneB]; omega) (by simp only [oneB]; omega))
              have He7 := Lib.hid (He6.out.frm hf7 (by simp only [oneB]; omega) (by simp only [oneB]; omega))
              have Hf7 := Lib.hid (Hf6.out.new hf7 (fun i hi h => by simp only [oneB] at h; omega))
              have HF7 := Lib.hid hF7
              clear hF7 hf7
              go_wp2
              go_roundw
              case rel => exact ⟨k + 1, by omega, by go_num, by rw [Ha.out]; exact ⟨Hd7.out, He7.out, HF7.out, Hf7.out⟩⟩
              case measure => simp [intOf]; omega
            · obtain rfl : k = 5 := by omega
              go_wp2_with fail
              refine (used_any _ _ _ _ _ _ HT2.out.1).mono ?_
              rintro e w' ⟨rfl, rfl⟩
              go_wp2_with fail
              refine (lives_any _).mono ?_
              rintro e w' ⟨rfl, hf⟩
              have Hf := Lib.hid (HT2.out.2.2.2.trans hf)
              clear hf
              go_wp2
              go_ret
              exact ⟨rfl, Hf.out.below (Nat.le_refl _) (fun _ _ h => h)⟩

theorem drawAgain_walk (a0 : Int) (a1 : Option Addr) (len1 cap1 : Nat) (z1 : List Int) (a2 : Int) (w : World) (w0 : (Lit.int .u64 a0).wf = true) (w1 : IsRow .u64 w a1 len1 cap1 z1) (w2 : (Lit.int .u64 a2).wf = true) :
    Calls Try.prog 3 #[.int .u64 a0, .slice a1 len1 cap1, .int .u64 a2] w fun e w' => e = .returned (.bool true) ∧ Below w.heap.size w w' := by
  obtain ⟨seed, rfl, hs⟩ := wf_u64 w0
  rcases w1.u64 with rfl | ⟨b, off, said, rfl, h1, h2, h3, h4, h5, h6⟩
  · exact drawAgain_none seed a1 cap1 a2 w hs
  · exact drawAgain_some seed b off len1 cap1 said a2 w hs h1 h2 h3 h4 h5 h6
end Go.Proofs.Ytfgbcfhnbkffnaa
