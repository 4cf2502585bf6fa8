/- The document's examples of layer 5. -/
import Derived.Test.YtjehdldjfnaniaaDoorMatchCmp2
import Derived.Test.YtjehdldjfnaniaaDoorPathC
import Derived.Test.YtjehdldjfnaniaaDoorStoreNew
import Derived.Outline
set_option linter.unusedVariables false
set_option linter.unusedSimpArgs false
namespace Go.Proofs.YtjehdldjfnaniaaDoor
open Go.RowKit

theorem info_match : (Tryd.prog.info? 25).map (·.size) = some 3 := by kernel_rfl
def mC (mp : ByteArray) (ex : Bool) : Array Value := #[.string mp, .bool ex, .slice none 0 0]
theorem on_c (mp : ByteArray) (ex : Bool) (path : ByteArray) (r : Bool) (hs : path.size ≤ 1000000) (h : onL mp ex path = r) (w : World) (hm : MaxL w) :
    Calls Tryd.prog 13 #[.agg #[.string mp, .bool ex, .slice none 0 0], .string path] w fun e w' => e = .returned (.bool r) ∧ Frm noB w w' := by
  subst h
  exact on_any mp ex none 0 0 path w hs hm
theorem cmp_c (mp1 : ByteArray) (ex1 : Bool) (mp2 : ByteArray) (ex2 : Bool) (r : Int) (h : cmpR (rk0 ex1) (rk1 mp1) 0 (rk0 ex2) (rk1 mp2) 0 = r) (w : World) :
    Calls Tryd.prog 9 #[.agg #[.string mp1, .bool ex1, .slice none 0 0], .agg #[.string mp2, .bool ex2, .slice none 0 0]] w fun e w' => e = .returned (.int .i64 r) ∧ Frm noB w w' := by
  subst h
  exact cmp_any mp1 ex1 none 0 0 mp2 ex2 none 0 0 w
set_option maxRecDepth 100000 in
set_option maxHeartbeats 4000000 in
theorem mlives_any (w : World) (hm : MaxL w) : Calls Tryd.prog 11 #[] w fun e w' => e = .returned (.bool true) ∧ Frm noB w w' := by
  have k0 := on_c ⟨#[47, 97]⟩ false ⟨#[47, 97]⟩ true (by decide) (by decide +kernel)
  have k1 := on_c ⟨#[47, 97]⟩ false ⟨#[47, 97, 47, 98]⟩ true (by decide) (by decide +kernel)
  have k2 := on_c ⟨#[47, 97]⟩ false ⟨#[47, 97, 98]⟩ false (by decide) (by decide +kernel)
  have k3 := on_c ⟨#[47, 97]⟩ true ⟨#[47, 97]⟩ true (by decide) (by decide +kernel)
  have k4 := on_c ⟨#[47, 97]⟩ true ⟨#[47, 97, 47, 98]⟩ false (by decide) (by decide +kernel)
  have k5 := on_c ⟨#[47]⟩ false ⟨#[47, 120, 47, 121]⟩ true (by decide) (by decide +kernel)
  have k6 := cmp_c ⟨#[47, 97]⟩ true ⟨#[47, 97, 47, 98]⟩ false (-1) (by decide +kernel)
  have k7 := cmp_c ⟨#[47, 97]⟩ false ⟨#[47, 97, 47, 98]⟩ false (1) (by decide +kernel)
  have hB1 := blk_new (w) #[.string ⟨#[47, 97]⟩, .bool false, .slice none 0 0] 25 (B := w.heap.size) (by simp)
  have hB2 := blk_new ((w).alloc (.cells #[.string ⟨#[47, 97]⟩, .bool false, .slice none 0 0] 25)) #[.string ⟨#[47, 97]⟩, .bool true, .slice none 0 0] 25 (B := w.heap.size + 1) (by simp)
  have hB3 := blk_new (((w).alloc (.cells #[.string ⟨#[47, 97]⟩, .bool false, .slice none 0 0] 25)).alloc (.cells #[.string ⟨#[47, 97]⟩, .bool true, .slice none 0 0] 25)) #[.string ⟨#[47, 97, 47, 98]⟩, .bool false, .slice none 0 0] 25 (B := w.heap.size + 1 + 1) (by simp)
  have hB4 := blk_new ((((w).alloc (.cells #[.string ⟨#[47, 97]⟩, .bool false, .slice none 0 0] 25)).alloc (.cells #[.string ⟨#[47, 97]⟩, .bool true, .slice none 0 0] 25)).alloc (.cells #[.string ⟨#[47, 97, 47, 98]⟩, .bool false, .slice none 0 0] 25)) #[.string ⟨#[47]⟩, .bool false, .slice none 0 0] 25 (B := w.heap.size + 1 + 1 + 1) (by simp)
  have hC1 := (((hB1).alloc (.cells #[.string ⟨#[47, 97]⟩, .bool true, .slice none 0 0] 25)).alloc (.cells #[.string ⟨#[47, 97, 47, 98]⟩, .bool false, .slice none 0 0] 25)).alloc (.cells #[.string ⟨#[47]⟩, .bool false, .slice none 0 0] 25)
  have hC2 := ((hB2).alloc (.cells #[.string ⟨#[47, 97, 47, 98]⟩, .bool false, .slice none 0 0] 25)).alloc (.cells #[.string ⟨#[47]⟩, .bool false, .slice none 0 0] 25)
  have hC3 := (hB3).alloc (.cells #[.string ⟨#[47]⟩, .bool false, .slice none 0 0] 25)
  have hC4 := hB4
  have hf := ((((Frm.refl noB w).alloc (.cells #[.string ⟨#[47, 97]⟩, .bool false, .slice none 0 0] 25)).alloc (.cells #[.string ⟨#[47, 97]⟩, .bool true, .slice none 0 0] 25)).alloc (.cells #[.string ⟨#[47, 97, 47, 98]⟩, .bool false, .slice none 0 0] 25)).alloc (.cells #[.string ⟨#[47]⟩, .bool false, .slice none 0 0] 25)
  generalize hW : ((((w).alloc (.cells #[.string ⟨#[47, 97]⟩, .bool false, .slice none 0 0] 25)).alloc (.cells #[.string ⟨#[47, 97]⟩, .bool true, .slice none 0 0] 25)).alloc (.cells #[.string ⟨#[47, 97, 47, 98]⟩, .bool false, .slice none 0 0] 25)).alloc (.cells #[.string ⟨#[47]⟩, .bool false, .slice none 0 0] 25) = W at *
  have hm0 := hm.keep hf
  have HW := Lib.hid hW
  have HB1 := Lib.hid hB1
  have HB2 := Lib.hid hB2
  have HB3 := Lib.hid hB3
  have HB4 := Lib.hid hB4
  have HC1 := Lib.hid hC1
  have HC2 := Lib.hid hC2
  have HC3 := Lib.hid hC3
  have HC4 := Lib.hid hC4
  have Hf := Lib.hid hf
  have Hm := Lib.hid hm
  have Hm0 := Lib.hid hm0
  have Hk0 := Lib.hid k0
  have Hk1 := Lib.hid k1
  have Hk2 := Lib.hid k2
  have Hk3 := Lib.hid k3
  have Hk4 := Lib.hid k4
  have Hk5 := Lib.hid k5
  have Hk6 := Lib.hid k6
  have Hk7 := Lib.hid k7
  clear hW hB1 hB2 hB3 hB4 hC1 hC2 hC3 hC4 hf hm hm0 k0 k1 k2 k3 k4 k5 k6 k7
  go_enter Tryd.func11, Tryd.ntmps11
  go_upto_region 5 with fail
  rw [HW.out]
  have b0 := HC1.out
  go_wp2_with (first | (refine wpl_load_blk (by rfl) 25 _ (by rfl) _ (by rfl) _ _ (by exact b0) _ Tryd.underlying25 (by rfl) (by exact info_match) ?_))
  refine (Hk0.out _ Hm0.out).mono ?_
  rintro e z0 ⟨rfl, hg⟩
  clear b0
  have HD0_1 := Lib.hid (HC1.out.frm hg (fun h => h))
  have HD0_2 := Lib.hid (HC2.out.frm hg (fun h => h))
  have HD0_3 := Lib.hid (HC3.out.frm hg (fun h => h))
  have HD0_4 := Lib.hid (HC4.out.frm hg (fun h => h))
  have HF0 := Lib.hid (Hf.out.trans hg)
  have HM0 := Lib.hid (Hm0.out.keep hg)
  clear hg
  have b0 := HD0_1.out
  go_wp2_with (first | (refine wpl_load_blk (by rfl) 25 _ (by rfl) _ (by rfl) _ _ (by exact b0) _ Tryd.underlying25 (by rfl) (by exact info_match) ?_))
  refine (Hk1.out _ HM0.out).mono ?_
  rintro e z1 ⟨rfl, hg⟩
  clear b0
  have HD1_1 := Lib.hid (HD0_1.out.frm hg (fun h => h))
  have HD1_2 := Lib.hid (HD0_2.out.frm hg (fun h => h))
  have HD1_3 := Lib.hid (HD0_3.out.frm hg (fun h => h))
  have HD1_4 := Lib.hid (HD0_4.out.frm hg (fun h => h))
  have HF1 := Lib.hid (HF0.out.trans hg)
  have HM1 := Lib.hid (HM0.out.keep hg)
  clear hg
  have b0 := HD1_1.out
  go_wp2_with (first | (refine wpl_load_blk (by rfl) 25 _ (by rfl) _ (by rfl) _ _ (by exact b0) _ Tryd.underlying25 (by rfl) (by exact info_match) ?_))
  refine (Hk2.out _ HM1.out).mono ?_
  rintro e z2 ⟨rfl, hg⟩
  clear b0
  have HD2_1 := Lib.hid (HD1_1.out.frm hg (fun h => h))
  have HD2_2 := Lib.hid (HD1_2.out.frm hg (fun h => h))
  have HD2_3 := Lib.hid (HD1_3.out.frm hg (fun h => h))
  have HD2_4 := Lib.hid (HD1_4.out.frm hg (fun h => h))
  have HF2 := Lib.hid (HF1.out.trans hg)
  have HM2 := Lib.hid (HM1.out.keep hg)
  clear hg
  have b0 := HD2_2.out
  go_wp2_with (first | (refine wpl_load_blk (by rfl) 25 _ (by rfl) _ (by rfl) _ _ (by exact b0) _ Tryd.underlying25 (by rfl) (by exact info_match) ?_))
  refine (Hk3.out _ HM2.out).mono ?_
  rintro e z3 ⟨rfl, hg⟩
  clear b0
  have HD3_1 := Lib.hid (HD2_1.out.frm hg (fun h => h))
  have HD3_2 := Lib.hid (HD2_2.out.frm hg (fun h => h))
  have HD3_3 := Lib.hid (HD2_3.out.frm hg (fun h => h))
  have HD3_4 := Lib.hid (HD2_4.out.frm hg (fun h => h))
  have HF3 := Lib.hid (HF2.out.trans hg)
  have HM3 := Lib.hid (HM2.out.keep hg)
  clear hg
  have b0 := HD3_2.out
  go_wp2_with (first | (refine wpl_load_blk (by rfl) 25 _ (by rfl) _ (by rfl) _ _ (by exact b0) _ Tryd.underlying25 (by rfl) (by exact info_match) ?_))
  refine (Hk4.out _ HM3.out).mono ?_
  rintro e z4 ⟨rfl, hg⟩
  clear b0
  have HD4_1 := Lib.hid (HD3_1.out.frm hg (fun h => h))
  have HD4_2 := Lib.hid (HD3_2.out.frm hg (fun h => h))
  have HD4_3 := Lib.hid (HD3_3.out.frm hg (fun h => h))
  have HD4_4 := Lib.hid (HD3_4.out.frm hg (fun h => h))
  have HF4 := Lib.hid (HF3.out.trans hg)
  have HM4 := Lib.hid (HM3.out.keep hg)
  clear hg
  have b0 := HD4_4.out
  go_wp2_with (first | (refine wpl_load_blk (by rfl) 25 _ (by rfl) _ (by rfl) _ _ (by exact b0) _ Tryd.underlying25 (by rfl) (by exact info_match) ?_))
  refine (Hk5.out _ HM4.out).mono ?_
  rintro e z5 ⟨rfl, hg⟩
  clear b0
  have HD5_1 := Lib.hid (HD4_1.out.frm hg (fun h => h))
  have HD5_2 := Lib.hid (HD4_2.out.frm hg (fun h => h))
  have HD5_3 := Lib.hid (HD4_3.out.frm hg (fun h => h))
  have HD5_4 := Lib.hid (HD4_4.out.frm hg (fun h => h))
  have HF5 := Lib.hid (HF4.out.trans hg)
  have HM5 := Lib.hid (HM4.out.keep hg)
  clear hg
  have b0 := HD5_2.out
  have b1 := HD5_3.out
  go_wp2_with (first | (refine wpl_load_blk (by rfl) 25 _ (by rfl) _ (by rfl) _ _ (by exact b0) _ Tryd.underlying25 (by rfl) (by exact info_match) ?_) | (refine wpl_load_blk (by rfl) 25 _ (by rfl) _ (by rfl) _ _ (by exact b1) _ Tryd.underlying25 (by rfl) (by exact info_match) ?_))
  refine (Hk6.out _).mono ?_
  rintro e z6 ⟨rfl, hg⟩
  clear b0 b1
  have HD6_1 := Lib.hid (HD5_1.out.frm hg (fun h => h))
  have HD6_2 := Lib.hid (HD5_2.out.frm hg (fun h => h))
  have HD6_3 := Lib.hid (HD5_3.out.frm hg (fun h => h))
  have HD6_4 := Lib.hid (HD5_4.out.frm hg (fun h => h))
  have HF6 := Lib.hid (HF5.out.trans hg)
  have HM6 := Lib.hid (HM5.out.keep hg)
  clear hg
  have b0 := HD6_1.out
  have b1 := HD6_3.out
  go_wp2_with (first | (refine wpl_load_blk (by rfl) 25 _ (by rfl) _ (by rfl) _ _ (by exact b0) _ Tryd.underlying25 (by rfl) (by exact info_match) ?_) | (refine wpl_load_blk (by rfl) 25 _ (by rfl) _ (by rfl) _ _ (by exact b1) _ Tryd.underlying25 (by rfl) (by exact info_match) ?_))
  refine (Hk7.out _).mono ?_
  rintro e z7 ⟨rfl, hg⟩
  clear b0 b1
  have HD7_1 := Lib.hid (HD6_1.out.frm hg (fun h => h))
  have HD7_2 := Lib.hid (HD6_2.out.frm hg (fun h => h))
  have HD7_3 := Lib.hid (HD6_3.out.frm hg (fun h => h))
  have HD7_4 := Lib.hid (HD6_4.out.frm hg (fun h => h))
  have HF7 := Lib.hid (HF6.out.trans hg)
  have HM7 := Lib.hid (HM6.out.keep hg)
  clear hg
  go_wp2_with fail
  go_ret
  exact ⟨rfl, HF7.out⟩
end Go.Proofs.YtjehdldjfnaniaaDoor
