/- The document's example. -/
import Derived.Test.YtnmcdecdgcnmbaaTraceForestC
import Derived.Test.YtnmcdecdgcnmbaaTraceUp
set_option linter.unusedVariables false
namespace Go.Proofs.Ytnmcdecdgcnmbaa
open Go.RowKit

theorem lv1 : befL [55, 58, 49] [55, 58, 49, 47, 48, 58, 50, 47, 51, 58, 49] = true := by
  unfold befL
  rw [ups_cons (by decide), ups_cons (by decide), ups_nil (by decide)]
  decide
theorem lv2 : befL [55, 58, 49] [55, 58, 50, 47, 48, 58, 49] = false := by
  unfold befL
  rw [ups_cons (by decide), ups_nil (by decide)]
  decide
def lva : Spn := ⟨⟨#[55, 58, 49]⟩, 0, 0, 0, false, 0⟩
def lvb : Spn := ⟨⟨#[55, 58, 49, 47, 48, 58, 50]⟩, 0, 0, 0, false, 0⟩
theorem lv3 : forestB [lva, lvb] = true := by decide
theorem lv4 : forestB [lvb] = false := by decide
theorem lv5 : reqL [55, 58, 49, 47, 48, 126] = 7 := by
  unfold reqL readL
  rw [show numL 1 [55, 58, 49, 47, 48, 126] = some (7, [58, 49, 47, 48, 126]) from by decide]
  simp only [Option.bind_some]
  rw [goL_colon, show numL 1 [49, 47, 48, 126] = some (1, [47, 48, 126]) from by decide]
  simp only [Option.bind_some]
  rw [goL_slash, show numL 0 [48, 126] = some (0, [126]) from by decide]
  simp only [Option.bind_some]
  rw [goL_tilde, goL_nil]
  rfl
set_option maxHeartbeats 1000000 in
theorem lives_any (w : World) : Calls Try.prog 15 #[] w fun e w' => e = .returned (.bool true) ∧ Frm noB w w' := by
  have hA := (Blk.made w #[.string ⟨#[55, 58, 49]⟩, .int .i64 0, .int .i64 0, .int .i64 0, .bool false, .int .i64 0] 35).alloc (.cells #[.string ⟨#[55, 58, 49, 47, 48, 58, 50]⟩, .int .i64 0, .int .i64 0, .int .i64 0, .bool false, .int .i64 0] 35)
  have hB := Blk.made (w.alloc (.cells #[.string ⟨#[55, 58, 49]⟩, .int .i64 0, .int .i64 0, .int .i64 0, .bool false, .int .i64 0] 35)) #[.string ⟨#[55, 58, 49, 47, 48, 58, 50]⟩, .int .i64 0, .int .i64 0, .int .i64 0, .bool false, .int .i64 0] 35
  rw [World.size_alloc] at hB
  have HA := Lib.hid hA
  have HB := Lib.hid hB
  clear hA hB
  go_enter Try.func15, Try.ntmps15
  go_wp2_with fail
  refine (before_any _ _ _ (by decide)).mono ?_
  rintro e w1 ⟨rfl, hf1⟩
  rw [show befL (ByteArray.mk #[55, 58, 49]).data.toList (ByteArray.mk #[55, 58, 49, 47, 48, 58, 50, 47, 51, 58, 49]).data.toList = true from lv1]
  have HA1 := Lib.hid (HA.out.frm hf1 (fun h => h))
  have HB1 := Lib.hid (HB.out.frm hf1 (fun h => h))
  have Hf1 := Lib.hid ((((Frm.refl noB w).alloc _).alloc _).trans hf1)
  clear hf1
  go_wp2_with fail
  refine (before_any _ _ _ (by decide)).mono ?_
  rintro e w2 ⟨rfl, hf2⟩
  rw [show befL (ByteArray.mk #[55, 58, 49]).data.toList (ByteArray.mk #[55, 58, 50, 47, 48, 58, 49]).data.toList = false from lv2]
  have HA2 := Lib.hid (HA1.out.frm hf2 (fun h => h))
  have HB2 := Lib.hid (HB1.out.frm hf2 (fun h => h))
  have Hf2 := Lib.hid (Hf1.out.trans hf2)
  clear hf2
  have a0 := HA2.out.cell 0
  have a1 := HA2.out.cell 1
  have a2 := HA2.out.cell 2
  have a3 := HA2.out.cell 3
  have a4 := HA2.out.cell 4
  have a5 := HA2.out.cell 5
  simp at a0 a1 a2 a3 a4 a5
  have b0 := HB2.out.cell 0
  have b1 := HB2.out.cell 1
  have b2 := HB2.out.cell 2
  have b3 := HB2.out.cell 3
  have b4 := HB2.out.cell 4
  have b5 := HB2.out.cell 5
  simp at b0 b1 b2 b3 b4 b5
  have hla := HA2.out.lt
  have hlb := HB2.out.lt
  have hr1 := (own_lit spnE w2 35 [lva, lvb] #[.string ⟨#[55, 58, 49]⟩, .int .i64 0, .int .i64 0, .int .i64 0, .bool false, .int .i64 0, .string ⟨#[55, 58, 49, 47, 48, 58, 50]⟩, .int .i64 0, .int .i64 0, .int .i64 0, .bool false, .int .i64 0] rfl 2 rfl 0 (Nat.zero_le _) (by decide)).rdS
  have Hr1 := Lib.hid hr1
  clear hr1
  go_wp2_with fail
  refine (forest_any _ 2 _ [lva, lvb] _ Hr1.out (by omega) (by decide)).mono ?_
  rintro e w3 ⟨rfl, hf3⟩
  rw [lv3]
  have HB3 := Lib.hid ((HB2.out.alloc (.cells #[.string ⟨#[55, 58, 49]⟩, .int .i64 0, .int .i64 0, .int .i64 0, .bool false, .int .i64 0, .string ⟨#[55, 58, 49, 47, 48, 58, 50]⟩, .int .i64 0, .int .i64 0, .int .i64 0, .bool false, .int .i64 0] 35)).frm hf3 (fun h => h))
  have Hf3 := Lib.hid ((Hf2.out.alloc _).trans hf3)
  clear hf3 a0 a1 a2 a3 a4 a5 b0 b1 b2 b3 b4 b5 hla hlb
  have b0 := HB3.out.cell 0
  have b1 := HB3.out.cell 1
  have b2 := HB3.out.cell 2
  have b3 := HB3.out.cell 3
  have b4 := HB3.out.cell 4
  have b5 := HB3.out.cell 5
  simp at b0 b1 b2 b3 b4 b5
  have hlb := HB3.out.lt
  have hr2 := (own_lit spnE w3 35 [lvb] #[.string ⟨#[55, 58, 49, 47, 48, 58, 50]⟩, .int .i64 0, .int .i64 0, .int .i64 0, .bool false, .int .i64 0] rfl 1 rfl 0 (Nat.zero_le _) (by decide)).rdS
  have Hr2 := Lib.hid hr2
  clear hr2
  go_wp2_with fail
  refine (forest_any _ 1 _ [lvb] _ Hr2.out (by omega) (by decide)).mono ?_
  rintro e w4 ⟨rfl, hf4⟩
  rw [lv4]
  have Hf4 := Lib.hid ((Hf3.out.alloc _).trans hf4)
  clear hf4
  go_wp2_with fail
  refine (req_any _ _ (by decide)).mono ?_
  rintro e w' ⟨rfl, rfl⟩
  rw [show reqL (ByteArray.mk #[55, 58, 49, 47, 48, 126]).data.toList = 7 from lv5]
  go_wp2_with fail
  go_ret
  exact ⟨rfl, Hf4.out⟩
end Go.Proofs.Ytnmcdecdgcnmbaa
