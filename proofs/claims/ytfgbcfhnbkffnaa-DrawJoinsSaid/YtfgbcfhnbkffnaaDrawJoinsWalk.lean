/- The walk of the statement DrawJoins. -/
import Derived.Test.YtfgbcfhnbkffnaaLaws02
import Derived.Test.YtfgbcfhnbkffnaaShort
import Derived.Test.YtfgbcfhnbkffnaaByteStr
set_option linter.unusedVariables false
namespace Go.Proofs.Ytfgbcfhnbkffnaa
open Go.RowKit

theorem h0 : ((hashN (ByteArray.mk #[]).data.toList : Nat) : Int) = 14695981039346656037 := by
  have h : hashN (ByteArray.mk #[]).data.toList = 14695981039346656037 := by decide +kernel
  rw [h]; rfl

set_option maxHeartbeats 400000 in
theorem drawJoins_walk (a0 : ByteArray) (a1 : Int) (w0 : a0.size ≤ maxLen) (w1 : (Lit.int .u8 a1).wf = true) (w : World) :
    Calls Try.prog 4 #[.string a0, .int .u8 a1] w fun e w' => e = .returned (.bool true) ∧ Below w.heap.size w w' := by
  have hc : 0 ≤ a1 ∧ a1 ≤ 255 := by simpa [Lit.wf, IntKind.min, IntKind.max, IntKind.signed, IntKind.bits] using w1
  obtain ⟨c, hcc⟩ : ∃ c : UInt8, a1 = (c.toNat : Int) := ⟨UInt8.ofNat a1.toNat, by simp; omega⟩
  subst hcc
  obtain ⟨t, ht⟩ : ∃ t : List UInt8, t = a0.data.toList.take 80 := ⟨_, rfl⟩
  have htl : t.length ≤ 80 := by rw [ht]; simp; omega
  have Ht := Lib.hid ht
  clear ht
  have hcv := fun w => conv_one w c
  have hstep := Lib.hid (hash_walk' (hashN t) c (hashN_lt _))
  have hmore : hashN (ByteArray.mk t.toArray ++ ByteArray.mk #[c]).data.toList = hashStep (hashN t) c := by rw [snoc_data, hashN_snoc]
  have Hmore := Lib.hid hmore
  clear hmore
  go_enter Try.func4, Try.ntmps4
  go_wp2_with fail
  refine (short_any a0 80 _ w0 (by omega)).mono ?_
  rintro e w' ⟨rfl, rfl⟩
  rw [← Ht.out]
  go_wp2_with fail
  refine (hash_any _ _ ?_).mono ?_
  · simp only [maxLen, ByteArray.size_append', ByteArray.size_mk', List.size_toArray]; simp; omega
  rintro e w' ⟨rfl, rfl⟩
  rw [Hmore.out]
  go_wp2_with fail
  refine (hash_any _ _ ?_).mono ?_
  · simp only [maxLen, ByteArray.size_mk', List.size_toArray]; omega
  rintro e w' ⟨rfl, rfl⟩
  rw [show hashN (ByteArray.mk t.toArray).data.toList = hashN t from by simp]
  have hs2 := hstep.out
  go_wp2_with fail
  refine (hash_any _ _ (by decide)).mono ?_
  rintro e w' ⟨rfl, rfl⟩
  rw [h0]
  go_wp2_with fail
  refine (lives_any _).mono ?_
  rintro e w' ⟨rfl, hf⟩
  have Hf := Lib.hid hf
  clear hf
  go_wp2
  go_ret
  exact ⟨rfl, (((Frm.refl noB w).alloc _).trans Hf.out).below (Nat.le_refl _) (fun _ _ h => h)⟩
end Go.Proofs.Ytfgbcfhnbkffnaa
