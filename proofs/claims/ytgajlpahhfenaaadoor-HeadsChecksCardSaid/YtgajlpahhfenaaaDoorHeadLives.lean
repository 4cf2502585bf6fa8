/- The document's example of heads. -/
import Derived.Test.YtgajlpahhfenaaaDoorHeadOps
import Derived.Test.YtgajlpahhfenaaaDoorHeadPrint
import Derived.Test.YtgajlpahhfenaaaDoorHeadCheck
set_option linter.unusedVariables false
namespace Go.Proofs.YtgajlpahhfenaaaDoor
open Go.RowKit

def lvA : List Hd := [⟨⟨#[97]⟩, ⟨#[49]⟩⟩, ⟨⟨#[98]⟩, ⟨#[50]⟩⟩]
def lvB : List Hd := [⟨⟨#[98]⟩, ⟨#[51]⟩⟩, ⟨⟨#[99]⟩, ⟨#[52]⟩⟩]
def lvC : List Hd := [⟨⟨#[97]⟩, ⟨#[49]⟩⟩, ⟨⟨#[98]⟩, ⟨#[51]⟩⟩, ⟨⟨#[99]⟩, ⟨#[52]⟩⟩]
theorem lv_set : setAll lvA lvB = lvC := by kernel_rfl
theorem lv_nodup : NoDup lvA := by unfold NoDup; decide
theorem lv_check : checkE lvC = 0 := by kernel_rfl
theorem lv_print : bs (prL lvC) = ⟨#[97, 58, 49, 58, 49, 32, 98, 58, 49, 58, 51, 32, 99, 58, 49, 58, 52]⟩ := by
  have e : ∀ b : UInt8, digN (⟨#[b]⟩ : ByteArray).size = [49] := fun b => digN_lt (n := 1) (by omega)
  unfold prL prT lvC hdP
  simp only [List.flatMap_cons, List.flatMap_nil, e]
  rfl
set_option maxHeartbeats 1000000 in
theorem hlives_any (w : World) : Calls Tryd.prog 17 #[] w fun e w' => e = .returned (.bool true) ∧ Frm noB w w' := by
  have hA := (own_lit hdE w 25 lvA #[.string ⟨#[97]⟩, .string ⟨#[49]⟩, .string ⟨#[98]⟩, .string ⟨#[50]⟩] rfl 2 rfl 0 (Nat.zero_le _) (by omega)).keep ((Frm.refl noB _).alloc (.cells #[.string ⟨#[98]⟩, .string ⟨#[51]⟩, .string ⟨#[99]⟩, .string ⟨#[52]⟩] 25))
  have hB := own_lit hdE (w.alloc (.cells #[.string ⟨#[97]⟩, .string ⟨#[49]⟩, .string ⟨#[98]⟩, .string ⟨#[50]⟩] 25)) 25 lvB #[.string ⟨#[98]⟩, .string ⟨#[51]⟩, .string ⟨#[99]⟩, .string ⟨#[52]⟩] rfl 2 rfl 0 (Nat.zero_le _) (by omega)
  rw [World.size_alloc] at hB
  have hf0 : Frm noB w ((w.alloc (.cells #[.string ⟨#[97]⟩, .string ⟨#[49]⟩, .string ⟨#[98]⟩, .string ⟨#[50]⟩] 25)).alloc (.cells #[.string ⟨#[98]⟩, .string ⟨#[51]⟩, .string ⟨#[99]⟩, .string ⟨#[52]⟩] 25)) := ((Frm.refl _ _).alloc _).alloc _
  have hrA := hA.rdS
  have hrB := hB.rdS
  have HA := Lib.hid hA
  have HB := Lib.hid hB
  have Hf0 := Lib.hid hf0
  have HrA := Lib.hid hrA
  have HrB := Lib.hid hrB
  clear hA hB hf0 hrA hrB
  go_enter Tryd.func17, Tryd.ntmps17
  go_wp2_with fail
  refine (hset_any _ 2 2 lvA _ 2 2 lvB _ HrA.out (by intro x hx; simp at hx; subst hx; rfl) (by omega) lv_nodup HrB.out).mono ?_
  rintro e w1 ⟨v, rfl, ho, hf1⟩
  rw [lv_set] at ho
  obtain ⟨a, c, rfl, _, _⟩ := ho.shape
  have hrd := ho.rdS
  obtain ⟨hc1, hc2, _⟩ := ho.cap
  have hl3 : lvC.length = 3 := rfl
  rw [hl3] at hrd hc1 ho ⊢
  have hf2 := Hf0.out.trans hf1
  have Ho := Lib.hid ho
  have Hrd := Lib.hid hrd
  have Hf2 := Lib.hid hf2
  have Hl3 := Lib.hid hl3
  clear ho hrd hf2 hl3
  clear hf1
  go_wp2_with fail
  refine (print_any a 3 c lvC _ Hrd.out (by omega) (by decide)).mono ?_
  rintro e w2 ⟨rfl, hf3⟩
  rw [lv_print]
  have hrd2 := Hrd.out.keep hf3
  have hf4 := Hf2.out.trans hf3
  have Hrd2 := Lib.hid hrd2
  have Hf4 := Lib.hid hf4
  clear hrd2 hf4
  clear hf3
  go_wp2_with fail
  refine (check_any a 3 c lvC _ Hrd2.out hc1 hc2 (by decide)).mono ?_
  rintro e w3 ⟨rfl, hf5⟩
  rw [lv_check]
  have hf6 := Hf4.out.trans hf5
  have Hf6 := Lib.hid hf6
  clear hf6
  clear hf5
  go_wp2_with fail
  go_ret
  exact ⟨rfl, Hf6.out⟩
end Go.Proofs.YtgajlpahhfenaaaDoor
