/- Which heads may be. -/
import Derived.Test.YtjehdldjfnaniaaDoorHead
set_option linter.unusedVariables false
namespace Go.Proofs.YtjehdldjfnaniaaDoor
open Go.RowKit

def okNN (z : Nat) : Bool := decide (97 ≤ z ∧ z ≤ 122 ∨ 48 ≤ z ∧ z ≤ 57 ∨ z = 45)
def okVN (z : Nat) : Bool := decide (32 ≤ z ∧ z ≤ 126)
def okN (c : UInt8) : Bool := okNN c.toNat
def okV (c : UInt8) : Bool := okVN c.toNat
def mayB (h : Hd) : Bool := decide (1 ≤ h.name.size ∧ h.name.size ≤ 20 ∧ h.val.size ≤ 60) && (h.name.data.toList.all okN && h.val.data.toList.all okV)
def Upto (f : UInt8 → Bool) (s : ByteArray) (k : Nat) : Prop := (s.data.toList.take k).all f = true
theorem Upto.zero (f : UInt8 → Bool) (s : ByteArray) : Upto f s 0 := by simp [Upto]
theorem get_byte {s : ByteArray} {k : Nat} (h : k < s.size) : s.data.toList[k]? = some s[k] := by
  have h' : k < s.data.toList.length := by rw [ba_len]; exact h
  rw [List.getElem?_eq_getElem h']; rfl
theorem Upto.next {f : UInt8 → Bool} {s : ByteArray} {k : Nat} (hk : k < s.size) (h : Upto f s k) (hc : f s[k] = true) : Upto f s (k + 1) := by
  unfold Upto at *
  rw [List.take_add_one, get_byte hk, List.all_append, h]
  simpa using hc
theorem mayB_size (nm vl : ByteArray) (h : nm.size < 1 ∨ 20 < nm.size ∨ 60 < vl.size) : mayB ⟨nm, vl⟩ = false := by
  unfold mayB
  rw [decide_eq_false (by simp only; omega), Bool.false_and]
theorem not_all {f : UInt8 → Bool} {s : ByteArray} {k : Nat} (hk : k < s.size) (hc : f s[k] = false) : s.data.toList.all f = false := by
  rw [List.all_eq_false]
  exact ⟨s[k], List.mem_of_getElem? (get_byte hk), by rw [hc]; simp⟩
theorem mayB_name {nm vl : ByteArray} {k : Nat} (hk : k < nm.size) (hc : okN nm[k] = false) : mayB ⟨nm, vl⟩ = false := by
  unfold mayB; simp only; rw [not_all hk hc, Bool.false_and, Bool.and_false]
theorem mayB_val {nm vl : ByteArray} {k : Nat} (hk : k < vl.size) (hc : okV vl[k] = false) : mayB ⟨nm, vl⟩ = false := by
  unfold mayB; simp only; rw [not_all hk hc, Bool.and_false, Bool.and_false]
theorem Upto.all {f : UInt8 → Bool} {s : ByteArray} (h : Upto f s s.size) : s.data.toList.all f = true := by
  unfold Upto at h
  rwa [List.take_of_length_le (by rw [ba_len]; exact Nat.le_refl _)] at h
theorem mayB_yes {nm vl : ByteArray} (h1 : 1 ≤ nm.size) (h2 : nm.size ≤ 20) (h3 : vl.size ≤ 60) (h4 : Upto okN nm nm.size) (h5 : Upto okV vl vl.size) : mayB ⟨nm, vl⟩ = true := by
  unfold mayB; simp only; rw [h4.all, h5.all, decide_eq_true ⟨h1, h2, h3⟩]; rfl
attribute [irreducible] mayB

set_option maxHeartbeats 1000000 in
theorem may_any (nm vl : ByteArray) (w : World) (hn : nm.size ≤ 1000000) (hv : vl.size ≤ 1000000) :
    Calls Tryd.prog 46 #[.agg #[.string nm, .string vl]] w fun e w' => e = .returned (.bool (mayB ⟨nm, vl⟩)) ∧ w' = w.alloc (.cells #[.string nm, .string vl] 36) := by
  have hln := ba_len nm
  have hlv := ba_len vl
  have Hln := Lib.hid hln
  have Hlv := Lib.hid hlv
  clear hln hlv
  by_cases h1 : nm.size < 1
  · have hm := mayB_size nm vl (.inl h1)
    have Hm := Lib.hid hm
    clear hm
    go_enter Tryd.func46, Tryd.ntmps46
    go_wp2
    go_ret
    exact ⟨ret_bool Hm.out.symm, rfl⟩
  by_cases h2 : 20 < nm.size
  · have hm := mayB_size nm vl (.inr (.inl h2))
    have Hm := Lib.hid hm
    clear hm
    go_enter Tryd.func46, Tryd.ntmps46
    go_wp2
    go_ret
    exact ⟨ret_bool Hm.out.symm, rfl⟩
  by_cases h3 : 60 < vl.size
  · have hm := mayB_size nm vl (.inr (.inr h3))
    have Hm := Lib.hid hm
    clear hm
    go_enter Tryd.func46, Tryd.ntmps46
    go_wp2
    go_ret
    exact ⟨ret_bool Hm.out.symm, rfl⟩
  go_enter Tryd.func46, Tryd.ntmps46
  go_wp2_with fail
  go_loop [2, 25] (fun r i => ∃ k : Nat, k ≤ nm.size ∧ r = .bool false ∧ i = .int .i64 k ∧ Upto okN nm k) (fun _ i => nm.size - (intOf i).toNat)
  case atStart => exact ⟨0, by omega, rfl, rfl, Upto.zero _ _⟩
  case round =>
    obtain ⟨k, hk, rfl, rfl, hup⟩ := hrel
    by_cases hlt : k < nm.size
    · have hnx := fun h => Upto.next hlt hup (f := okN) h
      have hbad := fun h => mayB_name (vl := vl) hlt h
      have hz := nm[k].toNat_lt
      obtain ⟨z, hzz⟩ : ∃ z : Nat, z = nm[k].toNat := ⟨_, rfl⟩
      have hok : okN nm[k] = okNN z := by rw [hzz]; rfl
      rw [hok] at hnx hbad
      rw [← hzz] at hz
      have Hup := Lib.hid hup
      have Hnx := Lib.hid hnx
      have Hbad := Lib.hid hbad
      have Hok := Lib.hid hok
      clear hup hnx hbad hok
      have hcase : (97 ≤ z ∧ z ≤ 122) ∨ 122 < z ∨ z = 45 ∨ (z < 48 ∧ z ≠ 45) ∨ (48 ≤ z ∧ z ≤ 57) ∨ (57 < z ∧ z < 97) := by omega
      rcases hcase with hc | hc | hc | hc | hc | hc
      · have t1 : decide ((nm[k].toNat : Int) < 97) = false := decide_eq_false (by omega)
        have t2 : decide ((122 : Int) < (nm[k].toNat : Int)) = false := decide_eq_false (by omega)
        have t3 : decide ((nm[k].toNat : Int) < 48) = false := decide_eq_false (by omega)
        have t4 : decide ((57 : Int) < (nm[k].toNat : Int)) = true := decide_eq_true (by omega)
        have t5 : ((nm[k].toNat : Int) != 45) = true := by simp; omega
        have Hzz := Lib.hid hzz
        clear hzz
        go_wp2_with fail
        go_round
        case rel => exact ⟨k + 1, by omega, rfl, by go_num, Hnx.out (by unfold okNN; exact decide_eq_true (by omega))⟩
        case measure => simp [intOf]; omega
      · have t1 : decide ((nm[k].toNat : Int) < 97) = false := decide_eq_false (by omega)
        have t2 : decide ((122 : Int) < (nm[k].toNat : Int)) = true := decide_eq_true (by omega)
        have t3 : decide ((nm[k].toNat : Int) < 48) = false := decide_eq_false (by omega)
        have t4 : decide ((57 : Int) < (nm[k].toNat : Int)) = true := decide_eq_true (by omega)
        have t5 : ((nm[k].toNat : Int) != 45) = true := by simp; omega
        have Hzz := Lib.hid hzz
        clear hzz
        go_wp2_with fail
        go_ret
        exact ⟨ret_bool (Hbad.out (by unfold okNN; exact decide_eq_false (by omega))).symm, rfl⟩
      · have t1 : decide ((nm[k].toNat : Int) < 97) = true := decide_eq_true (by omega)
        have t2 : decide ((122 : Int) < (nm[k].toNat : Int)) = false := decide_eq_false (by omega)
        have t3 : decide ((nm[k].toNat : Int) < 48) = true := decide_eq_true (by omega)
        have t4 : decide ((57 : Int) < (nm[k].toNat : Int)) = false := decide_eq_false (by omega)
        have t5 : ((nm[k].toNat : Int) != 45) = false := by simp; omega
        have Hzz := Lib.hid hzz
        clear hzz
        go_wp2_with fail
        go_round
        case rel => exact ⟨k + 1, by omega, rfl, by go_num, Hnx.out (by unfold okNN; exact decide_eq_true (by omega))⟩
        case measure => simp [intOf]; omega
      · have t1 : decide ((nm[k].toNat : Int) < 97) = true := decide_eq_true (by omega)
        have t2 : decide ((122 : Int) < (nm[k].toNat : Int)) = false := decide_eq_false (by omega)
        have t3 : decide ((nm[k].toNat : Int) < 48) = true := decide_eq_true (by omega)
        have t4 : decide ((57 : Int) < (nm[k].toNat : Int)) = false := decide_eq_false (by omega)
        have t5 : ((nm[k].toNat : Int) != 45) = true := by simp; omega
        have Hzz := Lib.hid hzz
        clear hzz
        go_wp2_with fail
        go_ret
        exact ⟨ret_bool (Hbad.out (by unfold okNN; exact decide_eq_false (by omega))).symm, rfl⟩
      · have t1 : decide ((nm[k].toNat : Int) < 97) = true := decide_eq_true (by omega)
        have t2 : decide ((122 : Int) < (nm[k].toNat : Int)) = false := decide_eq_false (by omega)
        have t3 : decide ((nm[k].toNat : Int) < 48) = false := decide_eq_false (by omega)
        have t4 : decide ((57 : Int) < (nm[k].toNat : Int)) = false := decide_eq_false (by omega)
        have t5 : ((nm[k].toNat : Int) != 45) = true := by simp; omega
        have Hzz := Lib.hid hzz
        clear hzz
        go_wp2_with fail
        go_round
        case rel => exact ⟨k + 1, by omega, rfl, by go_num, Hnx.out (by unfold okNN; exact decide_eq_true (by omega))⟩
        case measure => simp [intOf]; omega
      · have t1 : decide ((nm[k].toNat : Int) < 97) = true := decide_eq_true (by omega)
        have t2 : decide ((122 : Int) < (nm[k].toNat : Int)) = false := decide_eq_false (by omega)
        have t3 : decide ((nm[k].toNat : Int) < 48) = false := decide_eq_false (by omega)
        have t4 : decide ((57 : Int) < (nm[k].toNat : Int)) = true := decide_eq_true (by omega)
        have t5 : ((nm[k].toNat : Int) != 45) = true := by simp; omega
        have Hzz := Lib.hid hzz
        clear hzz
        go_wp2_with fail
        go_ret
        exact ⟨ret_bool (Hbad.out (by unfold okNN; exact decide_eq_false (by omega))).symm, rfl⟩
    · obtain rfl : k = nm.size := by omega
      have Hup := Lib.hid hup
      clear hup
      go_wp2_with fail
      go_loop [2, 54] (fun r i => ∃ k : Nat, k ≤ vl.size ∧ r = .bool false ∧ i = .int .i64 k ∧ Upto okV vl k) (fun _ i => vl.size - (intOf i).toNat)
      case atStart => exact ⟨0, by omega, rfl, rfl, Upto.zero _ _⟩
      case round =>
        obtain ⟨k, hk, rfl, rfl, hup2⟩ := hrel
        by_cases hlt : k < vl.size
        · have hnx := fun h => Upto.next hlt hup2 (f := okV) h
          have hbad := fun h => mayB_val (nm := nm) hlt h
          have hz := vl[k].toNat_lt
          obtain ⟨z, hzz⟩ : ∃ z : Nat, z = vl[k].toNat := ⟨_, rfl⟩
          have hok : okV vl[k] = okVN z := by rw [hzz]; rfl
          rw [hok] at hnx hbad
          rw [← hzz] at hz
          have Hup2 := Lib.hid hup2
          have Hnx := Lib.hid hnx
          have Hbad := Lib.hid hbad
          have Hok := Lib.hid hok
          clear hup2 hnx hbad hok
          by_cases hz1 : z < 32
          · have hb1 : decide ((vl[k].toNat : Int) < 32) = true := decide_eq_true (by omega)
            have Hzz := Lib.hid hzz
            clear hzz
            go_wp2_with fail
            go_ret
            exact ⟨ret_bool (Hbad.out (by unfold okVN; exact decide_eq_false (by omega))).symm, rfl⟩
          · have hb1 : decide ((vl[k].toNat : Int) < 32) = false := decide_eq_false (by omega)
            by_cases hz2 : 126 < z
            · have hb2 : decide ((126 : Int) < (vl[k].toNat : Int)) = true := decide_eq_true (by omega)
              have Hzz := Lib.hid hzz
              clear hzz
              go_wp2_with fail
              go_ret
              exact ⟨ret_bool (Hbad.out (by unfold okVN; exact decide_eq_false (by omega))).symm, rfl⟩
            · have hb2 : decide ((126 : Int) < (vl[k].toNat : Int)) = false := decide_eq_false (by omega)
              have Hzz := Lib.hid hzz
              clear hzz
              go_wp2_with fail
              go_round
              case rel => exact ⟨k + 1, by omega, rfl, by go_num, Hnx.out (by unfold okVN; exact decide_eq_true (by omega))⟩
              case measure => simp [intOf]; omega
        · obtain rfl : k = vl.size := by omega
          have hm := mayB_yes (show 1 ≤ nm.size by omega) (show nm.size ≤ 20 by omega) (show vl.size ≤ 60 by omega) Hup.out hup2
          have Hup2 := Lib.hid hup2
          have Hm := Lib.hid hm
          clear hup2 hm
          go_wp2_with fail
          go_ret
          exact ⟨ret_bool Hm.out.symm, rfl⟩

set_option maxHeartbeats 1000000 in
theorem ref_may (nm vl : ByteArray) (w : World) (hn : nm.size ≤ 1000000) (hv : vl.size ≤ 1000000) :
    Calls Tryd.prog 47 #[.agg #[.string nm, .string vl]] w fun e w' => e = .returned (.bool (mayB ⟨nm, vl⟩)) ∧ w' = w.alloc (.cells #[.string nm, .string vl] 36) := by
  have hln := ba_len nm
  have hlv := ba_len vl
  have Hln := Lib.hid hln
  have Hlv := Lib.hid hlv
  clear hln hlv
  by_cases h1 : nm.size < 1
  · have hm := mayB_size nm vl (.inl h1)
    have Hm := Lib.hid hm
    clear hm
    go_enter Tryd.func47, Tryd.ntmps47
    go_wp2
    go_ret
    exact ⟨ret_bool Hm.out.symm, rfl⟩
  by_cases h2 : 20 < nm.size
  · have hm := mayB_size nm vl (.inr (.inl h2))
    have Hm := Lib.hid hm
    clear hm
    go_enter Tryd.func47, Tryd.ntmps47
    go_wp2
    go_ret
    exact ⟨ret_bool Hm.out.symm, rfl⟩
  by_cases h3 : 60 < vl.size
  · have hm := mayB_size nm vl (.inr (.inr h3))
    have Hm := Lib.hid hm
    clear hm
    go_enter Tryd.func47, Tryd.ntmps47
    go_wp2
    go_ret
    exact ⟨ret_bool Hm.out.symm, rfl⟩
  go_enter Tryd.func47, Tryd.ntmps47
  go_wp2_with fail
  go_loop [2, 3] (fun r i => ∃ k : Nat, k ≤ nm.size ∧ r = .bool false ∧ i = .int .i64 k ∧ Upto okN nm k) (fun _ i => nm.size - (intOf i).toNat)
  case atStart => exact ⟨0, by omega, rfl, rfl, Upto.zero _ _⟩
  case round =>
    obtain ⟨k, hk, rfl, rfl, hup⟩ := hrel
    by_cases hlt : k < nm.size
    · have hnx := fun h => Upto.next hlt hup (f := okN) h
      have hbad := fun h => mayB_name (vl := vl) hlt h
      have hz := nm[k].toNat_lt
      obtain ⟨z, hzz⟩ : ∃ z : Nat, z = nm[k].toNat := ⟨_, rfl⟩
      have hok : okN nm[k] = okNN z := by rw [hzz]; rfl
      rw [hok] at hnx hbad
      rw [← hzz] at hz
      have Hup := Lib.hid hup
      have Hnx := Lib.hid hnx
      have Hbad := Lib.hid hbad
      have Hok := Lib.hid hok
      clear hup hnx hbad hok
      have hcase : (97 ≤ z ∧ z ≤ 122) ∨ 122 < z ∨ z = 45 ∨ (z < 48 ∧ z ≠ 45) ∨ (48 ≤ z ∧ z ≤ 57) ∨ (57 < z ∧ z < 97) := by omega
      rcases hcase with hc | hc | hc | hc | hc | hc
      · have t1 : decide ((nm[k].toNat : Int) < 97) = false := decide_eq_false (by omega)
        have t2 : decide ((122 : Int) < (nm[k].toNat : Int)) = false := decide_eq_false (by omega)
        have t3 : decide ((nm[k].toNat : Int) < 48) = false := decide_eq_false (by omega)
        have t4 : decide ((57 : Int) < (nm[k].toNat : Int)) = true := decide_eq_true (by omega)
        have t5 : ((nm[k].toNat : Int) != 45) = true := by simp; omega
        have Hzz := Lib.hid hzz
        clear hzz
        go_wp2_with fail
        go_round
        case rel => exact ⟨k + 1, by omega, rfl, by go_num, Hnx.out (by unfold okNN; exact decide_eq_true (by omega))⟩
        case measure => simp [intOf]; omega
      · have t1 : decide ((nm[k].toNat : Int) < 97) = false := decide_eq_false (by omega)
        have t2 : decide ((122 : Int) < (nm[k].toNat : Int)) = true := decide_eq_true (by omega)
        have t3 : decide ((nm[k].toNat : Int) < 48) = false := decide_eq_false (by omega)
        have t4 : decide ((57 : Int) < (nm[k].toNat : Int)) = true := decide_eq_true (by omega)
        have t5 : ((nm[k].toNat : Int) != 45) = true := by simp; omega
        have Hzz := Lib.hid hzz
        clear hzz
        go_wp2_with fail
        go_ret
        exact ⟨ret_bool (Hbad.out (by unfold okNN; exact decide_eq_false (by omega))).symm, rfl⟩
      · have t1 : decide ((nm[k].toNat : Int) < 97) = true := decide_eq_true (by omega)
        have t2 : decide ((122 : Int) < (nm[k].toNat : Int)) = false := decide_eq_false (by omega)
        have t3 : decide ((nm[k].toNat : Int) < 48) = true := decide_eq_true (by omega)
        have t4 : decide ((57 : Int) < (nm[k].toNat : Int)) = false := decide_eq_false (by omega)
        have t5 : ((nm[k].toNat : Int) != 45) = false := by simp; omega
        have Hzz := Lib.hid hzz
        clear hzz
        go_wp2_with fail
        go_round
        case rel => exact ⟨k + 1, by omega, rfl, by go_num, Hnx.out (by unfold okNN; exact decide_eq_true (by omega))⟩
        case measure => simp [intOf]; omega
      · have t1 : decide ((nm[k].toNat : Int) < 97) = true := decide_eq_true (by omega)
        have t2 : decide ((122 : Int) < (nm[k].toNat : Int)) = false := decide_eq_false (by omega)
        have t3 : decide ((nm[k].toNat : Int) < 48) = true := decide_eq_true (by omega)
        have t4 : decide ((57 : Int) < (nm[k].toNat : Int)) = false := decide_eq_false (by omega)
        have t5 : ((nm[k].toNat : Int) != 45) = true := by simp; omega
        have Hzz := Lib.hid hzz
        clear hzz
        go_wp2_with fail
        go_ret
        exact ⟨ret_bool (Hbad.out (by unfold okNN; exact decide_eq_false (by omega))).symm, rfl⟩
      · have t1 : decide ((nm[k].toNat : Int) < 97) = true := decide_eq_true (by omega)
        have t2 : decide ((122 : Int) < (nm[k].toNat : Int)) = false := decide_eq_false (by omega)
        have t3 : decide ((nm[k].toNat : Int) < 48) = false := decide_eq_false (by omega)
        have t4 : decide ((57 : Int) < (nm[k].toNat : Int)) = false := decide_eq_false (by omega)
        have t5 : ((nm[k].toNat : Int) != 45) = true := by simp; omega
        have Hzz := Lib.hid hzz
        clear hzz
        go_wp2_with fail
        go_round
        case rel => exact ⟨k + 1, by omega, rfl, by go_num, Hnx.out (by unfold okNN; exact decide_eq_true (by omega))⟩
        case measure => simp [intOf]; omega
      · have t1 : decide ((nm[k].toNat : Int) < 97) = true := decide_eq_true (by omega)
        have t2 : decide ((122 : Int) < (nm[k].toNat : Int)) = false := decide_eq_false (by omega)
        have t3 : decide ((nm[k].toNat : Int) < 48) = false := decide_eq_false (by omega)
        have t4 : decide ((57 : Int) < (nm[k].toNat : Int)) = true := decide_eq_true (by omega)
        have t5 : ((nm[k].toNat : Int) != 45) = true := by simp; omega
        have Hzz := Lib.hid hzz
        clear hzz
        go_wp2_with fail
        go_ret
        exact ⟨ret_bool (Hbad.out (by unfold okNN; exact decide_eq_false (by omega))).symm, rfl⟩
    · obtain rfl : k = nm.size := by omega
      have Hup := Lib.hid hup
      clear hup
      go_wp2_with fail
      go_loop [2, 5] (fun r i => ∃ k : Nat, k ≤ vl.size ∧ r = .bool false ∧ i = .int .i64 k ∧ Upto okV vl k) (fun _ i => vl.size - (intOf i).toNat)
      case atStart => exact ⟨0, by omega, rfl, rfl, Upto.zero _ _⟩
      case round =>
        obtain ⟨k, hk, rfl, rfl, hup2⟩ := hrel
        by_cases hlt : k < vl.size
        · have hnx := fun h => Upto.next hlt hup2 (f := okV) h
          have hbad := fun h => mayB_val (nm := nm) hlt h
          have hz := vl[k].toNat_lt
          obtain ⟨z, hzz⟩ : ∃ z : Nat, z = vl[k].toNat := ⟨_, rfl⟩
          have hok : okV vl[k] = okVN z := by rw [hzz]; rfl
          rw [hok] at hnx hbad
          rw [← hzz] at hz
          have Hup2 := Lib.hid hup2
          have Hnx := Lib.hid hnx
          have Hbad := Lib.hid hbad
          have Hok := Lib.hid hok
          clear hup2 hnx hbad hok
          by_cases hz1 : z < 32
          · have hb1 : decide ((vl[k].toNat : Int) < 32) = true := decide_eq_true (by omega)
            have Hzz := Lib.hid hzz
            clear hzz
            go_wp2_with fail
            go_ret
            exact ⟨ret_bool (Hbad.out (by unfold okVN; exact decide_eq_false (by omega))).symm, rfl⟩
          · have hb1 : decide ((vl[k].toNat : Int) < 32) = false := decide_eq_false (by omega)
            by_cases hz2 : 126 < z
            · have hb2 : decide ((126 : Int) < (vl[k].toNat : Int)) = true := decide_eq_true (by omega)
              have Hzz := Lib.hid hzz
              clear hzz
              go_wp2_with fail
              go_ret
              exact ⟨ret_bool (Hbad.out (by unfold okVN; exact decide_eq_false (by omega))).symm, rfl⟩
            · have hb2 : decide ((126 : Int) < (vl[k].toNat : Int)) = false := decide_eq_false (by omega)
              have Hzz := Lib.hid hzz
              clear hzz
              go_wp2_with fail
              go_round
              case rel => exact ⟨k + 1, by omega, rfl, by go_num, Hnx.out (by unfold okVN; exact decide_eq_true (by omega))⟩
              case measure => simp [intOf]; omega
        · obtain rfl : k = vl.size := by omega
          have hm := mayB_yes (show 1 ≤ nm.size by omega) (show nm.size ≤ 20 by omega) (show vl.size ≤ 60 by omega) Hup.out hup2
          have Hup2 := Lib.hid hup2
          have Hm := Lib.hid hm
          clear hup2 hm
          go_wp2_with fail
          go_ret
          exact ⟨ret_bool Hm.out.symm, rfl⟩
end Go.Proofs.YtjehdldjfnaniaaDoor
