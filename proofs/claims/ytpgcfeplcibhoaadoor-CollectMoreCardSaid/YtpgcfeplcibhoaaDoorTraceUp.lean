/- strings.LastIndexByte, ctx.Up, trace.Before. -/
import Derived.Test.YtpgcfeplcibhoaaDoorTraceRef
set_option linter.unusedVariables false
namespace Go.Proofs.YtpgcfeplcibhoaaDoor
open Go.RowKit

def upL (l : List UInt8) : List UInt8 := l.take (lastN 47 l - 1)
theorem lastN_le (c : UInt8) (l : List UInt8) : lastN c l ≤ l.length := by
  cases h : lastN c l with
  | zero => omega
  | succ k => have := (lastN_split h).1; omega
theorem upL_len {l : List UInt8} (h : upL l ≠ []) : (upL l).length < l.length := by
  unfold upL at *
  cases hl : lastN 47 l with
  | zero => rw [hl] at h; simp at h
  | succ k =>
    have := (lastN_split hl).1
    rw [List.length_take]; omega
/-- What is around a name, from the nearest on. -/
def ups (l : List UInt8) : List (List UInt8) := if h : upL l = [] then [] else upL l :: ups (upL l)
termination_by l.length
decreasing_by exact upL_len h
theorem ups_nil {l : List UInt8} (h : upL l = []) : ups l = [] := by rw [ups, dif_pos h]
theorem ups_cons {l : List UInt8} (h : upL l ≠ []) : ups l = upL l :: ups (upL l) := by rw [ups, dif_neg h]
def befL (a b : List UInt8) : Bool := (ups b).contains a

set_option maxHeartbeats 400000 in
theorem lib_str_any (s : ByteArray) (c : UInt8) (w : World) (hs : s.size ≤ 1000000) :
    Calls Tryd.prog 57 #[.string s, .int .u8 (c.toNat : Int)] w fun e w' => e = .returned (.int .i64 ((lastN c s.data.toList : Int) - 1)) ∧ w = w' := by
  have hlen := ba_len s
  have Hlen := Lib.hid hlen
  clear hlen
  go_enter Tryd.func57, Tryd.ntmps57
  go_wp2_with fail
  go_loop [4, 5] (fun r i => ∃ j : Nat, j ≤ s.size ∧ r = .int .i64 0 ∧ i = .int .i64 ((j : Int) - 1) ∧ c ∉ s.data.toList.drop j) (fun _ i => (intOf i + 1).toNat)
  case atStart => exact ⟨s.size, Nat.le_refl _, rfl, rfl, by rw [List.drop_of_length_le (by rw [Hlen.out]; exact Nat.le_refl _)]; simp⟩
  case round =>
    obtain ⟨j, hj, rfl, rfl, hno⟩ := hrel
    by_cases h0 : 0 < j
    · obtain ⟨k, rfl⟩ : ∃ k, j = k + 1 := ⟨j - 1, by omega⟩
      have hlt : k < s.size := by omega
      have hdc := drop_cons (byte_at hlt)
      by_cases hc : s[k] = c
      · have hb : ((s[k].toNat : Int) == (c.toNat : Int)) = true := byte_yes (d := c) rfl hc
        have hl : lastN c s.data.toList = k + 1 := by
          rw [← List.take_append_drop k s.data.toList, hdc, hc, lastN_app _ _ _ hno, List.length_take, Hlen.out]
          omega
        have Hl := Lib.hid hl
        have Hno := Lib.hid hno
        clear hl hno
        clear hdc hc
        go_wp2_with fail
        go_ret
        exact ⟨ret_int (by rw [Hl.out]; omega), rfl⟩
      · have hb : ((s[k].toNat : Int) == (c.toNat : Int)) = false := byte_no (d := c) rfl hc
        have hno2 : c ∉ s.data.toList.drop k := by rw [hdc]; simp [hno]; exact fun e => hc e.symm
        have Hno2 := Lib.hid hno2
        clear hno2
        clear hdc hc hno
        go_wp2_with fail
        go_round
        case rel => exact ⟨k, by omega, rfl, by first | rfl | go_num, Hno2.out⟩
        case measure => simp [intOf]
    · obtain rfl : j = 0 := by omega
      have hl : lastN c s.data.toList = 0 := lastN_zero.2 (by simpa using hno)
      have Hl := Lib.hid hl
      clear hl
      clear hno
      go_wp2_with fail
      go_ret
      exact ⟨ret_int (by rw [Hl.out]; rfl), rfl⟩
set_option maxHeartbeats 400000 in
theorem up_any (s : ByteArray) (w : World) (hs : s.size ≤ 1000000) :
    Calls Tryd.prog 24 #[.string s] w fun e w' => e = .returned (.string (bs (upL s.data.toList))) ∧ w = w' := by
  have hlast : ∀ w, Calls Tryd.prog 44 #[.string s, .int .u8 47] w fun e w' => e = .returned (.int .i64 ((lastN 47 s.data.toList : Int) - 1)) ∧ w = w' := by
    intro w
    go_enter Tryd.func44, Tryd.ntmps44
    go_wp2_with fail
    refine (lib_str_any s 47 w hs).mono ?_
    rintro e w' ⟨rfl, rfl⟩
    go_wp2_with fail
    go_ret
    exact ⟨rfl, rfl⟩
  have hx : s.extract 0 (lastN 47 s.data.toList - 1) = bs (upL s.data.toList) := by rw [ext_take]; rfl
  have hle := lastN_le 47 s.data.toList
  rw [ba_len] at hle
  have Hlast := Lib.hid hlast
  clear hlast
  by_cases h0 : 0 < lastN 47 s.data.toList
  · obtain ⟨k, hk⟩ : ∃ k, lastN 47 s.data.toList = k + 1 := ⟨lastN 47 s.data.toList - 1, by omega⟩
    rw [hk] at hx hle
    have hl2 : ∀ w, Calls Tryd.prog 44 #[.string s, .int .u8 47] w fun e w' => e = .returned (.int .i64 (k : Int)) ∧ w = w' := fun w => (Hlast.out w).mono fun e w' ⟨he, hw⟩ => ⟨by rw [he, hk]; exact ret_int (by omega), hw⟩
    have hx2 : s.extract 0 k = bs (upL s.data.toList) := hx
    have Hl2 := Lib.hid hl2
    have Hx2 := Lib.hid hx2
    clear hl2 hx2
    clear hx hk h0
    go_enter Tryd.func24, Tryd.ntmps24
    go_wp2_with fail
    refine (Hl2.out _).mono ?_
    rintro e w' ⟨rfl, rfl⟩
    go_wp2
    all_goals
      go_ret
      exact ⟨congrArg (fun x => Ending.returned (Value.string x)) Hx2.out, rfl⟩
  · have hk : lastN 47 s.data.toList = 0 := by omega
    rw [hk] at hx
    have hl2 : ∀ w, Calls Tryd.prog 44 #[.string s, .int .u8 47] w fun e w' => e = .returned (.int .i64 (-1)) ∧ w = w' := fun w => (Hlast.out w).mono fun e w' ⟨he, hw⟩ => ⟨by rw [he, hk]; exact ret_int (by omega), hw⟩
    have hx2 : s.extract 0 0 = bs (upL s.data.toList) := hx
    have Hl2 := Lib.hid hl2
    have Hx2 := Lib.hid hx2
    clear hl2 hx2
    clear hx hk h0
    go_enter Tryd.func24, Tryd.ntmps24
    go_wp2_with fail
    refine (Hl2.out _).mono ?_
    rintro e w' ⟨rfl, rfl⟩
    go_wp2
    go_ret
    exact ⟨congrArg (fun x => Ending.returned (Value.string x)) (by simpa using Hx2.out), rfl⟩
theorem upL_le (l : List UInt8) : (upL l).length ≤ l.length := by unfold upL; rw [List.length_take]; omega

/-- Before's own function: one name up. -/
def UpIs (c : Nat) (l : List UInt8) (w : World) (e : Ending) (w' : World) : Prop := e = .returned (.bool (!(upL l).isEmpty)) ∧ w' = w.setCell ⟨c, 0, none⟩ (.string (bs (upL l)))
theorem bs_isEmpty (l : List UInt8) : (bs l).toList.isEmpty = l.isEmpty := by rw [ByteArray.toList_eq]; rfl
end Go.Proofs.YtpgcfeplcibhoaaDoor
