/- strings.LastIndexByte, ctx.Up, trace.Before. -/
import Derived.Test.YtnmcdecdgcnmbaaTraceRef
set_option linter.unusedVariables false
namespace Go.Proofs.Ytnmcdecdgcnmbaa
open Go.RowKit

def upL (l : List UInt8) : List UInt8 := l.take (lastN 47 l - 1)
theorem lastN_le (c : UInt8) (l : List UInt8) : lastN c l ≤ l.length := by
  cases h : lastN c l with
  | zero => omega
  | succ k => have := (lastN_split h).1; omega
theorem upL_len {l : List UInt8} (h : upL l ≠ []) : (upL l).length < l.length := by
  unfold upL at *
  cases hl : lastN 47 l with
  | zero => rw [hl] at h; simp at h
  | succ k =>
    have := (lastN_split hl).1
    rw [List.length_take]; omega
/-- What is around a name, from the nearest on. -/
def ups (l : List UInt8) : List (List UInt8) := if h : upL l = [] then [] else upL l :: ups (upL l)
termination_by l.length
decreasing_by exact upL_len h
theorem ups_nil {l : List UInt8} (h : upL l = []) : ups l = [] := by rw [ups, dif_pos h]
theorem ups_cons {l : List UInt8} (h : upL l ≠ []) : ups l = upL l :: ups (upL l) := by rw [ups, dif_neg h]
def befL (a b : List UInt8) : Bool := (ups b).contains a

set_option maxHeartbeats 400000 in
theorem lib_str_any (s : ByteArray) (c : UInt8) (w : World) (hs : s.size ≤ 1000000) :
    Calls Try.prog 37 #[.string s, .int .u8 (c.toNat : Int)] w fun e w' => e = .returned (.int .i64 ((lastN c s.data.toList : Int) - 1)) ∧ w = w' := by
  have hlen := ba_len s
  have Hlen := Lib.hid hlen
  clear hlen
  go_enter Try.func37, Try.ntmps37
  go_wp2_with fail
  go_loop [4, 5] (fun r i => ∃ j : Nat, j ≤ s.size ∧ r = .int .i64 0 ∧ i = .int .i64 ((j : Int) - 1) ∧ c ∉ s.data.toList.drop j) (fun _ i => (intOf i + 1).toNat)
  case atStart => exact ⟨s.size, Nat.le_refl _, rfl, rfl, by rw [List.drop_of_length_le (by rw [Hlen.out]; exact Nat.le_refl _)]; simp⟩
  case round =>
    obtain ⟨j, hj, rfl, rfl, hno⟩ := hrel
    by_cases h0 : 0 < j
    · obtain ⟨k, rfl⟩ : ∃ k, j = k + 1 := ⟨j - 1, by omega⟩
      have hlt : k < s.size := by omega
      have hdc := drop_cons (byte_at hlt)
      by_cases hc : s[k] = c
      · have hb : ((s[k].toNat : Int) == (c.toNat : Int)) = true := byte_yes (d := c) rfl hc
        have hl : lastN c s.data.toList = k + 1 := by
          rw [← List.take_append_drop k s.data.toList, hdc, hc, lastN_app _ _ _ hno, List.length_take, Hlen.out]
          omega
        have Hl := Lib.hid hl
        have Hno := Lib.hid hno
        clear hl hno
        clear hdc hc
        go_wp2_with fail
        go_ret
        exact ⟨ret_int (by rw [Hl.out]; omega), rfl⟩
      · have hb : ((s[k].toNat : Int) == (c.toNat : Int)) = false := byte_no (d := c) rfl hc
        have hno2 : c ∉ s.data.toList.drop k := by rw [hdc]; simp [hno]; exact fun e => hc e.symm
        have Hno2 := Lib.hid hno2
        clear hno2
        clear hdc hc hno
        go_wp2_with fail
        go_round
        case rel => exact ⟨k, by omega, rfl, by first | rfl | go_num, Hno2.out⟩
        case measure => simp [intOf]
    · obtain rfl : j = 0 := by omega
      have hl : lastN c s.data.toList = 0 := lastN_zero.2 (by simpa using hno)
      have Hl := Lib.hid hl
      clear hl
      clear hno
      go_wp2_with fail
      go_ret
      exact ⟨ret_int (by rw [Hl.out]; rfl), rfl⟩
set_option maxHeartbeats 400000 in
theorem up_any (s : ByteArray) (w : World) (hs : s.size ≤ 1000000) :
    Calls Try.prog 23 #[.string s] w fun e w' => e = .returned (.string (bs (upL s.data.toList))) ∧ w = w' := by
  have hlast : ∀ w, Calls Try.prog 32 #[.string s, .int .u8 47] w fun e w' => e = .returned (.int .i64 ((lastN 47 s.data.toList : Int) - 1)) ∧ w = w' := by
    intro w
    go_enter Try.func32, Try.ntmps32
    go_wp2_with fail
    refine (lib_str_any s 47 w hs).mono ?_
    rintro e w' ⟨rfl, rfl⟩
    go_wp2_with fail
    go_ret
    exact ⟨rfl, rfl⟩
  have hx : s.extract 0 (lastN 47 s.data.toList - 1) = bs (upL s.data.toList) := by rw [ext_take]; rfl
  have hle := lastN_le 47 s.data.toList
  rw [ba_len] at hle
  have Hlast := Lib.hid hlast
  clear hlast
  by_cases h0 : 0 < lastN 47 s.data.toList
  · obtain ⟨k, hk⟩ : ∃ k, lastN 47 s.data.toList = k + 1 := ⟨lastN 47 s.data.toList - 1, by omega⟩
    rw [hk] at hx hle
    have hl2 : ∀ w, Calls Try.prog 32 #[.string s, .int .u8 47] w fun e w' => e = .returned (.int .i64 (k : Int)) ∧ w = w' := fun w => (Hlast.out w).mono fun e w' ⟨he, hw⟩ => ⟨by rw [he, hk]; exact ret_int (by omega), hw⟩
    have hx2 : s.extract 0 k = bs (upL s.data.toList) := hx
    have Hl2 := Lib.hid hl2
    have Hx2 := Lib.hid hx2
    clear hl2 hx2
    clear hx hk h0
    go_enter Try.func23, Try.ntmps23
    go_wp2_with fail
    refine (Hl2.out _).mono ?_
    rintro e w' ⟨rfl, rfl⟩
    go_wp2
    all_goals
      go_ret
      exact ⟨congrArg (fun x => Ending.returned (Value.string x)) Hx2.out, rfl⟩
  · have hk : lastN 47 s.data.toList = 0 := by omega
    rw [hk] at hx
    have hl2 : ∀ w, Calls Try.prog 32 #[.string s, .int .u8 47] w fun e w' => e = .returned (.int .i64 (-1)) ∧ w = w' := fun w => (Hlast.out w).mono fun e w' ⟨he, hw⟩ => ⟨by rw [he, hk]; exact ret_int (by omega), hw⟩
    have hx2 : s.extract 0 0 = bs (upL s.data.toList) := hx
    have Hl2 := Lib.hid hl2
    have Hx2 := Lib.hid hx2
    clear hl2 hx2
    clear hx hk h0
    go_enter Try.func23, Try.ntmps23
    go_wp2_with fail
    refine (Hl2.out _).mono ?_
    rintro e w' ⟨rfl, rfl⟩
    go_wp2
    go_ret
    exact ⟨congrArg (fun x => Ending.returned (Value.string x)) (by simpa using Hx2.out), rfl⟩
theorem upL_le (l : List UInt8) : (upL l).length ≤ l.length := by unfold upL; rw [List.length_take]; omega

/-- Before's own function: one name up. -/
def UpIs (c : Nat) (l : List UInt8) (w : World) (e : Ending) (w' : World) : Prop := e = .returned (.bool (!(upL l).isEmpty)) ∧ w' = w.setCell ⟨c, 0, none⟩ (.string (bs (upL l)))
theorem bs_isEmpty (l : List UInt8) : (bs l).toList.isEmpty = l.isEmpty := by rw [ByteArray.toList_eq]; rfl
set_option maxHeartbeats 400000 in
theorem up_step (c : Nat) (l : List UInt8) (w : World) (hc : Blk w c #[.string (bs l)] 9) (hs : l.length ≤ 1000000) :
    Calls Try.prog 31 #[.pointer (some ⟨c, 0, none⟩)] w (UpIs c l w) := by
  have h0 := hc.cell 0
  have f0 := hc.free 0
  have hlt := hc.lt
  simp at h0
  have h1 := (hc.set 0 (.string (bs (upL l)))).cell 0
  simp at h1
  have Hc := Lib.hid hc
  clear hc
  go_enter Try.func31, Try.ntmps31
  go_wp2_with fail
  refine (up_any (bs l) _ (by rw [bs_size]; exact hs)).mono ?_
  rintro e w' ⟨rfl, rfl⟩
  rw [bs_list]
  go_wp2_with fail
  go_ret
  exact ⟨ret_bool (by rw [bs_isEmpty]), rfl⟩

set_option maxHeartbeats 1000000 in
theorem before_any (s t : ByteArray) (w : World) (hs : t.size ≤ 1000000) :
    Calls Try.prog 22 #[.string s, .string t] w fun e w' => e = .returned (.bool (befL s.data.toList t.data.toList)) ∧ Frm noB w w' := by
  have hlen : t.data.toList.length ≤ 1000000 := by rw [ba_len]; exact hs
  obtain ⟨l, rfl⟩ : ∃ l, t = bs l := ⟨t.data.toList, (bs_of t).symm⟩
  rw [bs_list] at hlen ⊢
  have Hb : Hid (Blk (w.alloc (.cells #[.string (bs l)] 9)) w.heap.size #[.string (bs l)] 9) := Lib.hid (Blk.made w _ _)
  clear hs
  go_enter Try.func22, Try.ntmps22
  go_wp2_with fail
  go_loopw [4, 10] (fun r _ wr => ∃ m : List UInt8, r = .bool false ∧ m.length ≤ l.length ∧ Blk wr w.heap.size #[.string (bs m)] 9 ∧ Frm noB w wr ∧ befL s.data.toList l = befL s.data.toList m) (fun _ _ wr => match wr.cell? ⟨w.heap.size, 0, none⟩ with | some (.string x) => x.size | _ => 0)
  case atStart => exact ⟨l, rfl, Nat.le_refl _, Hb.out, (Frm.refl _ _).alloc _, rfl⟩
  case round =>
    obtain ⟨m, rfl, hm, hb_, hf, he⟩ := hrel
    have hc := hb_.cell 0
    have hlt := hb_.lt
    simp at hc
    have hb2 := hb_.set 0 (.string (bs (upL m)))
    have hc2 := hb2.cell 0
    simp at hb2 hc2
    have hf2 := hf.setNew (p := ⟨w.heap.size, 0, none⟩) (Nat.le_refl _) (.string (bs (upL m)))
    cases hu : (upL m).isEmpty
    · have hne : upL m ≠ [] := fun e => by rw [e] at hu; simp at hu
      have hub : befL s.data.toList m = (decide (upL m = s.data.toList) || befL s.data.toList (upL m)) := by
        unfold befL
        rw [ups_cons hne, List.contains_cons]
        congr 1
        by_cases h : upL m = s.data.toList
        · rw [h]; simp
        · rw [decide_eq_false h]; exact beq_eq_false_iff_ne.2 (fun e => h e.symm)
      have hul := upL_len hne
      by_cases hq : upL m = s.data.toList
      · have hst : ((bs (upL m)).toList == s.toList) = true := by rw [str_beq]; exact decide_eq_true hq
        have hv : befL s.data.toList l = true := by rw [he, hub, decide_eq_true hq]; rfl
        have Hb_ := Lib.hid hb_
        have Hf := Lib.hid hf
        have He := Lib.hid he
        have Hb2 := Lib.hid hb2
        have Hf2 := Lib.hid hf2
        have Hu := Lib.hid hu
        have Hne := Lib.hid hne
        have Hub := Lib.hid hub
        have Hv := Lib.hid hv
        have Hq := Lib.hid hq
        clear hb_ hf he hb2 hf2 hu hne hub hv hq
        go_wp2_with fail
        refine (up_step w.heap.size m wr Hb_.out (by omega)).mono ?_
        rintro e w1 ⟨rfl, rfl⟩
        rw [Hu.out]
        go_wp2_with fail
        go_ret
        exact ⟨ret_bool Hv.out.symm, Hf2.out⟩
      · have hst : ((bs (upL m)).toList == s.toList) = false := by rw [str_beq]; exact decide_eq_false hq
        have hv : befL s.data.toList l = befL s.data.toList (upL m) := by rw [he, hub, decide_eq_false hq]; rfl
        have hme : (match (wr.setCell ⟨w.heap.size, 0, none⟩ (.string (bs (upL m)))).cell? ⟨w.heap.size, 0, none⟩ with | some (.string x) => x.size | _ => 0) < (match wr.cell? ⟨w.heap.size, 0, none⟩ with | some (.string x) => x.size | _ => 0) := by
          rw [hc2, hc]; simp only [bs_size]; exact hul
        have Hb_ := Lib.hid hb_
        have Hf := Lib.hid hf
        have He := Lib.hid he
        have Hb2 := Lib.hid hb2
        have Hf2 := Lib.hid hf2
        have Hu := Lib.hid hu
        have Hne := Lib.hid hne
        have Hub := Lib.hid hub
        have Hv := Lib.hid hv
        have Hq := Lib.hid hq
        have Hme := Lib.hid hme
        clear hb_ hf he hb2 hf2 hu hne hub hv hq hme
        go_wp2_with fail
        refine (up_step w.heap.size m wr Hb_.out (by omega)).mono ?_
        rintro e w1 ⟨rfl, rfl⟩
        rw [Hu.out]
        go_wp2_with fail
        go_roundw
        case rel => exact ⟨upL m, rfl, by omega, Hb2.out, Hf2.out, Hv.out⟩
        case measure => exact Hme.out
    · have hn : befL s.data.toList m = false := by
        unfold befL
        rw [ups_nil (List.isEmpty_iff.1 hu)]; rfl
      have Hb_ := Lib.hid hb_
      have Hf := Lib.hid hf
      have He := Lib.hid he
      have Hb2 := Lib.hid hb2
      have Hf2 := Lib.hid hf2
      have Hu := Lib.hid hu
      have Hn := Lib.hid hn
      clear hb_ hf he hb2 hf2 hu hn
      go_wp2_with fail
      refine (up_step w.heap.size m wr Hb_.out (by omega)).mono ?_
      rintro e w1 ⟨rfl, rfl⟩
      rw [Hu.out]
      go_wp2_with fail
      go_ret
      exact ⟨ret_bool (by rw [He.out, Hn.out]), Hf2.out⟩
end Go.Proofs.Ytnmcdecdgcnmbaa
