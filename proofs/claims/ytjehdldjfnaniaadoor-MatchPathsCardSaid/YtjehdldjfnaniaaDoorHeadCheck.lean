/- Check of heads; Get of the reference. -/
import Derived.Test.YtjehdldjfnaniaaDoorHeadMay
set_option linter.unusedVariables false
namespace Go.Proofs.YtjehdldjfnaniaaDoor
open Go.RowKit

def hasN (l : List Hd) (s : ByteArray) : Bool := l.any fun h => decide (h.name = s)
theorem hasN_iff (l : List Hd) (s : ByteArray) : hasN l s = true ↔ ∃ x ∈ l, x.name = s := by
  unfold hasN; rw [List.any_eq_true]; simp
theorem hasN_pl (l : List Hd) (s : ByteArray) : hasN l s = decide (plN l s < l.length) := by
  cases h : hasN l s
  · rw [plN_none (fun j y hy e => ?_), decide_eq_false (Nat.lt_irrefl _)]
    have := (hasN_iff l s).2 ⟨y, List.mem_of_getElem? hy, e⟩
    rw [this] at h; simp at h
  · obtain ⟨x, hx, e⟩ := (hasN_iff l s).1 h
    exact (decide_eq_true (List.findIdx_lt_length_of_exists ⟨x, hx, by simpa using e⟩)).symm
theorem hasN_get (l : List Hd) (s : ByteArray) : (getL l s).isSome = hasN l s := by
  rw [hasN_pl]
  by_cases h : plN l s < l.length
  · obtain ⟨x, hx⟩ := get_of_lt h
    rw [getL_hit hx rfl, decide_eq_true h]; rfl
  · rw [getL_none h, decide_eq_false h]; rfl
theorem hasN_snoc {l : List Hd} {k : Nat} {x : Hd} (hx : l[k]? = some x) (s : ByteArray) : hasN (l.take (k + 1)) s = (hasN (l.take k) s || decide (x.name = s)) := by
  unfold hasN
  rw [List.take_add_one, hx, List.any_append]
  simp
theorem getL_app (a b : List Hd) (s : ByteArray) : getL (a ++ b) s = if hasN a s then getL a s else getL b s := by
  unfold getL
  rw [List.find?_append]
  cases h : a.find? fun h => decide (h.name = s) with
  | none =>
    have : hasN a s = false := by
      unfold hasN
      rw [List.any_eq_false]
      rw [List.find?_eq_none] at h
      exact h
    rw [this]; simp
  | some x =>
    have : hasN a s = true := by
      rw [hasN_iff]
      exact ⟨x, List.mem_of_find?_eq_some h, by simpa using List.find?_some h⟩
    rw [this]; simp
theorem getL_take {l : List Hd} {s : ByteArray} {k : Nat} {x : Hd} (hx : l[k]? = some x) (hno : hasN (l.take k) s = false) (h : x.name = s) : getL l s = some x.val := by
  rw [← List.take_append_drop k l, getL_app, hno]
  have hd : l.drop k = x :: l.drop (k + 1) := by rw [List.drop_eq_getElem_cons (get_lt hx)]; congr 1; have := get_lt hx; rw [List.getElem?_eq_getElem this] at hx; simpa using hx
  simp only [Bool.false_eq_true, if_false]
  rw [hd]
  unfold getL
  rw [List.find?_cons_of_pos (by simpa using h)]; rfl
theorem getL_no {l : List Hd} {s : ByteArray} (hno : hasN l s = false) : getL l s = none := by
  rw [hasN_pl] at hno
  exact getL_none (by simpa using hno)

def chk : List Hd → List Hd → Int
  | _, [] => 0
  | d, h :: r => if mayB h = false then 11 else if hasN d h.name then 5 else chk (d ++ [h]) r
def checkE (l : List Hd) : Int := if 8 < l.length then 2 else chk [] l
theorem chk_step {l : List Hd} {k : Nat} {x : Hd} (hx : l[k]? = some x) : chk (l.take k) (l.drop k) = if mayB x = false then 11 else if hasN (l.take k) x.name then 5 else chk (l.take (k + 1)) (l.drop (k + 1)) := by
  have hd : l.drop k = x :: l.drop (k + 1) := by rw [List.drop_eq_getElem_cons (get_lt hx)]; congr 1; have := get_lt hx; rw [List.getElem?_eq_getElem this] at hx; simpa using hx
  rw [hd, List.take_add_one, hx]
  rfl
attribute [irreducible] chk

set_option maxHeartbeats 1000000 in
theorem ref_get (a : Option Addr) (n c : Nat) (l : List Hd) (s : ByteArray) (w : World) (h : Rd hdE w a n l) :
    Calls Tryd.prog 17 #[.slice a n c, .string s] w fun e w' => e = .returned (getV l s) ∧ w = w' := by
  have hl := h.1
  have hn := h.2.1
  have Hh := Lib.hid h
  have Hl := Lib.hid hl
  clear h hl
  go_enter Tryd.func17, Tryd.ntmps17
  go_wp2_with fail
  go_loop [4, 5, 6] (fun r b i => ∃ k : Nat, k ≤ n ∧ r = .string ⟨#[]⟩ ∧ b = .bool false ∧ i = .int .i64 k ∧ hasN (l.take k) s = false) (fun _ _ i => n - (intOf i).toNat)
  case atStart => exact ⟨0, by omega, rfl, rfl, rfl, rfl⟩
  case round =>
    obtain ⟨k, hk, rfl, rfl, rfl, hno⟩ := hrel
    by_cases hlt : k < n
    · obtain ⟨x, hx⟩ := get_of_lt (l := l) (j := k) (by rw [Hl.out]; exact hlt)
      obtain ⟨b, off, rfl, hb, c0, c1⟩ := hd_rd Hh.out hx
      by_cases hq : x.name = s
      · have hst := str_yes hq
        have hg := getL_take hx hno hq
        have Hno := Lib.hid hno
        have Hx := Lib.hid hx
        have Hq := Lib.hid hq
        have Hg := Lib.hid hg
        clear hno hx hq hg
        go_wp2_with fail
        go_ret2
        exact ⟨by unfold getV; rw [Hg.out]; rfl, rfl⟩
      · have hst := str_ne hq
        have hno2 : hasN (l.take (k + 1)) s = false := by rw [hasN_snoc hx, hno, decide_eq_false hq]; rfl
        have Hno := Lib.hid hno
        have Hx := Lib.hid hx
        have Hq := Lib.hid hq
        have Hno2 := Lib.hid hno2
        clear hno hx hq hno2
        go_wp2_with fail
        go_round
        case rel => exact ⟨k + 1, by omega, rfl, rfl, by go_num, Hno2.out⟩
        case measure => simp [intOf]; omega
    · rw [List.take_of_length_le (by rw [Hl.out]; omega)] at hno
      have hg := getL_no hno
      have Hno := Lib.hid hno
      have Hg := Lib.hid hg
      clear hno hg
      go_wp2_with fail
      go_ret2
      exact ⟨by unfold getV; rw [Hg.out]; rfl, rfl⟩

set_option maxHeartbeats 2000000 in
theorem check_any (a : Option Addr) (n c : Nat) (l : List Hd) (w : World) (h : Rd hdE w a n l) (hc : n ≤ c) (hc2 : c ≤ 9223372036854775807) (hs : ∀ x ∈ l, x.name.size ≤ 1000000 ∧ x.val.size ≤ 1000000) :
    Calls Tryd.prog 36 #[.slice a n c] w fun e w' => e = .returned (.int .i64 (checkE l)) ∧ Frm noB w w' := by
  have hl := h.1
  have hn := h.2.1
  by_cases h8 : 8 < n
  · have he : checkE l = 2 := by unfold checkE; rw [if_pos (by omega)]
    have Hh := Lib.hid h
    have Hl := Lib.hid hl
    have He := Lib.hid he
    have Hs := Lib.hid hs
    clear h hl he hs
    go_enter Tryd.func36, Tryd.ntmps36
    go_wp2_with fail
    go_ret
    exact ⟨ret_int He.out.symm, Frm.refl _ _⟩
  have he : checkE l = chk (l.take 0) (l.drop 0) := by unfold checkE; rw [if_neg (by omega)]; rfl
  have Hh := Lib.hid h
  have Hl := Lib.hid hl
  have He := Lib.hid he
  have Hs := Lib.hid hs
  clear h hl he hs
  go_enter Tryd.func36, Tryd.ntmps36
  go_wp2_with fail
  go_loopw [2, 10] (fun r i wr => ∃ k : Nat, k ≤ n ∧ r = .int .i64 0 ∧ i = .int .i64 k ∧ checkE l = chk (l.take k) (l.drop k) ∧ Frm noB w wr) (fun _ i _ => n - (intOf i).toNat)
  case atStart => exact ⟨0, by omega, rfl, rfl, He.out, Frm.refl _ _⟩
  case round =>
    obtain ⟨k, hk, rfl, rfl, hck, hf⟩ := hrel
    by_cases hlt : k < n
    · obtain ⟨x, hx⟩ := get_of_lt (l := l) (j := k) (by rw [Hl.out]; exact hlt)
      have hrd := Hh.out.keep hf
      obtain ⟨b, off, rfl, hb, c0, c1⟩ := hd_rd hrd hx
      obtain ⟨hxn, hxv⟩ := Hs.out x (List.mem_of_getElem? hx)
      have hst := chk_step hx
      rw [hst] at hck
      have hB := Blk.made wr #[.string x.name, .string x.val] 36
      have hB2 := hB.alloc (.cells #[.string x.name, .string x.val] 36)
      have b0 := (hB2.cell 0).trans (show _ = some (Value.string x.name) from rfl)
      have hf2 := (hf.alloc (.cells #[.string x.name, .string x.val] 36)).alloc (.cells #[.string x.name, .string x.val] 36)
      have hrd2 := hrd.keep ((((Frm.refl noB wr).alloc (.cells #[.string x.name, .string x.val] 36)).alloc (.cells #[.string x.name, .string x.val] 36)).drew)
      have hm := may_any x.name x.val
      rw [show (⟨x.name, x.val⟩ : Hd) = x from rfl] at hm
      cases hmb : mayB x
      · have hr : checkE l = 11 := by rw [hck, if_pos hmb]
        rw [hmb] at hm
        have Hck := Lib.hid hck
        have Hf := Lib.hid hf
        have Hrd := Lib.hid hrd
        have Hst := Lib.hid hst
        have HB := Lib.hid hB
        have HB2 := Lib.hid hB2
        have Hf2 := Lib.hid hf2
        have Hrd2 := Lib.hid hrd2
        have Hx := Lib.hid hx
        have Hmb := Lib.hid hmb
        have Hr := Lib.hid hr
        have Hm := Lib.hid hm
        have Hb0 := Lib.hid b0
        clear hck hf hrd hst hB hB2 hf2 hrd2 hx hmb hr hm b0
        go_wp2_with fail
        with_reducible refine (Hm.out _ hxn hxv).mono ?_
        rintro e w1 ⟨rfl, rfl⟩
        go_wp2_with fail
        go_ret
        exact ⟨ret_int Hr.out.symm, Hf2.out⟩
      · rw [if_neg (by rw [hmb]; simp)] at hck
        rw [hmb] at hm
        have htk := hrd2.take (Nat.le_of_lt hlt)
        have i1 : (0 : Int) ≤ (k : Int) := by omega
        have i2 : (k : Int) ≤ (c : Int) := by omega
        have hkc : k ≤ c := by omega
        have hpl : plI (l.take k) x.name = if hasN (l.take k) x.name then (plN (l.take k) x.name : Int) else -1 := by
          unfold plI; rw [hasN_pl]; simp
        have fr0 := (Frm.refl noB ((wr.alloc (.cells #[.string x.name, .string x.val] 36)).alloc (.cells #[.string x.name, .string x.val] 36))).drew
        have d0 := cell_frm fr0 (fun h => h) b0
        have hf3 := hf2.trans fr0
        rcases place_at (l := l.take k) (s := x.name) with ⟨e1, e2, _⟩ | ⟨p, _, e1, e2, _, _, e3⟩
        · have hhas : hasN (l.take k) x.name = false := by rw [hasN_pl]; exact decide_eq_false e2
          rw [if_neg (by rw [hhas]; simp)] at hck
          have Hck := Lib.hid hck
          have Hf := Lib.hid hf
          have Hrd := Lib.hid hrd
          have Hst := Lib.hid hst
          have HB := Lib.hid hB
          have HB2 := Lib.hid hB2
          have Hf2 := Lib.hid hf2
          have Hrd2 := Lib.hid hrd2
          have Hx := Lib.hid hx
          have Hmb := Lib.hid hmb
          have Hm := Lib.hid hm
          have Htk := Lib.hid htk
          have Hpl := Lib.hid hpl
          have He1 := Lib.hid e1
          have Hhas := Lib.hid hhas
          have Hf3 := Lib.hid hf3
          have Hb0 := Lib.hid b0
          clear hck hf hrd hst hB hB2 hf2 hrd2 hx hmb hm htk hpl e1 hhas hf3 b0
          clear e2 fr0
          go_wp2_with fail
          with_reducible refine (Hm.out _ hxn hxv).mono ?_
          rintro e w1 ⟨rfl, rfl⟩
          go_wp2_with fail
          go_upto_region 8 with fail
          go_region_held3 (fun W => W.cell? ⟨wr.heap.size, 0, none⟩ = some (.string x.name)) (with_reducible assumption)
            (first | (go_at_call 42; (with_reducible refine (place_any _ k c (l.take k) x.name _ Htk.out).mono ?_); rintro e w2 ⟨rfl, hf4⟩; rw [He1.out]; have d1 := cell_frm hf4 (fun h => h) d0; have Hf4 := Lib.hid (Hf3.out.trans hf4); clear hf4))
          go_wp2_with fail
          go_roundw
          case rel => exact ⟨k + 1, by omega, rfl, by go_num, Hck.out, Hf4.out⟩
          case measure => simp [intOf]; omega
        · have hhas : hasN (l.take k) x.name = true := by rw [hasN_pl, e3]; exact decide_eq_true (get_lt e2)
          rw [if_pos hhas] at hck
          have Hck := Lib.hid hck
          have Hf := Lib.hid hf
          have Hrd := Lib.hid hrd
          have Hst := Lib.hid hst
          have HB := Lib.hid hB
          have HB2 := Lib.hid hB2
          have Hf2 := Lib.hid hf2
          have Hrd2 := Lib.hid hrd2
          have Hx := Lib.hid hx
          have Hmb := Lib.hid hmb
          have Hm := Lib.hid hm
          have Htk := Lib.hid htk
          have Hpl := Lib.hid hpl
          have He1 := Lib.hid e1
          have Hhas := Lib.hid hhas
          have Hf3 := Lib.hid hf3
          have Hb0 := Lib.hid b0
          clear hck hf hrd hst hB hB2 hf2 hrd2 hx hmb hm htk hpl e1 hhas hf3 b0
          clear e2 fr0
          go_wp2_with fail
          with_reducible refine (Hm.out _ hxn hxv).mono ?_
          rintro e w1 ⟨rfl, rfl⟩
          go_wp2_with fail
          go_upto_region 8 with fail
          go_region_held3 (fun W => W.cell? ⟨wr.heap.size, 0, none⟩ = some (.string x.name)) (with_reducible assumption)
            (first | (go_at_call 42; (with_reducible refine (place_any _ k c (l.take k) x.name _ Htk.out).mono ?_); rintro e w2 ⟨rfl, hf4⟩; rw [He1.out]; have d1 := cell_frm hf4 (fun h => h) d0; have Hf4 := Lib.hid (Hf3.out.trans hf4); clear hf4))
          go_wp2_with fail
          go_ret
          exact ⟨ret_int Hck.out.symm, Hf4.out⟩
    · have he : checkE l = 0 := by
        rw [hck, List.drop_of_length_le (by rw [Hl.out]; omega)]
        unfold chk; rfl
      have Hck := Lib.hid hck
      have Hf := Lib.hid hf
      clear hck hf
      have He_ := Lib.hid he
      clear he
      go_wp2_with fail
      go_ret
      exact ⟨ret_int He_.out.symm, Hf.out⟩

set_option maxHeartbeats 2000000 in
theorem ref_check (a : Option Addr) (n c : Nat) (l : List Hd) (w : World) (h : Rd hdE w a n l) (hc : n ≤ c) (hc2 : c ≤ 9223372036854775807) (hs : ∀ x ∈ l, x.name.size ≤ 1000000 ∧ x.val.size ≤ 1000000) :
    Calls Tryd.prog 37 #[.slice a n c] w fun e w' => e = .returned (.int .i64 (checkE l)) ∧ Frm noB w w' := by
  have hl := h.1
  have hn := h.2.1
  by_cases h8 : 8 < n
  · have he : checkE l = 2 := by unfold checkE; rw [if_pos (by omega)]
    have Hh := Lib.hid h
    have Hl := Lib.hid hl
    have He := Lib.hid he
    have Hs := Lib.hid hs
    clear h hl he hs
    go_enter Tryd.func37, Tryd.ntmps37
    go_wp2_with fail
    go_ret
    exact ⟨ret_int He.out.symm, Frm.refl _ _⟩
  have he : checkE l = chk (l.take 0) (l.drop 0) := by unfold checkE; rw [if_neg (by omega)]; rfl
  have Hh := Lib.hid h
  have Hl := Lib.hid hl
  have He := Lib.hid he
  have Hs := Lib.hid hs
  clear h hl he hs
  go_enter Tryd.func37, Tryd.ntmps37
  go_wp2_with fail
  go_loopw [2, 3] (fun r i wr => ∃ k : Nat, k ≤ n ∧ r = .int .i64 0 ∧ i = .int .i64 k ∧ checkE l = chk (l.take k) (l.drop k) ∧ Frm noB w wr) (fun _ i _ => n - (intOf i).toNat)
  case atStart => exact ⟨0, by omega, rfl, rfl, He.out, Frm.refl _ _⟩
  case round =>
    obtain ⟨k, hk, rfl, rfl, hck, hf⟩ := hrel
    by_cases hlt : k < n
    · obtain ⟨x, hx⟩ := get_of_lt (l := l) (j := k) (by rw [Hl.out]; exact hlt)
      have hrd := Hh.out.keep hf
      obtain ⟨b, off, rfl, hb, c0, c1⟩ := hd_rd hrd hx
      obtain ⟨hxn, hxv⟩ := Hs.out x (List.mem_of_getElem? hx)
      have hst := chk_step hx
      rw [hst] at hck
      have hf2 := hf.alloc (.cells #[.string x.name, .string x.val] 36)
      have hrd2 := hrd.keep ((((Frm.refl noB wr).alloc (.cells #[.string x.name, .string x.val] 36))).drew)
      have hm := ref_may x.name x.val
      rw [show (⟨x.name, x.val⟩ : Hd) = x from rfl] at hm
      cases hmb : mayB x
      · have hr : checkE l = 11 := by rw [hck, if_pos hmb]
        rw [hmb] at hm
        have Hck := Lib.hid hck
        have Hf := Lib.hid hf
        have Hrd := Lib.hid hrd
        have Hst := Lib.hid hst
        have Hf2 := Lib.hid hf2
        have Hrd2 := Lib.hid hrd2
        have Hx := Lib.hid hx
        have Hmb := Lib.hid hmb
        have Hr := Lib.hid hr
        have Hm := Lib.hid hm
        clear hck hf hrd hst hf2 hrd2 hx hmb hr hm
        go_wp2_with fail
        with_reducible refine (Hm.out _ hxn hxv).mono ?_
        rintro e w1 ⟨rfl, rfl⟩
        go_wp2_with fail
        go_ret
        exact ⟨ret_int Hr.out.symm, Hf2.out⟩
      · rw [if_neg (by rw [hmb]; simp)] at hck
        rw [hmb] at hm
        have htk := hrd2.take (Nat.le_of_lt hlt)
        have i1 : (0 : Int) ≤ (k : Int) := by omega
        have i2 : (k : Int) ≤ (c : Int) := by omega
        have i3 : (k : Int) < (n : Int) := by omega
        have hkc : k ≤ c := by omega
        have fr0 : Frm noB wr (wr.alloc (.cells #[.string x.name, .string x.val] 36)).drew := ((Frm.refl noB wr).alloc _).drew
        have d0 := cell_frm fr0 (fun h => h) c0
        have hf3 := hf.trans fr0
        have hgv : getV (l.take k) x.name = .tuple #[.string ((getL (l.take k) x.name).getD ⟨#[]⟩), .bool (hasN (l.take k) x.name)] := by unfold getV; rw [hasN_get]
        have hrg := fun w h => ref_get (some ⟨b, off, none⟩) k c (l.take k) x.name w h
        rw [hgv] at hrg
        generalize (getL (l.take k) x.name).getD ⟨#[]⟩ = gv at *
        cases hhas : hasN (l.take k) x.name
        · rw [if_neg (by rw [hhas]; simp)] at hck
          rw [hhas] at hrg
          have Hck := Lib.hid hck
          have Hf := Lib.hid hf
          have Hrd := Lib.hid hrd
          have Hst := Lib.hid hst
          have Hf2 := Lib.hid hf2
          have Hrd2 := Lib.hid hrd2
          have Hx := Lib.hid hx
          have Hmb := Lib.hid hmb
          have Hm := Lib.hid hm
          have Htk := Lib.hid htk
          have Hhas := Lib.hid hhas
          have Hf3 := Lib.hid hf3
          have Hrg := Lib.hid hrg
          have Hgv := Lib.hid hgv
          clear hck hf hrd hst hf2 hrd2 hx hmb hm htk hhas hf3 hrg hgv
          clear fr0
          go_wp2_with fail
          with_reducible refine (Hm.out _ hxn hxv).mono ?_
          rintro e w1 ⟨rfl, rfl⟩
          go_wp2_with fail
          go_upto_region 9 with fail
          go_region_held3 (fun W => W.cell? ⟨b, off + k * 2, none⟩ = some (.string x.name)) (with_reducible assumption)
            (first | (go_at_call 17; (with_reducible refine (Hrg.out _ Htk.out).mono ?_); rintro e w2 ⟨rfl, rfl⟩))
          go_wp2_with fail
          go_roundw
          case rel => exact ⟨k + 1, by omega, rfl, by go_num, Hck.out, Hf3.out⟩
          case measure => simp [intOf]; omega
        · rw [if_pos hhas] at hck
          rw [hhas] at hrg
          have Hck := Lib.hid hck
          have Hf := Lib.hid hf
          have Hrd := Lib.hid hrd
          have Hst := Lib.hid hst
          have Hf2 := Lib.hid hf2
          have Hrd2 := Lib.hid hrd2
          have Hx := Lib.hid hx
          have Hmb := Lib.hid hmb
          have Hm := Lib.hid hm
          have Htk := Lib.hid htk
          have Hhas := Lib.hid hhas
          have Hf3 := Lib.hid hf3
          have Hrg := Lib.hid hrg
          have Hgv := Lib.hid hgv
          clear hck hf hrd hst hf2 hrd2 hx hmb hm htk hhas hf3 hrg hgv
          clear fr0
          go_wp2_with fail
          with_reducible refine (Hm.out _ hxn hxv).mono ?_
          rintro e w1 ⟨rfl, rfl⟩
          go_wp2_with fail
          go_upto_region 9 with fail
          go_region_held3 (fun W => W.cell? ⟨b, off + k * 2, none⟩ = some (.string x.name)) (with_reducible assumption)
            (first | (go_at_call 17; (with_reducible refine (Hrg.out _ Htk.out).mono ?_); rintro e w2 ⟨rfl, rfl⟩))
          go_wp2_with fail
          go_ret
          exact ⟨ret_int Hck.out.symm, Hf3.out⟩
    · have he : checkE l = 0 := by
        rw [hck, List.drop_of_length_le (by rw [Hl.out]; omega)]
        unfold chk; rfl
      have Hck := Lib.hid hck
      have Hf := Lib.hid hf
      clear hck hf
      have He_ := Lib.hid he
      clear he
      go_wp2_with fail
      go_ret
      exact ⟨ret_int He_.out.symm, Hf.out⟩
end Go.Proofs.YtjehdldjfnaniaaDoor
