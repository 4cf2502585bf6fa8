/- Check of heads of any size. -/
import Derived.Test.YtjehdldjfnaniaaDoorHeadCheck
set_option linter.unusedVariables false
namespace Go.Proofs.YtjehdldjfnaniaaDoor
open Go.RowKit

theorem may_all (nm vl : ByteArray) (w : World) :
    Calls Tryd.prog 46 #[.agg #[.string nm, .string vl]] w fun e w' => e = .returned (.bool (mayB ⟨nm, vl⟩)) ∧ w' = w.alloc (.cells #[.string nm, .string vl] 36) := by
  by_cases hs : nm.size ≤ 1000000 ∧ vl.size ≤ 1000000
  · exact may_any nm vl w hs.1 hs.2
  by_cases h1 : nm.size < 1
  · have hm := mayB_size nm vl (.inl h1)
    have Hm := Lib.hid hm
    have Hs := Lib.hid hs
    clear hm hs
    go_enter Tryd.func46, Tryd.ntmps46
    go_wp2
    go_ret
    exact ⟨ret_bool Hm.out.symm, rfl⟩
  by_cases h2 : 20 < nm.size
  · have hm := mayB_size nm vl (.inr (.inl h2))
    have Hm := Lib.hid hm
    have Hs := Lib.hid hs
    clear hm hs
    go_enter Tryd.func46, Tryd.ntmps46
    go_wp2
    go_ret
    exact ⟨ret_bool Hm.out.symm, rfl⟩
  have h3 : 60 < vl.size := by omega
  have hm := mayB_size nm vl (.inr (.inr h3))
  have Hm := Lib.hid hm
  have Hs := Lib.hid hs
  clear hm hs
  go_enter Tryd.func46, Tryd.ntmps46
  go_wp2
  go_ret
  exact ⟨ret_bool Hm.out.symm, rfl⟩
theorem ref_may_all (nm vl : ByteArray) (w : World) :
    Calls Tryd.prog 47 #[.agg #[.string nm, .string vl]] w fun e w' => e = .returned (.bool (mayB ⟨nm, vl⟩)) ∧ w' = w.alloc (.cells #[.string nm, .string vl] 36) := by
  by_cases hs : nm.size ≤ 1000000 ∧ vl.size ≤ 1000000
  · exact ref_may nm vl w hs.1 hs.2
  by_cases h1 : nm.size < 1
  · have hm := mayB_size nm vl (.inl h1)
    have Hm := Lib.hid hm
    have Hs := Lib.hid hs
    clear hm hs
    go_enter Tryd.func47, Tryd.ntmps47
    go_wp2
    go_ret
    exact ⟨ret_bool Hm.out.symm, rfl⟩
  by_cases h2 : 20 < nm.size
  · have hm := mayB_size nm vl (.inr (.inl h2))
    have Hm := Lib.hid hm
    have Hs := Lib.hid hs
    clear hm hs
    go_enter Tryd.func47, Tryd.ntmps47
    go_wp2
    go_ret
    exact ⟨ret_bool Hm.out.symm, rfl⟩
  have h3 : 60 < vl.size := by omega
  have hm := mayB_size nm vl (.inr (.inr h3))
  have Hm := Lib.hid hm
  have Hs := Lib.hid hs
  clear hm hs
  go_enter Tryd.func47, Tryd.ntmps47
  go_wp2
  go_ret
  exact ⟨ret_bool Hm.out.symm, rfl⟩
set_option maxHeartbeats 2000000 in
theorem check_all (a : Option Addr) (n c : Nat) (l : List Hd) (w : World) (h : Rd hdE w a n l) (hc : n ≤ c) (hc2 : c ≤ 9223372036854775807) :
    Calls Tryd.prog 36 #[.slice a n c] w fun e w' => e = .returned (.int .i64 (checkE l)) ∧ Frm noB w w' := by
  have hl := h.1
  have hn := h.2.1
  by_cases h8 : 8 < n
  · have he : checkE l = 2 := by unfold checkE; rw [if_pos (by omega)]
    have Hh := Lib.hid h
    have Hl := Lib.hid hl
    have He := Lib.hid he
    clear h hl he
    go_enter Tryd.func36, Tryd.ntmps36
    go_wp2_with fail
    go_ret
    exact ⟨ret_int He.out.symm, Frm.refl _ _⟩
  have he : checkE l = chk (l.take 0) (l.drop 0) := by unfold checkE; rw [if_neg (by omega)]; rfl
  have Hh := Lib.hid h
  have Hl := Lib.hid hl
  have He := Lib.hid he
  clear h hl he
  go_enter Tryd.func36, Tryd.ntmps36
  go_wp2_with fail
  go_loopw [2, 10] (fun r i wr => ∃ k : Nat, k ≤ n ∧ r = .int .i64 0 ∧ i = .int .i64 k ∧ checkE l = chk (l.take k) (l.drop k) ∧ Frm noB w wr) (fun _ i _ => n - (intOf i).toNat)
  case atStart => exact ⟨0, by omega, rfl, rfl, He.out, Frm.refl _ _⟩
  case round =>
    obtain ⟨k, hk, rfl, rfl, hck, hf⟩ := hrel
    by_cases hlt : k < n
    · obtain ⟨x, hx⟩ := get_of_lt (l := l) (j := k) (by rw [Hl.out]; exact hlt)
      have hrd := Hh.out.keep hf
      obtain ⟨b, off, rfl, hb, c0, c1⟩ := hd_rd hrd hx
      have hst := chk_step hx
      rw [hst] at hck
      have hB := Blk.made wr #[.string x.name, .string x.val] 36
      have hB2 := hB.alloc (.cells #[.string x.name, .string x.val] 36)
      have b0 := (hB2.cell 0).trans (show _ = some (Value.string x.name) from rfl)
      have hf2 := (hf.alloc (.cells #[.string x.name, .string x.val] 36)).alloc (.cells #[.string x.name, .string x.val] 36)
      have hrd2 := hrd.keep ((((Frm.refl noB wr).alloc (.cells #[.string x.name, .string x.val] 36)).alloc (.cells #[.string x.name, .string x.val] 36)).drew)
      have hm := may_all x.name x.val
      rw [show (⟨x.name, x.val⟩ : Hd) = x from rfl] at hm
      cases hmb : mayB x
      · have hr : checkE l = 11 := by rw [hck, if_pos hmb]
        rw [hmb] at hm
        have Hck := Lib.hid hck
        have Hf := Lib.hid hf
        have Hrd := Lib.hid hrd
        have Hst := Lib.hid hst
        have HB := Lib.hid hB
        have HB2 := Lib.hid hB2
        have Hf2 := Lib.hid hf2
        have Hrd2 := Lib.hid hrd2
        have Hx := Lib.hid hx
        have Hmb := Lib.hid hmb
        have Hr := Lib.hid hr
        have Hm := Lib.hid hm
        have Hb0 := Lib.hid b0
        clear hck hf hrd hst hB hB2 hf2 hrd2 hx hmb hr hm b0
        go_wp2_with fail
        with_reducible refine (Hm.out _).mono ?_
        rintro e w1 ⟨rfl, rfl⟩
        go_wp2_with fail
        go_ret
        exact ⟨ret_int Hr.out.symm, Hf2.out⟩
      · rw [if_neg (by rw [hmb]; simp)] at hck
        rw [hmb] at hm
        have htk := hrd2.take (Nat.le_of_lt hlt)
        have i1 : (0 : Int) ≤ (k : Int) := by omega
        have i2 : (k : Int) ≤ (c : Int) := by omega
        have hkc : k ≤ c := by omega
        have hpl : plI (l.take k) x.name = if hasN (l.take k) x.name then (plN (l.take k) x.name : Int) else -1 := by
          unfold plI; rw [hasN_pl]; simp
        have fr0 := (Frm.refl noB ((wr.alloc (.cells #[.string x.name, .string x.val] 36)).alloc (.cells #[.string x.name, .string x.val] 36))).drew
        have d0 := cell_frm fr0 (fun h => h) b0
        have hf3 := hf2.trans fr0
        rcases place_at (l := l.take k) (s := x.name) with ⟨e1, e2, _⟩ | ⟨p, _, e1, e2, _, _, e3⟩
        · have hhas : hasN (l.take k) x.name = false := by rw [hasN_pl]; exact decide_eq_false e2
          rw [if_neg (by rw [hhas]; simp)] at hck
          have Hck := Lib.hid hck
          have Hf := Lib.hid hf
          have Hrd := Lib.hid hrd
          have Hst := Lib.hid hst
          have HB := Lib.hid hB
          have HB2 := Lib.hid hB2
          have Hf2 := Lib.hid hf2
          have Hrd2 := Lib.hid hrd2
          have Hx := Lib.hid hx
          have Hmb := Lib.hid hmb
          have Hm := Lib.hid hm
          have Htk := Lib.hid htk
          have Hpl := Lib.hid hpl
          have He1 := Lib.hid e1
          have Hhas := Lib.hid hhas
          have Hf3 := Lib.hid hf3
          have Hb0 := Lib.hid b0
          clear hck hf hrd hst hB hB2 hf2 hrd2 hx hmb hm htk hpl e1 hhas hf3 b0
          clear e2 fr0
          go_wp2_with fail
          with_reducible refine (Hm.out _).mono ?_
          rintro e w1 ⟨rfl, rfl⟩
          go_wp2_with fail
          go_upto_region 8 with fail
          go_region_held3 (fun W => W.cell? ⟨wr.heap.size, 0, none⟩ = some (.string x.name)) (with_reducible assumption)
            (first | (go_at_call 42; (with_reducible refine (place_any _ k c (l.take k) x.name _ Htk.out).mono ?_); rintro e w2 ⟨rfl, hf4⟩; rw [He1.out]; have d1 := cell_frm hf4 (fun h => h) d0; have Hf4 := Lib.hid (Hf3.out.trans hf4); clear hf4))
          go_wp2_with fail
          go_roundw
          case rel => exact ⟨k + 1, by omega, rfl, by go_num, Hck.out, Hf4.out⟩
          case measure => simp [intOf]; omega
        · have hhas : hasN (l.take k) x.name = true := by rw [hasN_pl, e3]; exact decide_eq_true (get_lt e2)
          rw [if_pos hhas] at hck
          have Hck := Lib.hid hck
          have Hf := Lib.hid hf
          have Hrd := Lib.hid hrd
          have Hst := Lib.hid hst
          have HB := Lib.hid hB
          have HB2 := Lib.hid hB2
          have Hf2 := Lib.hid hf2
          have Hrd2 := Lib.hid hrd2
          have Hx := Lib.hid hx
          have Hmb := Lib.hid hmb
          have Hm := Lib.hid hm
          have Htk := Lib.hid htk
          have Hpl := Lib.hid hpl
          have He1 := Lib.hid e1
          have Hhas := Lib.hid hhas
          have Hf3 := Lib.hid hf3
          have Hb0 := Lib.hid b0
          clear hck hf hrd hst hB hB2 hf2 hrd2 hx hmb hm htk hpl e1 hhas hf3 b0
          clear e2 fr0
          go_wp2_with fail
          with_reducible refine (Hm.out _).mono ?_
          rintro e w1 ⟨rfl, rfl⟩
          go_wp2_with fail
          go_upto_region 8 with fail
          go_region_held3 (fun W => W.cell? ⟨wr.heap.size, 0, none⟩ = some (.string x.name)) (with_reducible assumption)
            (first | (go_at_call 42; (with_reducible refine (place_any _ k c (l.take k) x.name _ Htk.out).mono ?_); rintro e w2 ⟨rfl, hf4⟩; rw [He1.out]; have d1 := cell_frm hf4 (fun h => h) d0; have Hf4 := Lib.hid (Hf3.out.trans hf4); clear hf4))
          go_wp2_with fail
          go_ret
          exact ⟨ret_int Hck.out.symm, Hf4.out⟩
    · have he : checkE l = 0 := by
        rw [hck, List.drop_of_length_le (by rw [Hl.out]; omega)]
        unfold chk; rfl
      have Hck := Lib.hid hck
      have Hf := Lib.hid hf
      clear hck hf
      have He_ := Lib.hid he
      clear he
      go_wp2_with fail
      go_ret
      exact ⟨ret_int He_.out.symm, Hf.out⟩

set_option maxHeartbeats 2000000 in
theorem ref_check_all (a : Option Addr) (n c : Nat) (l : List Hd) (w : World) (h : Rd hdE w a n l) (hc : n ≤ c) (hc2 : c ≤ 9223372036854775807) :
    Calls Tryd.prog 37 #[.slice a n c] w fun e w' => e = .returned (.int .i64 (checkE l)) ∧ Frm noB w w' := by
  have hl := h.1
  have hn := h.2.1
  by_cases h8 : 8 < n
  · have he : checkE l = 2 := by unfold checkE; rw [if_pos (by omega)]
    have Hh := Lib.hid h
    have Hl := Lib.hid hl
    have He := Lib.hid he
    clear h hl he
    go_enter Tryd.func37, Tryd.ntmps37
    go_wp2_with fail
    go_ret
    exact ⟨ret_int He.out.symm, Frm.refl _ _⟩
  have he : checkE l = chk (l.take 0) (l.drop 0) := by unfold checkE; rw [if_neg (by omega)]; rfl
  have Hh := Lib.hid h
  have Hl := Lib.hid hl
  have He := Lib.hid he
  clear h hl he
  go_enter Tryd.func37, Tryd.ntmps37
  go_wp2_with fail
  go_loopw [2, 3] (fun r i wr => ∃ k : Nat, k ≤ n ∧ r = .int .i64 0 ∧ i = .int .i64 k ∧ checkE l = chk (l.take k) (l.drop k) ∧ Frm noB w wr) (fun _ i _ => n - (intOf i).toNat)
  case atStart => exact ⟨0, by omega, rfl, rfl, He.out, Frm.refl _ _⟩
  case round =>
    obtain ⟨k, hk, rfl, rfl, hck, hf⟩ := hrel
    by_cases hlt : k < n
    · obtain ⟨x, hx⟩ := get_of_lt (l := l) (j := k) (by rw [Hl.out]; exact hlt)
      have hrd := Hh.out.keep hf
      obtain ⟨b, off, rfl, hb, c0, c1⟩ := hd_rd hrd hx
      have hst := chk_step hx
      rw [hst] at hck
      have hf2 := hf.alloc (.cells #[.string x.name, .string x.val] 36)
      have hrd2 := hrd.keep ((((Frm.refl noB wr).alloc (.cells #[.string x.name, .string x.val] 36))).drew)
      have hm := ref_may_all x.name x.val
      rw [show (⟨x.name, x.val⟩ : Hd) = x from rfl] at hm
      cases hmb : mayB x
      · have hr : checkE l = 11 := by rw [hck, if_pos hmb]
        rw [hmb] at hm
        have Hck := Lib.hid hck
        have Hf := Lib.hid hf
        have Hrd := Lib.hid hrd
        have Hst := Lib.hid hst
        have Hf2 := Lib.hid hf2
        have Hrd2 := Lib.hid hrd2
        have Hx := Lib.hid hx
        have Hmb := Lib.hid hmb
        have Hr := Lib.hid hr
        have Hm := Lib.hid hm
        clear hck hf hrd hst hf2 hrd2 hx hmb hr hm
        go_wp2_with fail
        with_reducible refine (Hm.out _).mono ?_
        rintro e w1 ⟨rfl, rfl⟩
        go_wp2_with fail
        go_ret
        exact ⟨ret_int Hr.out.symm, Hf2.out⟩
      · rw [if_neg (by rw [hmb]; simp)] at hck
        rw [hmb] at hm
        have htk := hrd2.take (Nat.le_of_lt hlt)
        have i1 : (0 : Int) ≤ (k : Int) := by omega
        have i2 : (k : Int) ≤ (c : Int) := by omega
        have i3 : (k : Int) < (n : Int) := by omega
        have hkc : k ≤ c := by omega
        have fr0 : Frm noB wr (wr.alloc (.cells #[.string x.name, .string x.val] 36)).drew := ((Frm.refl noB wr).alloc _).drew
        have d0 := cell_frm fr0 (fun h => h) c0
        have hf3 := hf.trans fr0
        have hgv : getV (l.take k) x.name = .tuple #[.string ((getL (l.take k) x.name).getD ⟨#[]⟩), .bool (hasN (l.take k) x.name)] := by unfold getV; rw [hasN_get]
        have hrg := fun w h => ref_get (some ⟨b, off, none⟩) k c (l.take k) x.name w h
        rw [hgv] at hrg
        generalize (getL (l.take k) x.name).getD ⟨#[]⟩ = gv at *
        cases hhas : hasN (l.take k) x.name
        · rw [if_neg (by rw [hhas]; simp)] at hck
          rw [hhas] at hrg
          have Hck := Lib.hid hck
          have Hf := Lib.hid hf
          have Hrd := Lib.hid hrd
          have Hst := Lib.hid hst
          have Hf2 := Lib.hid hf2
          have Hrd2 := Lib.hid hrd2
          have Hx := Lib.hid hx
          have Hmb := Lib.hid hmb
          have Hm := Lib.hid hm
          have Htk := Lib.hid htk
          have Hhas := Lib.hid hhas
          have Hf3 := Lib.hid hf3
          have Hrg := Lib.hid hrg
          have Hgv := Lib.hid hgv
          clear hck hf hrd hst hf2 hrd2 hx hmb hm htk hhas hf3 hrg hgv
          clear fr0
          go_wp2_with fail
          with_reducible refine (Hm.out _).mono ?_
          rintro e w1 ⟨rfl, rfl⟩
          go_wp2_with fail
          go_upto_region 9 with fail
          go_region_held3 (fun W => W.cell? ⟨b, off + k * 2, none⟩ = some (.string x.name)) (with_reducible assumption)
            (first | (go_at_call 17; (with_reducible refine (Hrg.out _ Htk.out).mono ?_); rintro e w2 ⟨rfl, rfl⟩))
          go_wp2_with fail
          go_roundw
          case rel => exact ⟨k + 1, by omega, rfl, by go_num, Hck.out, Hf3.out⟩
          case measure => simp [intOf]; omega
        · rw [if_pos hhas] at hck
          rw [hhas] at hrg
          have Hck := Lib.hid hck
          have Hf := Lib.hid hf
          have Hrd := Lib.hid hrd
          have Hst := Lib.hid hst
          have Hf2 := Lib.hid hf2
          have Hrd2 := Lib.hid hrd2
          have Hx := Lib.hid hx
          have Hmb := Lib.hid hmb
          have Hm := Lib.hid hm
          have Htk := Lib.hid htk
          have Hhas := Lib.hid hhas
          have Hf3 := Lib.hid hf3
          have Hrg := Lib.hid hrg
          have Hgv := Lib.hid hgv
          clear hck hf hrd hst hf2 hrd2 hx hmb hm htk hhas hf3 hrg hgv
          clear fr0
          go_wp2_with fail
          with_reducible refine (Hm.out _).mono ?_
          rintro e w1 ⟨rfl, rfl⟩
          go_wp2_with fail
          go_upto_region 9 with fail
          go_region_held3 (fun W => W.cell? ⟨b, off + k * 2, none⟩ = some (.string x.name)) (with_reducible assumption)
            (first | (go_at_call 17; (with_reducible refine (Hrg.out _ Htk.out).mono ?_); rintro e w2 ⟨rfl, rfl⟩))
          go_wp2_with fail
          go_ret
          exact ⟨ret_int Hck.out.symm, Hf3.out⟩
    · have he : checkE l = 0 := by
        rw [hck, List.drop_of_length_le (by rw [Hl.out]; omega)]
        unfold chk; rfl
      have Hck := Lib.hid hck
      have Hf := Lib.hid hf
      clear hck hf
      have He_ := Lib.hid he
      clear he
      go_wp2_with fail
      go_ret
      exact ⟨ret_int He_.out.symm, Hf.out⟩
end Go.Proofs.YtjehdldjfnaniaaDoor
