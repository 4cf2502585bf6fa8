/- last, decimal, Call, Attempt and Req of the reference. -/
import Derived.Test.YtnmcdecdgcnmbaaTraceDec
import Derived.Test.YtnmcdecdgcnmbaaTraceRead
import Derived.Test.YtnmcdecdgcnmbaaDecimal
set_option linter.unusedVariables false
namespace Go.Proofs.Ytnmcdecdgcnmbaa
open Go.RowKit

set_option maxHeartbeats 400000 in
theorem last_any (s : ByteArray) (c : UInt8) (w : World) (hs : s.size ≤ 1000000) :
    Calls Try.prog 34 #[.string s, .int .u8 (c.toNat : Int)] w fun e w' => e = .returned (.int .i64 ((lastN c s.data.toList : Int) - 1)) ∧ w = w' := by
  have hlen := ba_len s
  have Hlen := Lib.hid hlen
  clear hlen
  go_enter Try.func34, Try.ntmps34
  go_wp2_with fail
  go_loop [4, 5] (fun r i => ∃ j : Nat, j ≤ s.size ∧ r = .int .i64 0 ∧ i = .int .i64 ((j : Int) - 1) ∧ c ∉ s.data.toList.drop j) (fun _ i => (intOf i + 1).toNat)
  case atStart => exact ⟨s.size, Nat.le_refl _, rfl, rfl, by rw [List.drop_of_length_le (by rw [Hlen.out]; exact Nat.le_refl _)]; simp⟩
  case round =>
    obtain ⟨j, hj, rfl, rfl, hno⟩ := hrel
    by_cases h0 : 0 < j
    · obtain ⟨k, rfl⟩ : ∃ k, j = k + 1 := ⟨j - 1, by omega⟩
      have hlt : k < s.size := by omega
      have hdc := drop_cons (byte_at hlt)
      by_cases hc : s[k] = c
      · have hb : ((s[k].toNat : Int) == (c.toNat : Int)) = true := byte_yes (d := c) rfl hc
        have hl : lastN c s.data.toList = k + 1 := by
          rw [← List.take_append_drop k s.data.toList, hdc, hc, lastN_app _ _ _ hno, List.length_take, Hlen.out]
          omega
        have Hl := Lib.hid hl
        have Hno := Lib.hid hno
        clear hl hno
        clear hdc hc
        go_wp2_with fail
        go_ret
        exact ⟨ret_int (by rw [Hl.out]; omega), rfl⟩
      · have hb : ((s[k].toNat : Int) == (c.toNat : Int)) = false := byte_no (d := c) rfl hc
        have hno2 : c ∉ s.data.toList.drop k := by rw [hdc]; simp [hno]; exact fun e => hc e.symm
        have Hno2 := Lib.hid hno2
        clear hno2
        clear hdc hc hno
        go_wp2_with fail
        go_round
        case rel => exact ⟨k, by omega, rfl, by first | rfl | go_num, Hno2.out⟩
        case measure => simp [intOf]
    · obtain rfl : j = 0 := by omega
      have hl : lastN c s.data.toList = 0 := lastN_zero.2 (by simpa using hno)
      have Hl := Lib.hid hl
      clear hl
      clear hno
      go_wp2_with fail
      go_ret
      exact ⟨ret_int (by rw [Hl.out]; rfl), rfl⟩
def DecimalIs (least : Int) (l : List UInt8) (w : World) (e : Ending) (w' : World) : Prop :=
  ∃ v : Int, e = .returned (.tuple #[.int .i64 v, .bool (isDec least l)]) ∧ (isDec least l = true → v = dval l) ∧ Frm noB w w'
theorem pow10 {n m : Nat} (h : n ≤ m) : (10 : Int) ^ n ≤ 10 ^ m := by
  have := Nat.pow_le_pow_right (show 0 < 10 by omega) h
  exact_mod_cast this
set_option maxHeartbeats 1000000 in
theorem dec_any (s : ByteArray) (least : Int) (w : World) (hs : s.size ≤ 1000000) (hl0 : 0 ≤ least) (hl1 : least ≤ 1) :
    Calls Try.prog 35 #[.string s, .int .i64 least] w (DecimalIs least s.data.toList w) := by
  have hlen := ba_len s
  by_cases hz : s.size < 1
  · have hd : isDec least s.data.toList = false := by
      rw [show s.data.toList = [] from List.eq_nil_of_length_eq_zero (by rw [hlen]; omega)]; exact isDec_nil _
    have Hlen := Lib.hid hlen
    have Hd := Lib.hid hd
    clear hlen hd
    go_enter Try.func35, Try.ntmps35
    go_wp2_with fail
    go_ret2
    exact ⟨0, by rw [Hd.out]; rfl, by rw [Hd.out]; simp, Frm.refl _ _⟩
  by_cases hg : 10 < s.size
  · have hd : isDec least s.data.toList = false := isDec_long _ _ (by rw [hlen]; omega)
    have Hlen := Lib.hid hlen
    have Hd := Lib.hid hd
    clear hlen hd
    go_enter Try.func35, Try.ntmps35
    go_wp2_with fail
    go_ret2
    exact ⟨0, by rw [Hd.out]; rfl, by rw [Hd.out]; simp, Frm.refl _ _⟩
  have Hlen := Lib.hid hlen
  clear hlen
  go_enter Try.func35, Try.ntmps35
  go_wp2_with fail
  go_loop [4, 5, 6, 7] (fun r1 r2 n i => ∃ j : Nat, j ≤ s.size ∧ r1 = .int .i64 0 ∧ r2 = .bool false ∧ i = .int .i64 (j : Int) ∧ n = .int .i64 (dval (s.data.toList.take j)) ∧ ∀ c ∈ s.data.toList.take j, isDig c = true) (fun _ _ _ i => s.size - (intOf i).toNat)
  case atStart => exact ⟨0, by omega, rfl, rfl, rfl, rfl, by simp⟩
  case round =>
    obtain ⟨j, hj, rfl, rfl, rfl, rfl, hdig⟩ := hrel
    have hbd := dval_bd j (s.data.toList.take j) (by rw [List.length_take, Hlen.out]; omega) hdig
    have hp := pow10 (show j ≤ 10 by omega)
    have hb0 := hbd.1
    have hb1 : dval (s.data.toList.take j) ≤ 10000000000 := by omega
    clear hbd hp
    by_cases hlt : j < s.size
    · have hget := byte_at hlt
      cases hd : isDig s[j]
      · have hnd : ¬ (48 ≤ (s[j].toNat : Int) ∧ (s[j].toNat : Int) ≤ 57) := by
          unfold isDig at hd; simp only [decide_eq_false_iff_not] at hd; omega
        have hbad : isDec least s.data.toList = false := isDec_bad _ _ _ (List.mem_of_getElem? hget) hd
        have Hbad := Lib.hid hbad
        clear hbad
        clear hget hd hdig
        by_cases h48 : (s[j].toNat : Int) < 48
        · go_wp2_with fail
          go_ret2
          exact ⟨_, by rw [Hbad.out]; rfl, by rw [Hbad.out]; simp, Frm.refl _ _⟩
        · have h57 : 57 < (s[j].toNat : Int) := by omega
          go_wp2_with fail
          go_ret2
          exact ⟨_, by rw [Hbad.out]; rfl, by rw [Hbad.out]; simp, Frm.refl _ _⟩
      · have hb := isDig_bd hd
        obtain ⟨hc0, hc1⟩ := hb
        have hts : s.data.toList.take (j + 1) = s.data.toList.take j ++ [s[j]] := by rw [List.take_add_one, hget]; rfl
        have hd2 := dval_app1 (s.data.toList.take j) s[j]
        rw [← hts] at hd2
        have hdg2 : ∀ c ∈ s.data.toList.take (j + 1), isDig c = true := by
          rw [hts]
          intro x hx
          rcases List.mem_append.1 hx with h0 | h0
          · exact hdig x h0
          · simp at h0; subst h0; exact hd
        have Hd2 := Lib.hid hd2
        have Hdg2 := Lib.hid hdg2
        clear hd2 hdg2
        clear hget hd hdig hts
        generalize dval (s.data.toList.take j) = n at *
        go_wp2_with fail
        go_round
        case rel => exact ⟨j + 1, by omega, rfl, rfl, by go_num, by rw [Hd2.out]; congr 1; omega, Hdg2.out⟩
        case measure => simp [intOf]; omega
    · have htk : s.data.toList.take j = s.data.toList := List.take_of_length_le (by rw [Hlen.out]; omega)
      rw [htk] at hdig hb0 hb1 ⊢
      have hne : s.data.toList ≠ [] := fun e => by have := Hlen.out; rw [e] at this; simp at this; omega
      have hiff := isDec_iff least _ hdig hne
      clear htk hdig hne
      generalize hnv : dval s.data.toList = n at *
      by_cases h1 : least ≤ n
      · by_cases h2 : n ≤ 2147483647
        · have hsz : (bs (decL n)).size ≤ 20 := by rw [bs_size]; exact decL_len (by omega) (by omega)
          have Hiff := Lib.hid hiff
          have Hnv := Lib.hid hnv
          clear hiff hnv
          go_wp2_with fail
          refine (decimal_any n _ (by omega) (by omega)).mono ?_
          rintro e w1 ⟨rfl, hf⟩
          have Hf := Lib.hid hf
          clear hf
          go_wp2_with fail
          go_ret2
          refine ⟨n, ?_, fun _ => Hnv.out.symm, Hf.out⟩
          have e : isDec least s.data.toList = ((bs (decL n)).toList == s.toList) := by
            rw [Hiff.out, str_beq, decide_eq_true h1, decide_eq_true h2]; rfl
          rw [e]; rfl
        · have hf : isDec least s.data.toList = false := by rw [hiff, decide_eq_false h2]; simp
          have Hf := Lib.hid hf
          have Hnv := Lib.hid hnv
          clear hf hnv
          clear hiff
          go_wp2_with fail
          go_ret2
          exact ⟨_, by rw [Hf.out]; rfl, by rw [Hf.out]; simp, Frm.refl _ _⟩
      · have hf : isDec least s.data.toList = false := by rw [hiff, decide_eq_false h1]; simp
        have Hf := Lib.hid hf
        have Hnv := Lib.hid hnv
        clear hf hnv
        clear hiff
        go_wp2_with fail
        go_ret2
        exact ⟨_, by rw [Hf.out]; rfl, by rw [Hf.out]; simp, Frm.refl _ _⟩

theorem last_none (s : ByteArray) (c : UInt8) (n : Int) (w : World) (hs : s.size ≤ 1000000) (hn : n = (c.toNat : Int)) (h : lastN c s.data.toList = 0) :
    Calls Try.prog 34 #[.string s, .int .u8 n] w fun e w' => e = .returned (.int .i64 (-1)) ∧ w = w' := by
  subst hn
  refine (last_any s c w hs).mono ?_
  rintro e w' ⟨rfl, rfl⟩
  exact ⟨by rw [h]; rfl, rfl⟩
theorem last_some (s : ByteArray) (c : UInt8) (n : Int) (k : Nat) (w : World) (hs : s.size ≤ 1000000) (hn : n = (c.toNat : Int)) (h : lastN c s.data.toList = k + 1) :
    Calls Try.prog 34 #[.string s, .int .u8 n] w fun e w' => e = .returned (.int .i64 (k : Int)) ∧ w = w' := by
  subst hn
  refine (last_any s c w hs).mono ?_
  rintro e w' ⟨rfl, rfl⟩
  exact ⟨ret_int (by rw [h]; omega), rfl⟩
theorem dec_no (s : ByteArray) (least : Int) (w : World) (hs : s.size ≤ 1000000) (hl0 : 0 ≤ least) (hl1 : least ≤ 1) (h : isDec least s.data.toList = false) :
    Calls Try.prog 35 #[.string s, .int .i64 least] w fun e w' => ∃ v : Int, e = .returned (.tuple #[.int .i64 v, .bool false]) ∧ Frm noB w w' := by
  refine (dec_any s least w hs hl0 hl1).mono ?_
  rintro e w' ⟨v, rfl, _, hf⟩
  exact ⟨v, by rw [h], hf⟩
theorem dec_yes (s : ByteArray) (least : Int) (w : World) (hs : s.size ≤ 1000000) (hl0 : 0 ≤ least) (hl1 : least ≤ 1) (h : isDec least s.data.toList = true) :
    Calls Try.prog 35 #[.string s, .int .i64 least] w fun e w' => e = .returned (.tuple #[.int .i64 (dval s.data.toList), .bool true]) ∧ Frm noB w w' := by
  refine (dec_any s least w hs hl0 hl1).mono ?_
  rintro e w' ⟨v, rfl, hv, hf⟩
  exact ⟨by rw [h, hv h], hf⟩
set_option maxHeartbeats 4000000 in
theorem call_and_attempt (n : Nat) : ∀ (s : ByteArray) (w : World), s.size = n → s.size ≤ 1000000 →
    (Calls Try.prog 28 #[.string s] w fun e w' => e = .returned (.int .i64 (readC s.data.toList)) ∧ Frm noB w w') ∧
    (Calls Try.prog 26 #[.string s] w fun e w' => e = .returned (.int .i64 (readA s.data.toList)) ∧ Frm noB w w') := by
  induction n using Nat.strongRecOn with
  | ind n ih =>
  intro s w hn hs
  have Ih := Lib.hid ih
  have hn1 : s.size ≤ n := Nat.le_of_eq hn
  have hn2 : n ≤ s.size := Nat.le_of_eq hn.symm
  clear ih hn
  constructor
  · by_cases hz : 0 < s.size
    · have hget : s.data.toList[s.size - 1]? = some s[s.size - 1] := byte_at (by omega)
      have hsp : s.data.toList = s.data.toList.take (s.size - 1) ++ [s[s.size - 1]] := by
        have h1 := drop_cons hget
        rw [show s.data.toList.drop (s.size - 1 + 1) = [] from List.drop_of_length_le (by rw [ba_len]; omega)] at h1
        rw [← h1, List.take_append_drop]
      by_cases h126 : s[s.size - 1] = 126
      · have hb : ((s[s.size - 1].toNat : Int) == 126) = true := byte_yes (d := 126) rfl h126
        have hx2 : (s.extract 0 (s.size - 1)).data.toList = s.data.toList.take (s.size - 1) := by rw [ext_take]; rfl
        have hz2 : (s.extract 0 (s.size - 1)).size < n := by rw [← ba_len, hx2, List.length_take, ba_len]; omega
        have hv : readC s.data.toList = readC (s.extract 0 (s.size - 1)).data.toList := by
          rw [hx2]
          conv => lhs; rw [hsp, h126]
          exact readC_tilde _
        have Hv := Lib.hid hv
        clear hv
        clear hget hsp h126 hx2
        go_enter Try.func28, Try.ntmps28
        go_wp2_with fail
        refine ((Ih.out _ hz2 _ _ rfl (by omega)).1).mono ?_
        rintro e w2 ⟨rfl, hf⟩
        have Hf := Lib.hid hf
        clear hf
        go_wp2_with fail
        go_ret
        exact ⟨ret_int (by rw [Hv.out]; congr 1; simp), Hf.out⟩
      · have hb : ((s[s.size - 1].toNat : Int) == 126) = false := byte_no (d := 126) rfl h126
        have htl : ∀ x, s.data.toList ≠ x ++ [126] := fun x hx => by
          rw [hsp] at hx
          have := List.append_inj_right' hx rfl
          simp at this; exact h126 this
        have Htl := Lib.hid htl
        clear htl
        clear hget hsp h126
        cases hk : lastN 47 s.data.toList with
        | zero =>
          have hv := readC_bare _ (lastN_zero.1 hk) Htl.out
          have Hk := Lib.hid hk
          clear hk
          cases hd : isDec 1 s.data.toList
          · rw [hd] at hv
            have Hv := Lib.hid hv
            have Hd := Lib.hid hd
            clear hv hd
            go_enter Try.func28, Try.ntmps28
            go_wp2_with fail
            refine (last_none s 47 47 _ hs rfl Hk.out).mono ?_
            rintro e w' ⟨rfl, rfl⟩
            go_wp2_with fail
            refine (dec_no s 1 _ hs (by omega) (by omega) Hd.out).mono ?_
            rintro e w1 ⟨v, rfl, hf⟩
            have Hf := Lib.hid hf
            clear hf
            go_wp2_with fail
            go_ret
            exact ⟨ret_int (by rw [Hv.out]; rfl), Hf.out⟩
          · rw [hd] at hv
            have Hv := Lib.hid hv
            have Hd := Lib.hid hd
            clear hv hd
            go_enter Try.func28, Try.ntmps28
            go_wp2_with fail
            refine (last_none s 47 47 _ hs rfl Hk.out).mono ?_
            rintro e w' ⟨rfl, rfl⟩
            go_wp2_with fail
            refine (dec_yes s 1 _ hs (by omega) (by omega) Hd.out).mono ?_
            rintro e w1 ⟨rfl, hf⟩
            have Hf := Lib.hid hf
            clear hf
            go_wp2_with fail
            go_ret
            exact ⟨ret_int (by rw [Hv.out]; rfl), Hf.out⟩
        | succ k =>
          obtain ⟨hk1, hk2, hk3⟩ := lastN_split hk
          have hv := readC_slash (s.data.toList.take k) (s.data.toList.drop (k + 1)) hk3 (by rw [← hk2]; exact Htl.out)
          rw [← hk2] at hv
          have Hk := Lib.hid hk
          have hks : k < s.size := by rw [← ba_len]; exact hk1
          have hx1 : (s.extract (k + 1) s.size).data.toList = s.data.toList.drop (k + 1) := by rw [ext_drop]; rfl
          have hx2 : (s.extract 0 k).data.toList = s.data.toList.take k := by rw [ext_take]; rfl
          have hz1 : (s.extract (k + 1) s.size).size ≤ 1000000 := by rw [← ba_len, hx1, List.length_drop, ba_len]; omega
          have hz2 : (s.extract 0 k).size < n := by rw [← ba_len, hx2, List.length_take, ba_len]; omega
          clear hk hk2 hk3 hk1
          cases hd : isDec 0 (s.data.toList.drop (k + 1))
          · rw [hd] at hv
            rw [← hx1] at hd
            have Hv := Lib.hid hv
            have Hd := Lib.hid hd
            have Hx1 := Lib.hid hx1
            have Hx2 := Lib.hid hx2
            clear hv hd hx1 hx2
            go_enter Try.func28, Try.ntmps28
            go_wp2_with fail
            refine (last_some s 47 47 k _ hs rfl Hk.out).mono ?_
            rintro e w' ⟨rfl, rfl⟩
            go_wp2_with fail
            refine (dec_no _ 0 _ hz1 (by omega) (by omega) Hd.out).mono ?_
            rintro e w1 ⟨v, rfl, hf⟩
            have Hf := Lib.hid hf
            clear hf
            go_wp2_with fail
            go_ret
            exact ⟨ret_int (by rw [Hv.out]; rfl), Hf.out⟩
          · rw [hd] at hv
            rw [← hx1] at hd
            have Hv := Lib.hid hv
            have Hd := Lib.hid hd
            have Hx1 := Lib.hid hx1
            have Hx2 := Lib.hid hx2
            clear hv hd hx1 hx2
            go_enter Try.func28, Try.ntmps28
            go_wp2_with fail
            refine (last_some s 47 47 k _ hs rfl Hk.out).mono ?_
            rintro e w' ⟨rfl, rfl⟩
            go_wp2_with fail
            refine (dec_yes _ 0 _ hz1 (by omega) (by omega) Hd.out).mono ?_
            rintro e w1 ⟨rfl, hf⟩
            have Hf := Lib.hid hf
            clear hf
            go_wp2_with fail
            refine ((Ih.out _ hz2 _ _ rfl (by omega)).2).mono ?_
            rintro e w2 ⟨rfl, hf⟩
            have Hf2 := Lib.hid (Hf.out.trans hf)
            clear hf
            go_wp2_with fail
            go_ret
            exact ⟨ret_int (by rw [Hv.out]; rfl), Hf2.out⟩
    · have htl : ∀ x, s.data.toList ≠ x ++ [126] := fun x hx => by
        have := ba_len s
        rw [hx] at this; simp at this; omega
      have Htl := Lib.hid htl
      clear htl
      cases hk : lastN 47 s.data.toList with
      | zero =>
        have hv := readC_bare _ (lastN_zero.1 hk) Htl.out
        have Hk := Lib.hid hk
        clear hk
        cases hd : isDec 1 s.data.toList
        · rw [hd] at hv
          have Hv := Lib.hid hv
          have Hd := Lib.hid hd
          clear hv hd
          go_enter Try.func28, Try.ntmps28
          go_wp2_with fail
          refine (last_none s 47 47 _ hs rfl Hk.out).mono ?_
          rintro e w' ⟨rfl, rfl⟩
          go_wp2_with fail
          refine (dec_no s 1 _ hs (by omega) (by omega) Hd.out).mono ?_
          rintro e w1 ⟨v, rfl, hf⟩
          have Hf := Lib.hid hf
          clear hf
          go_wp2_with fail
          go_ret
          exact ⟨ret_int (by rw [Hv.out]; rfl), Hf.out⟩
        · rw [hd] at hv
          have Hv := Lib.hid hv
          have Hd := Lib.hid hd
          clear hv hd
          go_enter Try.func28, Try.ntmps28
          go_wp2_with fail
          refine (last_none s 47 47 _ hs rfl Hk.out).mono ?_
          rintro e w' ⟨rfl, rfl⟩
          go_wp2_with fail
          refine (dec_yes s 1 _ hs (by omega) (by omega) Hd.out).mono ?_
          rintro e w1 ⟨rfl, hf⟩
          have Hf := Lib.hid hf
          clear hf
          go_wp2_with fail
          go_ret
          exact ⟨ret_int (by rw [Hv.out]; rfl), Hf.out⟩
      | succ k =>
        obtain ⟨hk1, _, _⟩ := lastN_split hk
        rw [ba_len] at hk1
        omega
  · cases hk : lastN 58 s.data.toList with
    | zero =>
      have hv := readA_none _ (lastN_zero.1 hk)
      have Hk := Lib.hid hk
      clear hk
      have Hv := Lib.hid hv
      clear hv
      go_enter Try.func26, Try.ntmps26
      go_wp2_with fail
      refine (last_none s 58 58 _ hs rfl Hk.out).mono ?_
      rintro e w' ⟨rfl, rfl⟩
      go_wp2_with fail
      go_ret
      exact ⟨ret_int (by rw [Hv.out]), Frm.refl _ _⟩
    | succ k =>
      obtain ⟨hk1, hk2, hk3⟩ := lastN_split hk
      have hv := readA_colon (s.data.toList.take k) (s.data.toList.drop (k + 1)) hk3
      rw [← hk2] at hv
      have Hk := Lib.hid hk
      have hks : k < s.size := by rw [← ba_len]; exact hk1
      have hx1 : (s.extract (k + 1) s.size).data.toList = s.data.toList.drop (k + 1) := by rw [ext_drop]; rfl
      have hx2 : (s.extract 0 k).data.toList = s.data.toList.take k := by rw [ext_take]; rfl
      have hz1 : (s.extract (k + 1) s.size).size ≤ 1000000 := by rw [← ba_len, hx1, List.length_drop, ba_len]; omega
      have hz2 : (s.extract 0 k).size < n := by rw [← ba_len, hx2, List.length_take, ba_len]; omega
      clear hk hk2 hk3 hk1
      cases hd : isDec 1 (s.data.toList.drop (k + 1))
      · rw [hd] at hv
        rw [← hx1] at hd
        have Hv := Lib.hid hv
        have Hd := Lib.hid hd
        have Hx1 := Lib.hid hx1
        have Hx2 := Lib.hid hx2
        clear hv hd hx1 hx2
        go_enter Try.func26, Try.ntmps26
        go_wp2_with fail
        refine (last_some s 58 58 k _ hs rfl Hk.out).mono ?_
        rintro e w' ⟨rfl, rfl⟩
        go_wp2_with fail
        refine (dec_no _ 1 _ hz1 (by omega) (by omega) Hd.out).mono ?_
        rintro e w1 ⟨v, rfl, hf⟩
        have Hf := Lib.hid hf
        clear hf
        go_wp2_with fail
        go_ret
        exact ⟨ret_int (by rw [Hv.out]; rfl), Hf.out⟩
      · rw [hd] at hv
        rw [← hx1] at hd
        have Hv := Lib.hid hv
        have Hd := Lib.hid hd
        have Hx1 := Lib.hid hx1
        have Hx2 := Lib.hid hx2
        clear hv hd hx1 hx2
        go_enter Try.func26, Try.ntmps26
        go_wp2_with fail
        refine (last_some s 58 58 k _ hs rfl Hk.out).mono ?_
        rintro e w' ⟨rfl, rfl⟩
        go_wp2_with fail
        refine (dec_yes _ 1 _ hz1 (by omega) (by omega) Hd.out).mono ?_
        rintro e w1 ⟨rfl, hf⟩
        have Hf := Lib.hid hf
        clear hf
        go_wp2_with fail
        refine ((Ih.out _ hz2 _ _ rfl (by omega)).1).mono ?_
        rintro e w2 ⟨rfl, hf⟩
        have Hf2 := Lib.hid (Hf.out.trans hf)
        clear hf
        go_wp2_with fail
        go_ret
        exact ⟨ret_int (by rw [Hv.out]; rfl), Hf2.out⟩
theorem ref_call (s : ByteArray) (w : World) (hs : s.size ≤ 1000000) : Calls Try.prog 28 #[.string s] w fun e w' => e = .returned (.int .i64 (readC s.data.toList)) ∧ Frm noB w w' :=
  (call_and_attempt s.size s w rfl hs).1
theorem ref_attempt (s : ByteArray) (w : World) (hs : s.size ≤ 1000000) : Calls Try.prog 26 #[.string s] w fun e w' => e = .returned (.int .i64 (readA s.data.toList)) ∧ Frm noB w w' :=
  (call_and_attempt s.size s w rfl hs).2
set_option maxHeartbeats 400000 in
theorem ref_req (s : ByteArray) (w : World) (hs : s.size ≤ 1000000) : Calls Try.prog 13 #[.string s] w fun e w' => e = .returned (.int .i64 (reqL s.data.toList)) ∧ Frm noB w w' := by
  have hm := Lib.hid (reqL_max s.data.toList)
  go_enter Try.func13, Try.ntmps13
  go_wp2_with fail
  refine (ref_call s _ hs).mono ?_
  rintro e w1 ⟨rfl, hf⟩
  have Hf := Lib.hid hf
  clear hf
  go_wp2_with fail
  refine (ref_attempt s _ hs).mono ?_
  rintro e w2 ⟨rfl, hf⟩
  have Hf2 := Lib.hid (Hf.out.trans hf)
  clear hf
  go_wp2_with fail
  all_goals
    go_ret
    exact ⟨ret_int (by rw [← hm.out]; omega), Hf2.out⟩
end Go.Proofs.Ytnmcdecdgcnmbaa
