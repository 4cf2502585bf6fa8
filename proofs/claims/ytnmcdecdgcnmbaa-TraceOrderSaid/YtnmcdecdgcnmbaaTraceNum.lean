/- trace.number. -/
import Derived.Test.YtnmcdecdgcnmbaaLib
import Derived.Test.YtnmcdecdgcnmbaaTracePlain
set_option linter.unusedVariables false
namespace Go.Proofs.Ytnmcdecdgcnmbaa
open Go.RowKit

theorem dval_snoc (l : List UInt8) (c : UInt8) : dval (l ++ [c]) = 10 * dval l + ((c.toNat : Int) - 48) := by
  unfold dval; rw [List.foldl_append]; rfl
theorem isDig_bd {c : UInt8} (h : isDig c = true) : 48 ≤ (c.toNat : Int) ∧ (c.toNat : Int) ≤ 57 := by
  unfold isDig at h; simp only [decide_eq_true_eq] at h; omega
theorem dfold_mono (d : List UInt8) (h : ∀ c ∈ d, isDig c = true) : ∀ n : Int, 0 ≤ n → n ≤ d.foldl dstep n := by
  induction d with
  | nil => intro n hn; exact Int.le_refl _
  | cons a d ih =>
    intro n hn
    have ha := isDig_bd (h a (List.mem_cons_self ..))
    have := ih (fun c hc => h c (List.mem_cons_of_mem _ hc)) (dstep n a) (by unfold dstep; omega)
    rw [List.foldl_cons]
    unfold dstep at *
    omega
theorem dval_nonneg (d : List UInt8) (h : ∀ c ∈ d, isDig c = true) : 0 ≤ dval d := dfold_mono d h 0 (Int.le_refl _)
/-- The number that begins at a place, and the place behind it. -/
def numI (least : Int) (l : List UInt8) (f : Nat) : Int × Int :=
  if okD least ((l.drop f).takeWhile isDig) then (dval ((l.drop f).takeWhile isDig), ((f + ((l.drop f).takeWhile isDig).length : Nat) : Int)) else (0, -1)
theorem run_stop {m : List UInt8} {j : Nat} (h : ∀ c ∈ m.take j, isDig c = true) (hj : m[j]? = none ∨ ∃ c, m[j]? = some c ∧ isDig c = false) : m.takeWhile isDig = m.take j := by
  induction m generalizing j with
  | nil => simp
  | cons a m ih =>
    cases j with
    | zero =>
      rcases hj with h0 | ⟨c, h0, hc⟩
      · simp at h0
      · simp at h0; subst h0; simp [hc]
    | succ j =>
      have ha : isDig a = true := h a (by simp)
      rw [List.takeWhile_cons, if_pos ha, List.take_succ_cons, ih (fun c hc => h c (by rw [List.take_succ_cons]; exact List.mem_cons_of_mem _ hc)) (by simpa using hj)]
theorem run_more {m : List UInt8} {j : Nat} {c : UInt8} (h : ∀ c ∈ m.take j, isDig c = true) (hj : m[j]? = some c) (hc : isDig c = true) : ∃ q, m.takeWhile isDig = m.take j ++ c :: q ∧ ∀ x ∈ q, isDig x = true := by
  induction m generalizing j with
  | nil => simp at hj
  | cons a m ih =>
    cases j with
    | zero =>
      simp at hj; subst hj
      exact ⟨m.takeWhile isDig, by simp [hc], fun x hx => List.all_eq_true.1 List.all_takeWhile x hx⟩
    | succ j =>
      have ha : isDig a = true := h a (by simp)
      obtain ⟨q, hq, hx⟩ := ih (fun c hc => h c (by rw [List.take_succ_cons]; exact List.mem_cons_of_mem _ hc)) (by simpa using hj)
      exact ⟨q, by rw [List.takeWhile_cons, if_pos ha, List.take_succ_cons, hq]; rfl, hx⟩
theorem numI_great {least : Int} {l : List UInt8} {f j : Nat} {c : UInt8} (h : ∀ c ∈ (l.drop f).take j, isDig c = true) (hj : (l.drop f)[j]? = some c) (hc : isDig c = true)
    (hg : 2147483647 < 10 * dval ((l.drop f).take j) + ((c.toNat : Int) - 48)) : numI least l f = (0, -1) := by
  obtain ⟨q, hq, hx⟩ := run_more h hj hc
  unfold numI
  rw [hq, if_neg]
  intro ho
  unfold okD at ho
  simp only [Bool.and_eq_true, decide_eq_true_eq] at ho
  have h1 := dfold_mono q hx (dval ((l.drop f).take j ++ [c])) (dval_nonneg _ (by
    intro x hx
    rcases List.mem_append.1 hx with h0 | h0
    · exact h x h0
    · simp at h0; subst h0; exact hc))
  have e : dval ((l.drop f).take j ++ c :: q) = q.foldl dstep (dval ((l.drop f).take j ++ [c])) := by
    unfold dval
    rw [← List.foldl_append]; simp
  rw [← e, dval_snoc] at h1
  omega
theorem numI_zero {least : Int} {l : List UInt8} {f j : Nat} {c : UInt8} (h : ∀ c ∈ (l.drop f).take j, isDig c = true) (hj : (l.drop f)[j]? = some c) (hc : isDig c = true) (h1 : 1 ≤ j)
    (h0 : (l.drop f)[0]? = some 48) : numI least l f = (0, -1) := by
  obtain ⟨q, hq, hx⟩ := run_more h hj hc
  have hl : j < (l.drop f).length := get_lt hj
  unfold numI
  rw [hq, if_neg]
  intro ho
  unfold okD at ho
  simp only [Bool.and_eq_true, decide_eq_true_eq, Bool.or_eq_true] at ho
  rcases ho.1.1.2 with h2 | h2
  · simp only [beq_iff_eq, List.length_append, List.length_cons, List.length_take] at h2; omega
  · generalize l.drop f = m at *
    cases m with
    | nil => simp at h0
    | cons a m =>
      simp at h0
      subst h0
      cases j with
      | zero => omega
      | succ j => simp at h2
theorem numI_stop {least : Int} {l : List UInt8} {f j : Nat} (h : ∀ c ∈ (l.drop f).take j, isDig c = true) (hj : (l.drop f)[j]? = none ∨ ∃ c, (l.drop f)[j]? = some c ∧ isDig c = false) (hl : j ≤ (l.drop f).length)
    (hn : dval ((l.drop f).take j) ≤ 2147483647) (hz : 2 ≤ j → (l.drop f)[0]? ≠ some 48) :
    numI least l f = if j = 0 ∨ dval ((l.drop f).take j) < least then (0, -1) else (dval ((l.drop f).take j), ((f + j : Nat) : Int)) := by
  unfold numI
  rw [run_stop h hj]
  have hlen : ((l.drop f).take j).length = j := by rw [List.length_take]; omega
  by_cases hj0 : j = 0
  · subst hj0
    simp [okD]
  · by_cases hle : dval ((l.drop f).take j) < least
    · have e : okD least ((l.drop f).take j) = false := by
        cases ho : okD least ((l.drop f).take j)
        · rfl
        unfold okD at ho
        simp only [Bool.and_eq_true, decide_eq_true_eq] at ho
        omega
      rw [e, if_pos (Or.inr hle)]; rfl
    · have e : okD least ((l.drop f).take j) = true := by
        unfold okD
        simp only [Bool.and_eq_true, decide_eq_true_eq, Bool.or_eq_true]
        refine ⟨⟨⟨?_, ?_⟩, hn⟩, by omega⟩
        · cases he : (l.drop f).take j with
          | nil => rw [he] at hlen; simp at hlen; omega
          | cons => rfl
        · by_cases h1 : j = 1
          · left; rw [hlen]; simp [h1]
          · right
            have := hz (by omega)
            generalize l.drop f = m at *
            cases m with
            | nil => simp at hl; omega
            | cons a m =>
              cases j with
              | zero => omega
              | succ j => simpa using this
      simp only [e, if_true]
      rw [if_neg (by omega), hlen]
def numV (least : Int) (l : List UInt8) (f : Nat) : Value := .tuple #[.int .i64 (numI least l f).1, .int .i64 (numI least l f).2]
theorem at_list {s : ByteArray} {f j : Nat} (h : f + j < s.size) : (s.data.toList.drop f)[j]? = some s[f + j] := by
  rw [List.getElem?_drop]
  simp [ByteArray.getElem_eq_getElem_data]
set_option maxHeartbeats 1000000 in
theorem number_any (s : ByteArray) (f : Nat) (least : Int) (w : World) (hs : s.size ≤ 1000000) (hf : f ≤ s.size) (hl0 : 0 ≤ least) (hl1 : least ≤ 1) :
    Calls Try.prog 36 #[.string s, .int .i64 (f : Int), .int .i64 least] w fun e w' => e = .returned (numV least s.data.toList f) ∧ w = w' := by
  have hlen : (s.data.toList.drop f).length = s.size - f := by simp
  have Hlen := Lib.hid hlen
  clear hlen
  go_enter Try.func36, Try.ntmps36
  go_wp2_with fail
  go_loop [1, 6] (fun i n => ∃ j : Nat, f + j ≤ s.size ∧ i = .int .i64 ((f + j : Nat) : Int) ∧ n = .int .i64 (dval ((s.data.toList.drop f).take j)) ∧ (∀ c ∈ (s.data.toList.drop f).take j, isDig c = true) ∧
    dval ((s.data.toList.drop f).take j) ≤ 2147483647 ∧ (2 ≤ j → (s.data.toList.drop f)[0]? ≠ some 48)) (fun i _ => s.size - (intOf i).toNat)
  case atStart => exact ⟨0, by omega, rfl, rfl, by simp, by simp [dval], by omega⟩
  case round =>
    obtain ⟨j, hj, rfl, rfl, hdig, hmax, hz⟩ := hrel
    have hnn := dval_nonneg _ hdig
    have Hts := fun (c : UInt8) (hc : (s.data.toList.drop f)[j]? = some c) => (show (s.data.toList.drop f).take (j + 1) = (s.data.toList.drop f).take j ++ [c] by rw [List.take_add_one, hc]; rfl)
    have Hd2 := fun (c : UInt8) (hc : (s.data.toList.drop f)[j]? = some c) => by have := dval_snoc ((s.data.toList.drop f).take j) c; rw [← Hts c hc] at this; exact this
    have Hdig := Lib.hid hdig
    have Hz := Lib.hid hz
    clear hdig hz
    have HTs := Lib.hid Hts
    have HD2 := Lib.hid Hd2
    clear Hts Hd2
    by_cases hlt : f + j < s.size
    · have hget := at_list hlt
      cases hd : isDig s[f + j]
      · have hnd : ¬ (48 ≤ (s[f + j].toNat : Int) ∧ (s[f + j].toNat : Int) ≤ 57) := by
          unfold isDig at hd; simp only [decide_eq_false_iff_not] at hd; omega
        have hstop := numI_stop (least := least) Hdig.out (.inr ⟨_, hget, hd⟩) (by rw [Hlen.out]; omega) hmax Hz.out
        have hv : numV least s.data.toList f = .tuple #[.int .i64 (numI least s.data.toList f).1, .int .i64 (numI least s.data.toList f).2] := rfl
        rw [hstop] at hv
        have Hv := Lib.hid hv
        clear hv
        clear hstop hget hd
        generalize dval ((s.data.toList.drop f).take j) = n at *
        by_cases hj0 : 0 < j
        · have hq1 : ((f : Int) + (j : Int) == (f : Int)) = false := by simp only [beq_eq_false_iff_ne, ne_eq]; omega
          by_cases hnl : n < least
          · have hq2 : decide (n < least) = true := by simpa using hnl
            have hv2 : numV least s.data.toList f = .tuple #[.int .i64 0, .int .i64 (-1)] := by rw [Hv.out, if_pos (Or.inr hnl)]
            have Hv2 := Lib.hid hv2
            clear hv2
            go_wp2
            all_goals
              go_ret2
              exact ⟨by rw [Hv2.out]; rfl, rfl⟩
          · have hq2 : decide (n < least) = false := by simpa using hnl
            have hv2 : numV least s.data.toList f = .tuple #[.int .i64 n, .int .i64 ((f : Int) + (j : Int))] := by rw [Hv.out, if_neg (by omega)]; push_cast; rfl
            have Hv2 := Lib.hid hv2
            clear hv2
            go_wp2
            all_goals
              go_ret2
              exact ⟨by rw [Hv2.out]; rfl, rfl⟩
        · have hv2 : numV least s.data.toList f = .tuple #[.int .i64 0, .int .i64 (-1)] := by rw [Hv.out, if_pos (Or.inl (by omega))]
          have Hv2 := Lib.hid hv2
          clear hv2
          go_wp2
          all_goals
            go_ret2
            exact ⟨by rw [Hv2.out]; rfl, rfl⟩
      · have hb := isDig_bd hd
        obtain ⟨hb0, hb1⟩ := hb
        have hts := HTs.out _ hget
        have hd2 := HD2.out _ hget
        have hgr := numI_great (least := least) Hdig.out hget hd
        have hzr := numI_zero (least := least) Hdig.out hget hd
        have hdg2 : ∀ c ∈ (s.data.toList.drop f).take (j + 1), isDig c = true := by
          rw [hts]
          intro x hx
          rcases List.mem_append.1 hx with h0 | h0
          · exact Hdig.out x h0
          · simp at h0; subst h0; exact hd
        have h0g : 0 < j → (s.data.toList.drop f)[0]? = some s[f] := fun h => by have := at_list (s := s) (f := f) (j := 0) (by omega); simpa using this
        have Hts := Lib.hid hts
        have Hget := Lib.hid hget
        have Hd := Lib.hid hd
        have Hd2 := Lib.hid hd2
        have Hgr := Lib.hid hgr
        have Hzr := Lib.hid hzr
        have Hdg2 := Lib.hid hdg2
        have H0g := Lib.hid h0g
        clear hts hget hd hd2 hgr hzr hdg2 h0g
        generalize dval ((s.data.toList.drop f).take j) = n at *
        by_cases hmx : 2147483647 < 10 * n + ((s[f + j].toNat : Int) - 48)
        · have hv : numV least s.data.toList f = .tuple #[.int .i64 0, .int .i64 (-1)] := by unfold numV; rw [Hgr.out hmx]
          have Hv := Lib.hid hv
          clear hv
          clear Hgr Hzr
          go_wp2
          all_goals
            go_ret2
            exact ⟨by rw [Hv.out]; rfl, rfl⟩
        · by_cases hj0 : 0 < j
          · have hc0 := H0g.out hj0
            by_cases hz48 : s[f] = 48
            · have hv : numV least s.data.toList f = .tuple #[.int .i64 0, .int .i64 (-1)] := by unfold numV; rw [Hzr.out hj0 (by rw [hc0, hz48])]
              have hb48 : ((s[f].toNat : Int) == 48) = true := by rw [hz48]; rfl
              have Hv := Lib.hid hv
              clear hv
              clear Hgr Hzr hc0 hz48
              go_wp2
              all_goals
                go_ret2
                exact ⟨by rw [Hv.out]; rfl, rfl⟩
            · have hb48 : ((s[f].toNat : Int) == 48) = false := by
                simp only [beq_eq_false_iff_ne, ne_eq]
                intro e
                exact hz48 (UInt8.toNat_inj.1 (by have : s[f].toNat = 48 := by omega
                                                  rw [this]; rfl))
              have hz2 : 2 ≤ j + 1 → (s.data.toList.drop f)[0]? ≠ some 48 := fun _ => by rw [hc0]; simpa using hz48
              have hd3 : dval ((s.data.toList.drop f).take (j + 1)) ≤ 2147483647 := by rw [Hd2.out]; omega
              have he3 : Value.int .i64 (10 * n + ((s[f + j].toNat : Int) - 48)) = .int .i64 (dval ((s.data.toList.drop f).take (j + 1))) := by rw [Hd2.out]
              have Hz2 := Lib.hid hz2
              have Hd3 := Lib.hid hd3
              have He3 := Lib.hid he3
              clear hz2 hd3 he3
              clear Hgr Hzr hc0 hz48
              go_wp2
              go_round
              case rel => exact ⟨j + 1, by omega, by go_num, by first | exact He3.out | (rw [← He3.out]; go_num), Hdg2.out, Hd3.out, Hz2.out⟩
              case measure => simp [intOf]; omega
          · have hd3 : dval ((s.data.toList.drop f).take (j + 1)) ≤ 2147483647 := by rw [Hd2.out]; omega
            have he3 : Value.int .i64 (10 * n + ((s[f + j].toNat : Int) - 48)) = .int .i64 (dval ((s.data.toList.drop f).take (j + 1))) := by rw [Hd2.out]
            have Hd3 := Lib.hid hd3
            have He3 := Lib.hid he3
            clear hd3 he3
            clear Hgr Hzr
            go_wp2
            go_round
            case rel => exact ⟨j + 1, by omega, by go_num, by first | exact He3.out | (rw [← He3.out]; go_num), Hdg2.out, Hd3.out, by omega⟩
            case measure => simp [intOf]; omega
    · have hnone : (s.data.toList.drop f)[j]? = none := by rw [List.getElem?_eq_none_iff, Hlen.out]; omega
      have hstop := numI_stop (least := least) Hdig.out (.inl hnone) (by rw [Hlen.out]; omega) hmax Hz.out
      have hv : numV least s.data.toList f = .tuple #[.int .i64 (numI least s.data.toList f).1, .int .i64 (numI least s.data.toList f).2] := rfl
      rw [hstop] at hv
      have Hv := Lib.hid hv
      clear hv
      clear hstop hnone HTs HD2
      generalize dval ((s.data.toList.drop f).take j) = n at *
      by_cases hj0 : 0 < j
      · have hq1 : ((f : Int) + (j : Int) == (f : Int)) = false := by simp only [beq_eq_false_iff_ne, ne_eq]; omega
        by_cases hnl : n < least
        · have hq2 : decide (n < least) = true := by simpa using hnl
          have hv2 : numV least s.data.toList f = .tuple #[.int .i64 0, .int .i64 (-1)] := by rw [Hv.out, if_pos (Or.inr hnl)]
          have Hv2 := Lib.hid hv2
          clear hv2
          go_wp2
          all_goals
            go_ret2
            exact ⟨by rw [Hv2.out]; rfl, rfl⟩
        · have hq2 : decide (n < least) = false := by simpa using hnl
          have hv2 : numV least s.data.toList f = .tuple #[.int .i64 n, .int .i64 ((f : Int) + (j : Int))] := by rw [Hv.out, if_neg (by omega)]; push_cast; rfl
          have Hv2 := Lib.hid hv2
          clear hv2
          go_wp2
          all_goals
            go_ret2
            exact ⟨by rw [Hv2.out]; rfl, rfl⟩
      · have hv2 : numV least s.data.toList f = .tuple #[.int .i64 0, .int .i64 (-1)] := by rw [Hv.out, if_pos (Or.inl (by omega))]
        have Hv2 := Lib.hid hv2
        clear hv2
        go_wp2
        all_goals
          go_ret2
          exact ⟨by rw [Hv2.out]; rfl, rfl⟩
end Go.Proofs.Ytnmcdecdgcnmbaa
