/- trace.read and trace.Req. -/
import Derived.Test.YtnmcdecdgcnmbaaTraceNum
set_option linter.unusedVariables false
namespace Go.Proofs.Ytnmcdecdgcnmbaa
open Go.RowKit

theorem numI_none {least : Int} {l : List UInt8} {f : Nat} (h : numL least (l.drop f) = none) : numI least l f = (0, -1) := by
  unfold numL at h
  unfold numI
  split at h
  · simp at h
  · rename_i ho; rw [if_neg ho]
theorem drop_run (m : List UInt8) : m.drop (m.takeWhile isDig).length = m.dropWhile isDig := by
  induction m with
  | nil => rfl
  | cons a m ih => by_cases ha : isDig a <;> simp [ha, ih]
theorem numI_some {least : Int} {l : List UInt8} {f : Nat} {v : Int} {r : List UInt8} (h : numL least (l.drop f) = some (v, r)) :
    ∃ p : Nat, numI least l f = (v, (p : Int)) ∧ f < p ∧ p ≤ l.length ∧ l.drop p = r := by
  unfold numL at h
  unfold numI
  split at h
  · rename_i ho
    simp at h
    rw [if_pos ho]
    have h1 := okD_pos ho
    have h2 := take_drop_len (l.drop f)
    have h3 : (l.drop f).length = l.length - f := List.length_drop
    refine ⟨f + ((l.drop f).takeWhile isDig).length, by rw [h.1], by omega, by omega, ?_⟩
    rw [← List.drop_drop, drop_run, h.2]
  · simp at h
theorem number_no (s : ByteArray) (f : Nat) (least : Int) (w : World) (hs : s.size ≤ 1000000) (hf : f ≤ s.size) (hl0 : 0 ≤ least) (hl1 : least ≤ 1) (h : numL least (s.data.toList.drop f) = none) :
    Calls Try.prog 36 #[.string s, .int .i64 (f : Int), .int .i64 least] w fun e w' => e = .returned (.tuple #[.int .i64 0, .int .i64 (-1)]) ∧ w = w' :=
  (number_any s f least w hs hf hl0 hl1).mono fun e w' ⟨he, hw⟩ => ⟨by rw [he]; unfold numV; rw [numI_none h], hw⟩
theorem number_yes (s : ByteArray) (f : Nat) (least v : Int) (r : List UInt8) (w : World) (hs : s.size ≤ 1000000) (hf : f ≤ s.size) (hl0 : 0 ≤ least) (hl1 : least ≤ 1) (h : numL least (s.data.toList.drop f) = some (v, r)) :
    Calls Try.prog 36 #[.string s, .int .i64 (f : Int), .int .i64 least] w fun e w' => ∃ p : Nat, e = .returned (.tuple #[.int .i64 v, .int .i64 (p : Int)]) ∧ f < p ∧ p ≤ s.size ∧ s.data.toList.drop p = r ∧ w = w' :=
  (number_any s f least w hs hf hl0 hl1).mono fun e w' ⟨he, hw⟩ => by
    obtain ⟨p, hp, h1, h2, h3⟩ := numI_some h
    exact ⟨p, by rw [he]; unfold numV; rw [hp], h1, by simpa using h2, h3, hw⟩

def readI (l : List UInt8) : Int := match readL l with
  | some (r, _) => r
  | none => 0
def readT (l : List UInt8) : Bool := match readL l with
  | some (_, t) => t
  | none => false
theorem readI_eq (l : List UInt8) : readI l = reqL l := rfl
theorem read_end {l : List UInt8} {v : Int} {t : Bool} {m : List UInt8} (h : readL l = (goL t m).map fun u => (v, u)) : (m = [] → readI l = v ∧ readT l = t) ∧ (goL t m = none → readI l = 0 ∧ readT l = false) := by
  unfold readI readT
  constructor
  · intro hm
    rw [hm, goL_nil] at h
    rw [h]; exact ⟨rfl, rfl⟩
  · intro hm
    rw [hm] at h
    rw [h]; exact ⟨rfl, rfl⟩
theorem drop_cons {l : List UInt8} {k : Nat} {c : UInt8} (h : l[k]? = some c) : l.drop k = c :: l.drop (k + 1) := by
  have hl := get_lt h
  rw [List.drop_eq_getElem_cons hl]
  rw [List.getElem?_eq_getElem hl] at h
  simp at h
  rw [h]
theorem byte_at {s : ByteArray} {k : Nat} (h : k < s.size) : s.data.toList[k]? = some s[k] := by
  simp [ByteArray.getElem_eq_getElem_data]
theorem byte_yes {c d : UInt8} {n : Int} (hn : n = (d.toNat : Int)) (h : c = d) : ((c.toNat : Int) == n) = true := by subst hn; subst h; simp
theorem byte_no {c d : UInt8} {n : Int} (hn : n = (d.toNat : Int)) (h : ¬ c = d) : ((c.toNat : Int) == n) = false := by
  subst hn
  simp only [beq_eq_false_iff_ne, ne_eq]
  intro e
  exact h (UInt8.toNat_inj.1 (by omega))
set_option maxHeartbeats 1000000 in
theorem read_any (s : ByteArray) (w : World) (hs : s.size ≤ 1000000) :
    Calls Try.prog 27 #[.string s] w fun e w' => e = .returned (.tuple #[.int .i64 (readI s.data.toList), .bool (readT s.data.toList)]) ∧ w = w' := by
  cases hn : numL 1 s.data.toList with
  | none =>
    have hr : readI s.data.toList = 0 ∧ readT s.data.toList = false := by unfold readI readT readL; rw [hn]; exact ⟨rfl, rfl⟩
    have Hn : Hid (numL 1 (s.data.toList.drop 0) = none) := Lib.hid hn
    have Hr := Lib.hid hr
    clear hr
    clear hn
    go_enter Try.func27, Try.ntmps27
    go_wp2_with fail
    refine (number_no s 0 1 _ hs (by omega) (by omega) (by omega) Hn.out).mono ?_
    rintro e w' ⟨rfl, rfl⟩
    go_wp2
    go_ret2
    exact ⟨by rw [Hr.out.1, Hr.out.2]; rfl, rfl⟩
  | some p =>
    obtain ⟨v, r⟩ := p
    have hr : readL s.data.toList = (goL false r).map fun u => (v, u) := by unfold readL; rw [hn]; rfl
    have Hn : Hid (numL 1 (s.data.toList.drop 0) = some (v, r)) := Lib.hid hn
    have hv := (numL_pos hn).1
    have Hr := Lib.hid hr
    clear hr
    clear hn
    go_enter Try.func27, Try.ntmps27
    go_wp2_with fail
    refine (number_yes s 0 1 v r _ hs (by omega) (by omega) (by omega) Hn.out).mono ?_
    rintro e w' ⟨p, rfl, hp0, hp1, hpr, rfl⟩
    have hrel0 : readL s.data.toList = (goL false (s.data.toList.drop p)).map fun u => (v, u) := by rw [hpr]; exact Hr.out
    have Hrel0 := Lib.hid hrel0
    clear hrel0
    clear hpr
    go_wp2_with fail
    go_loop [2, 3, 4] (fun r t i => ∃ (k : Nat) (tr : Bool), k ≤ s.size ∧ r = .int .i64 v ∧ i = .int .i64 (k : Int) ∧ t = .bool tr ∧ readL s.data.toList = (goL tr (s.data.toList.drop k)).map fun u => (v, u)) (fun _ _ i => s.size - (intOf i).toNat)
    case atStart => exact ⟨p, false, hp1, rfl, rfl, rfl, Hrel0.out⟩
    case round =>
      obtain ⟨k, tr, hk, rfl, rfl, rfl, hrl⟩ := hrel
      have hend := read_end hrl
      by_cases hlt : k < s.size
      · have hdc := drop_cons (byte_at hlt)
        rw [hdc] at hrl hend
        cases tr
        · by_cases h126 : s[k] = 126
          · have hb : ((s[k].toNat : Int) == 126) = true := byte_yes (d := 126) rfl h126
            rw [h126, goL_tilde] at hrl
            have Hrl := Lib.hid hrl
            clear hrl
            clear hend hdc h126
            go_wp2
            go_round
            case rel => exact ⟨k + 1, false, by omega, rfl, by go_num, rfl, Hrl.out⟩
            case measure => simp [intOf]; omega
          · have hb : ((s[k].toNat : Int) == 126) = false := byte_no (d := 126) rfl h126
            by_cases h58 : s[k] = 58
            · have hb2 : ((s[k].toNat : Int) == 58) = true := byte_yes (d := 58) rfl h58
              rw [h58, goL_colon] at hrl hend
              cases hn : numL 1 (s.data.toList.drop (k + 1)) with
              | none =>
                have hr := hend.2 (by rw [hn]; rfl)
                have Hr := Lib.hid hr
                have Hn := Lib.hid hn
                clear hr hn
                clear hend hdc h126 h58 hrl
                go_wp2_with fail
                refine (number_no s (k + 1) 1 _ hs (by omega) (by omega) (by omega) Hn.out).mono ?_
                rintro e w' ⟨rfl, rfl⟩
                go_wp2
                go_ret2
                exact ⟨by rw [Hr.out.1, Hr.out.2]; rfl, rfl⟩
              | some q =>
                obtain ⟨x, r2⟩ := q
                rw [hn] at hrl
                have Hrl := Lib.hid hrl
                have Hn := Lib.hid hn
                clear hrl hn
                clear hend hdc h126 h58
                go_wp2_with fail
                refine (number_yes s (k + 1) 1 x r2 _ hs (by omega) (by omega) (by omega) Hn.out).mono ?_
                rintro e w' ⟨p2, rfl, hq0, hq1, hqr, rfl⟩
                have hrl2 : readL s.data.toList = (goL true (s.data.toList.drop p2)).map fun u => (v, u) := by rw [hqr]; exact Hrl.out
                have Hrl2 := Lib.hid hrl2
                clear hrl2
                clear hqr
                go_wp2
                go_round
                case rel => exact ⟨p2, true, by omega, rfl, by go_num, rfl, Hrl2.out⟩
                case measure => simp [intOf]; omega
            · have hb2 : ((s[k].toNat : Int) == 58) = false := byte_no (d := 58) rfl h58
              have hr := hend.2 (goL_false_other _ _ h126 h58)
              have Hr := Lib.hid hr
              clear hr
              clear hend hdc h126 h58 hrl
              go_wp2
              go_ret2
              exact ⟨by rw [Hr.out.1, Hr.out.2]; rfl, rfl⟩
        · by_cases h47 : s[k] = 47
          · have hb : ((s[k].toNat : Int) == 47) = true := byte_yes (d := 47) rfl h47
            rw [h47, goL_slash] at hrl hend
            cases hn : numL 0 (s.data.toList.drop (k + 1)) with
            | none =>
              have hr := hend.2 (by rw [hn]; rfl)
              have Hr := Lib.hid hr
              have Hn := Lib.hid hn
              clear hr hn
              clear hend hdc h47 hrl
              go_wp2_with fail
              refine (number_no s (k + 1) 0 _ hs (by omega) (by omega) (by omega) Hn.out).mono ?_
              rintro e w' ⟨rfl, rfl⟩
              go_wp2
              go_ret2
              exact ⟨by rw [Hr.out.1, Hr.out.2]; rfl, rfl⟩
            | some q =>
              obtain ⟨x, r2⟩ := q
              rw [hn] at hrl
              have Hrl := Lib.hid hrl
              have Hn := Lib.hid hn
              clear hrl hn
              clear hend hdc h47
              go_wp2_with fail
              refine (number_yes s (k + 1) 0 x r2 _ hs (by omega) (by omega) (by omega) Hn.out).mono ?_
              rintro e w' ⟨p2, rfl, hq0, hq1, hqr, rfl⟩
              have hrl2 : readL s.data.toList = (goL false (s.data.toList.drop p2)).map fun u => (v, u) := by rw [hqr]; exact Hrl.out
              have Hrl2 := Lib.hid hrl2
              clear hrl2
              clear hqr
              go_wp2
              go_round
              case rel => exact ⟨p2, false, by omega, rfl, by go_num, rfl, Hrl2.out⟩
              case measure => simp [intOf]; omega
          · have hb : ((s[k].toNat : Int) == 47) = false := byte_no (d := 47) rfl h47
            have hr := hend.2 (goL_true_other _ _ h47)
            have Hr := Lib.hid hr
            clear hr
            clear hend hdc h47 hrl
            go_wp2
            go_ret2
            exact ⟨by rw [Hr.out.1, Hr.out.2]; rfl, rfl⟩
      · have hr := hend.1 (List.drop_eq_nil_of_le (by simp; omega))
        have Hr := Lib.hid hr
        clear hr
        clear hend hrl
        go_wp2
        go_ret2
        exact ⟨by rw [Hr.out.1, Hr.out.2]; rfl, rfl⟩
theorem req_any (s : ByteArray) (w : World) (hs : s.size ≤ 1000000) :
    Calls Try.prog 12 #[.string s] w fun e w' => e = .returned (.int .i64 (reqL s.data.toList)) ∧ w = w' := by
  go_enter Try.func12, Try.ntmps12
  go_wp2_with fail
  refine (read_any s _ hs).mono ?_
  rintro e w' ⟨rfl, rfl⟩
  go_wp2
  go_ret
  exact ⟨rfl, rfl⟩
end Go.Proofs.Ytnmcdecdgcnmbaa
