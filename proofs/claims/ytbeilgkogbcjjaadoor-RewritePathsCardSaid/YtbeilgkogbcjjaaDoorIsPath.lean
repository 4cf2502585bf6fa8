/- IsPath of the reference, byte by byte. -/
import Derived.Test.YtbeilgkogbcjjaaDoorPathC
import Derived.Test.YtbeilgkogbcjjaaDoorHeadMay
import Derived.Outline
set_option linter.unusedVariables false
namespace Go.Proofs.YtbeilgkogbcjjaaDoor
open Go.RowKit

theorem chain_last : ∀ (r : List UInt8) (p : Bool), chain (r ++ [47]) p = false := by
  have h47 : okB 47 = false := by decide
  intro r
  induction r with
  | nil => intro p; cases p <;> simp [chain, h47]
  | cons c r ih =>
    intro p
    rw [List.cons_append, chain]
    split
    · exact ih _
    · split
      · exact ih _
      · rfl
theorem isPath_chain {s : ByteArray} (h1 : ¬ s = ⟨#[47]⟩) : isPathL s.data.toList = (decide (s.size ≤ 60) && (decide (s.data.toList.head? = some 47) && chain s.data.toList.tail true)) := by
  unfold isPathL
  obtain ⟨h, t, e⟩ := cutL_ne s.data.toList.tail
  rw [decide_eq_false (ne_slash h1), Bool.false_or, ba_len, (chain_cut _ h t e).1, e, List.all_cons]
theorem chain_at {s : ByteArray} {k : Nat} (hk : k < s.size) (p : Bool) : chain (s.data.toList.drop k) p = (if okB s[k] then chain (s.data.toList.drop (k + 1)) false else if s[k] = 47 ∧ p = false then chain (s.data.toList.drop (k + 1)) true else false) := by
  have hd : s.data.toList.drop k = s[k] :: s.data.toList.drop (k + 1) := by
    rw [List.drop_eq_getElem_cons (by rw [ba_len]; exact hk)]; rfl
  rw [hd, chain]
theorem chain_end {s : ByteArray} {k : Nat} (hk : s.size ≤ k) (p : Bool) : chain (s.data.toList.drop k) p = !p := by
  rw [List.drop_of_length_le (by rw [ba_len]; exact hk), chain]
/-- A byte against a number. -/
theorem byte_eq (c : UInt8) : (c = 47) ↔ c.toNat = 47 := by
  constructor
  · intro h; subst h; rfl
  · intro h; exact UInt8.toNat_inj.1 h
set_option maxHeartbeats 4000000 in
theorem isPath_any (s : ByteArray) (w : World) (hs : s.size ≤ 1000000) :
    Calls Tryd.prog 12 #[.string s] w fun e w' => e = .returned (.bool (isPathL s.data.toList)) ∧ w = w' := by
  by_cases h1 : s = ⟨#[47]⟩
  · subst h1
    rw [isPath_slash]
    go_enter Tryd.func12, Tryd.ntmps12
    go_wp2_with fail
    go_ret
    exact ⟨rfl, rfl⟩
  have hst := slash_test h1
  have hi := isPath_chain h1
  by_cases hz2 : s.size < 2
  · have hr : isPathL s.data.toList = false := by
      rw [hi]
      cases e : s.data.toList with
      | nil => simp
      | cons a l =>
        have : l = [] := by
          have := ba_len s
          rw [e] at this
          exact List.eq_nil_of_length_eq_zero (by simp at this; omega)
        subst this
        have hne : ¬ a = 47 := fun h => h1 (ba_ext (by rw [e, h]))
        simp [hne]
    rw [hr]
    have H1 := Lib.hid h1
    have Hi := Lib.hid hi
    have Hr := Lib.hid hr
    clear h1 hi hr
    go_enter Tryd.func12, Tryd.ntmps12
    go_wp2_with fail
    go_ret
    exact ⟨rfl, rfl⟩
  by_cases hz60 : 60 < s.size
  · have hr : isPathL s.data.toList = false := by rw [hi, decide_eq_false (by omega)]; rfl
    rw [hr]
    have H1 := Lib.hid h1
    have Hi := Lib.hid hi
    have Hr := Lib.hid hr
    clear h1 hi hr
    go_enter Tryd.func12, Tryd.ntmps12
    go_wp2_with fail
    go_ret
    exact ⟨rfl, rfl⟩
  rw [decide_eq_true (by omega), Bool.true_and] at hi
  have hz0 : 0 < s.size := by omega
  have hhd : decide (s.data.toList.head? = some 47) = decide (s[0].toNat = 47) := by
    have e : s.data.toList.head? = some s[0] := by rw [List.head?_eq_getElem?, get_byte hz0]
    rw [e]
    simp [byte_eq]
  rw [hhd] at hi
  by_cases hfirst : s[0].toNat = 47
  · have t0 : ((s[0].toNat : Int) != 47) = false := by simp; omega
    rw [decide_eq_true hfirst, Bool.true_and] at hi
    have hl1 : s.size - 1 < s.size := by omega
    have hl2 : ((s.size : Int) - 1) = ((s.size - 1 : Nat) : Int) := by omega
    by_cases hlast : s[s.size - 1].toNat = 47
    · have hr : isPathL s.data.toList = false := by
        rw [hi]
        have e : s.data.toList.tail = s.data.toList.tail.dropLast ++ [47] := by
          have hne : s.data.toList.tail ≠ [] := by
            intro h
            have := congrArg List.length h
            rw [List.length_tail, ba_len] at this
            simp at this; omega
          have hg : s.data.toList.tail.getLast hne = 47 := by
            rw [List.getLast_eq_getElem]
            have h5 := get_byte hl1
            rw [(byte_eq _).2 hlast] at h5
            have h6 : s.data.toList.tail[s.data.toList.tail.length - 1]? = some 47 := by
              rw [List.getElem?_tail, List.length_tail, ba_len, show s.size - 1 - 1 + 1 = s.size - 1 from by omega]; exact h5
            rw [List.getElem?_eq_getElem (by rw [List.length_tail, ba_len]; omega)] at h6
            simpa using h6
          conv => lhs; rw [← List.dropLast_concat_getLast hne, hg]
        rw [e, chain_last]
      rw [hr]
      have tl : ((s[s.size - 1].toNat : Int) == 47) = true := by simp; omega
      have H1 := Lib.hid h1
      have Hi := Lib.hid hi
      have Hr := Lib.hid hr
      have Hfirst := Lib.hid hfirst
      have Hlast := Lib.hid hlast
      have Hhd := Lib.hid hhd
      clear h1 hi hr hfirst hlast hhd
      go_enter Tryd.func12, Tryd.ntmps12
      go_wp2_with fail
      go_ret
      exact ⟨rfl, rfl⟩
    · have tl : ((s[s.size - 1].toNat : Int) == 47) = false := by simp; omega
      rw [← List.drop_one] at hi
      have he2 : ∀ k, s.size ≤ k + 1 → k < s.size → ∀ h, decide (s[k]'h = 47) = false := fun k h h' h2 => by
        obtain rfl : k = s.size - 1 := by omega
        exact decide_eq_false (fun e => hlast ((byte_eq _).1 e))
      generalize isPathL s.data.toList = R at *
      have hi0 : R = chain (s.data.toList.drop (0 + 1)) (decide (s[0] = 47)) := by rw [hi, decide_eq_true ((byte_eq _).2 hfirst)]
      have H1 := Lib.hid h1
      have Hi := Lib.hid hi
      have Hi0 := Lib.hid hi0
      have Hfirst := Lib.hid hfirst
      have Hlast := Lib.hid hlast
      have Hhd := Lib.hid hhd
      have He2 := Lib.hid he2
      clear h1 hi hi0 hfirst hlast hhd he2
      go_enter Tryd.func12, Tryd.ntmps12
      go_wp2_with fail
      go_loop [2, 3] (fun r i => ∃ (j : Nat) (hj : j < s.size), r = .bool false ∧ i = .int .i64 ((j + 1 : Nat) : Int) ∧ R = chain (s.data.toList.drop (j + 1)) (decide (s[j] = 47))) (fun _ i => s.size - (intOf i).toNat)
      case atStart => exact ⟨0, hz0, rfl, rfl, Hi0.out⟩
      case round =>
        obtain ⟨j, hj, rfl, rfl, hch⟩ := hrel
        by_cases hlt : j + 1 < s.size
        · rw [chain_at hlt] at hch
          obtain ⟨z, hzz⟩ : ∃ z : Nat, z = s[j + 1].toNat := ⟨_, rfl⟩
          have hok : okB s[j + 1] = okBN z := by rw [hzz]; rfl
          have h47 : (s[j + 1] = 47) ↔ z = 47 := by rw [byte_eq, hzz]
          have hp1 : (s[j] = 47) ↔ s[j].toNat = 47 := byte_eq _
          rw [hok] at hch
          have e1 : (((j + 1 : Nat) : Int) - 1) = (j : Int) := by omega
          have Hok := Lib.hid hok
          clear hok
          have hcs : z < 45 ∨ z = 45 ∨ z = 46 ∨ z = 47 ∨ (48 ≤ z ∧ z ≤ 57) ∨ (58 ≤ z ∧ z ≤ 94) ∨ z = 95 ∨ z = 96 ∨ (97 ≤ z ∧ z ≤ 122) ∨ 123 ≤ z := by omega
          rcases hcs with h0 | h1 | h2 | h3 | h4 | h5 | h6 | h7 | h8 | h9
          · have t1 : decide ((97 : Int) ≤ (s[j + 1].toNat : Int)) = false := decide_eq_false (by omega)
            have t2 : decide ((s[j + 1].toNat : Int) ≤ 122) = true := decide_eq_true (by omega)
            have t3 : decide ((48 : Int) ≤ (s[j + 1].toNat : Int)) = false := decide_eq_false (by omega)
            have t4 : decide ((s[j + 1].toNat : Int) ≤ 57) = true := decide_eq_true (by omega)
            have t5 : ((s[j + 1].toNat : Int) == 45) = false := by simp; omega
            have t6 : ((s[j + 1].toNat : Int) == 95) = false := by simp; omega
            have t7 : ((s[j + 1].toNat : Int) == 46) = false := by simp; omega
            have t8 : ((s[j + 1].toNat : Int) != 47) = true := by simp; omega
            have hr : okBN z = false := by unfold okBN; exact decide_eq_false (by omega)
            rw [if_neg (by rw [hr]; simp), if_neg (fun e => by have := h47.1 e.1; omega)] at hch
            have Hch := Lib.hid hch
            have Hr := Lib.hid hr
            have H0 := Lib.hid h0
            have H47 := Lib.hid h47
            have Hzz := Lib.hid hzz
            have Hp1 := Lib.hid hp1
            clear hch hr h0 h47 hzz hp1
            go_wp2_with fail
            go_ret
            exact ⟨by rw [Hch.out]; rfl, rfl⟩
          · have t1 : decide ((97 : Int) ≤ (s[j + 1].toNat : Int)) = false := decide_eq_false (by omega)
            have t2 : decide ((s[j + 1].toNat : Int) ≤ 122) = true := decide_eq_true (by omega)
            have t3 : decide ((48 : Int) ≤ (s[j + 1].toNat : Int)) = false := decide_eq_false (by omega)
            have t4 : decide ((s[j + 1].toNat : Int) ≤ 57) = true := decide_eq_true (by omega)
            have t5 : ((s[j + 1].toNat : Int) == 45) = true := by simp; omega
            have t6 : ((s[j + 1].toNat : Int) == 95) = false := by simp; omega
            have t7 : ((s[j + 1].toNat : Int) == 46) = false := by simp; omega
            have t8 : ((s[j + 1].toNat : Int) != 47) = true := by simp; omega
            have hr : okBN z = true := by unfold okBN; exact decide_eq_true (by omega)
            rw [if_pos hr] at hch
            have hn : decide (s[j + 1] = 47) = false := decide_eq_false (fun e => by have := h47.1 e; omega)
            rw [← hn] at hch
            have Hch := Lib.hid hch
            have Hr := Lib.hid hr
            have H1 := Lib.hid h1
            have Hn := Lib.hid hn
            have H47 := Lib.hid h47
            have Hzz := Lib.hid hzz
            have Hp1 := Lib.hid hp1
            clear hch hr h1 hn h47 hzz hp1
            go_wp2_with fail
            go_round
            case rel => exact ⟨j + 1, hlt, rfl, by go_num, Hch.out⟩
            case measure => simp [intOf]; omega
          · have t1 : decide ((97 : Int) ≤ (s[j + 1].toNat : Int)) = false := decide_eq_false (by omega)
            have t2 : decide ((s[j + 1].toNat : Int) ≤ 122) = true := decide_eq_true (by omega)
            have t3 : decide ((48 : Int) ≤ (s[j + 1].toNat : Int)) = false := decide_eq_false (by omega)
            have t4 : decide ((s[j + 1].toNat : Int) ≤ 57) = true := decide_eq_true (by omega)
            have t5 : ((s[j + 1].toNat : Int) == 45) = false := by simp; omega
            have t6 : ((s[j + 1].toNat : Int) == 95) = false := by simp; omega
            have t7 : ((s[j + 1].toNat : Int) == 46) = true := by simp; omega
            have t8 : ((s[j + 1].toNat : Int) != 47) = true := by simp; omega
            have hr : okBN z = true := by unfold okBN; exact decide_eq_true (by omega)
            rw [if_pos hr] at hch
            have hn : decide (s[j + 1] = 47) = false := decide_eq_false (fun e => by have := h47.1 e; omega)
            rw [← hn] at hch
            have Hch := Lib.hid hch
            have Hr := Lib.hid hr
            have H2 := Lib.hid h2
            have Hn := Lib.hid hn
            have H47 := Lib.hid h47
            have Hzz := Lib.hid hzz
            have Hp1 := Lib.hid hp1
            clear hch hr h2 hn h47 hzz hp1
            go_wp2_with fail
            go_round
            case rel => exact ⟨j + 1, hlt, rfl, by go_num, Hch.out⟩
            case measure => simp [intOf]; omega
          · have t1 : decide ((97 : Int) ≤ (s[j + 1].toNat : Int)) = false := decide_eq_false (by omega)
            have t2 : decide ((s[j + 1].toNat : Int) ≤ 122) = true := decide_eq_true (by omega)
            have t3 : decide ((48 : Int) ≤ (s[j + 1].toNat : Int)) = false := decide_eq_false (by omega)
            have t4 : decide ((s[j + 1].toNat : Int) ≤ 57) = true := decide_eq_true (by omega)
            have t5 : ((s[j + 1].toNat : Int) == 45) = false := by simp; omega
            have t6 : ((s[j + 1].toNat : Int) == 95) = false := by simp; omega
            have t7 : ((s[j + 1].toNat : Int) == 46) = false := by simp; omega
            have t8 : ((s[j + 1].toNat : Int) != 47) = false := by simp; omega
            have hr : okBN z = false := by unfold okBN; exact decide_eq_false (by omega)
            rw [if_neg (by rw [hr]; simp)] at hch
            by_cases hpv : s[j].toNat = 47
            · rw [if_neg (fun e => by have := e.2; rw [decide_eq_true (hp1.2 hpv)] at this; simp at this)] at hch
              have tp : ((s[j].toNat : Int) == 47) = true := by simp; omega
              have Hch := Lib.hid hch
              have Hr := Lib.hid hr
              have H3 := Lib.hid h3
              have H47 := Lib.hid h47
              have Hzz := Lib.hid hzz
              have Hp1 := Lib.hid hp1
              have Hpv := Lib.hid hpv
              clear hch hr h3 h47 hzz hp1 hpv
              go_wp2_with fail
              go_ret
              exact ⟨by rw [Hch.out]; rfl, rfl⟩
            · rw [if_pos ⟨h47.2 h3, decide_eq_false (fun e => hpv (hp1.1 e))⟩] at hch
              have tp : ((s[j].toNat : Int) == 47) = false := by simp; omega
              have hn : decide (s[j + 1] = 47) = true := decide_eq_true (h47.2 h3)
              rw [← hn] at hch
              have Hch := Lib.hid hch
              have Hr := Lib.hid hr
              have H3 := Lib.hid h3
              have Hn := Lib.hid hn
              have H47 := Lib.hid h47
              have Hzz := Lib.hid hzz
              have Hp1 := Lib.hid hp1
              have Hpv := Lib.hid hpv
              clear hch hr h3 hn h47 hzz hp1 hpv
              go_wp2_with fail
              go_round
              case rel => exact ⟨j + 1, hlt, rfl, by go_num, Hch.out⟩
              case measure => simp [intOf]; omega
          · have t1 : decide ((97 : Int) ≤ (s[j + 1].toNat : Int)) = false := decide_eq_false (by omega)
            have t2 : decide ((s[j + 1].toNat : Int) ≤ 122) = true := decide_eq_true (by omega)
            have t3 : decide ((48 : Int) ≤ (s[j + 1].toNat : Int)) = true := decide_eq_true (by omega)
            have t4 : decide ((s[j + 1].toNat : Int) ≤ 57) = true := decide_eq_true (by omega)
            have t5 : ((s[j + 1].toNat : Int) == 45) = false := by simp; omega
            have t6 : ((s[j + 1].toNat : Int) == 95) = false := by simp; omega
            have t7 : ((s[j + 1].toNat : Int) == 46) = false := by simp; omega
            have t8 : ((s[j + 1].toNat : Int) != 47) = true := by simp; omega
            have hr : okBN z = true := by unfold okBN; exact decide_eq_true (by omega)
            rw [if_pos hr] at hch
            have hn : decide (s[j + 1] = 47) = false := decide_eq_false (fun e => by have := h47.1 e; omega)
            rw [← hn] at hch
            have Hch := Lib.hid hch
            have Hr := Lib.hid hr
            have H4 := Lib.hid h4
            have Hn := Lib.hid hn
            have H47 := Lib.hid h47
            have Hzz := Lib.hid hzz
            have Hp1 := Lib.hid hp1
            clear hch hr h4 hn h47 hzz hp1
            go_wp2_with fail
            go_round
            case rel => exact ⟨j + 1, hlt, rfl, by go_num, Hch.out⟩
            case measure => simp [intOf]; omega
          · have t1 : decide ((97 : Int) ≤ (s[j + 1].toNat : Int)) = false := decide_eq_false (by omega)
            have t2 : decide ((s[j + 1].toNat : Int) ≤ 122) = true := decide_eq_true (by omega)
            have t3 : decide ((48 : Int) ≤ (s[j + 1].toNat : Int)) = true := decide_eq_true (by omega)
            have t4 : decide ((s[j + 1].toNat : Int) ≤ 57) = false := decide_eq_false (by omega)
            have t5 : ((s[j + 1].toNat : Int) == 45) = false := by simp; omega
            have t6 : ((s[j + 1].toNat : Int) == 95) = false := by simp; omega
            have t7 : ((s[j + 1].toNat : Int) == 46) = false := by simp; omega
            have t8 : ((s[j + 1].toNat : Int) != 47) = true := by simp; omega
            have hr : okBN z = false := by unfold okBN; exact decide_eq_false (by omega)
            rw [if_neg (by rw [hr]; simp), if_neg (fun e => by have := h47.1 e.1; omega)] at hch
            have Hch := Lib.hid hch
            have Hr := Lib.hid hr
            have H5 := Lib.hid h5
            have H47 := Lib.hid h47
            have Hzz := Lib.hid hzz
            have Hp1 := Lib.hid hp1
            clear hch hr h5 h47 hzz hp1
            go_wp2_with fail
            go_ret
            exact ⟨by rw [Hch.out]; rfl, rfl⟩
          · have t1 : decide ((97 : Int) ≤ (s[j + 1].toNat : Int)) = false := decide_eq_false (by omega)
            have t2 : decide ((s[j + 1].toNat : Int) ≤ 122) = true := decide_eq_true (by omega)
            have t3 : decide ((48 : Int) ≤ (s[j + 1].toNat : Int)) = true := decide_eq_true (by omega)
            have t4 : decide ((s[j + 1].toNat : Int) ≤ 57) = false := decide_eq_false (by omega)
            have t5 : ((s[j + 1].toNat : Int) == 45) = false := by simp; omega
            have t6 : ((s[j + 1].toNat : Int) == 95) = true := by simp; omega
            have t7 : ((s[j + 1].toNat : Int) == 46) = false := by simp; omega
            have t8 : ((s[j + 1].toNat : Int) != 47) = true := by simp; omega
            have hr : okBN z = true := by unfold okBN; exact decide_eq_true (by omega)
            rw [if_pos hr] at hch
            have hn : decide (s[j + 1] = 47) = false := decide_eq_false (fun e => by have := h47.1 e; omega)
            rw [← hn] at hch
            have Hch := Lib.hid hch
            have Hr := Lib.hid hr
            have H6 := Lib.hid h6
            have Hn := Lib.hid hn
            have H47 := Lib.hid h47
            have Hzz := Lib.hid hzz
            have Hp1 := Lib.hid hp1
            clear hch hr h6 hn h47 hzz hp1
            go_wp2_with fail
            go_round
            case rel => exact ⟨j + 1, hlt, rfl, by go_num, Hch.out⟩
            case measure => simp [intOf]; omega
          · have t1 : decide ((97 : Int) ≤ (s[j + 1].toNat : Int)) = false := decide_eq_false (by omega)
            have t2 : decide ((s[j + 1].toNat : Int) ≤ 122) = true := decide_eq_true (by omega)
            have t3 : decide ((48 : Int) ≤ (s[j + 1].toNat : Int)) = true := decide_eq_true (by omega)
            have t4 : decide ((s[j + 1].toNat : Int) ≤ 57) = false := decide_eq_false (by omega)
            have t5 : ((s[j + 1].toNat : Int) == 45) = false := by simp; omega
            have t6 : ((s[j + 1].toNat : Int) == 95) = false := by simp; omega
            have t7 : ((s[j + 1].toNat : Int) == 46) = false := by simp; omega
            have t8 : ((s[j + 1].toNat : Int) != 47) = true := by simp; omega
            have hr : okBN z = false := by unfold okBN; exact decide_eq_false (by omega)
            rw [if_neg (by rw [hr]; simp), if_neg (fun e => by have := h47.1 e.1; omega)] at hch
            have Hch := Lib.hid hch
            have Hr := Lib.hid hr
            have H7 := Lib.hid h7
            have H47 := Lib.hid h47
            have Hzz := Lib.hid hzz
            have Hp1 := Lib.hid hp1
            clear hch hr h7 h47 hzz hp1
            go_wp2_with fail
            go_ret
            exact ⟨by rw [Hch.out]; rfl, rfl⟩
          · have t1 : decide ((97 : Int) ≤ (s[j + 1].toNat : Int)) = true := decide_eq_true (by omega)
            have t2 : decide ((s[j + 1].toNat : Int) ≤ 122) = true := decide_eq_true (by omega)
            have t3 : decide ((48 : Int) ≤ (s[j + 1].toNat : Int)) = true := decide_eq_true (by omega)
            have t4 : decide ((s[j + 1].toNat : Int) ≤ 57) = false := decide_eq_false (by omega)
            have t5 : ((s[j + 1].toNat : Int) == 45) = false := by simp; omega
            have t6 : ((s[j + 1].toNat : Int) == 95) = false := by simp; omega
            have t7 : ((s[j + 1].toNat : Int) == 46) = false := by simp; omega
            have t8 : ((s[j + 1].toNat : Int) != 47) = true := by simp; omega
            have hr : okBN z = true := by unfold okBN; exact decide_eq_true (by omega)
            rw [if_pos hr] at hch
            have hn : decide (s[j + 1] = 47) = false := decide_eq_false (fun e => by have := h47.1 e; omega)
            rw [← hn] at hch
            have Hch := Lib.hid hch
            have Hr := Lib.hid hr
            have H8 := Lib.hid h8
            have Hn := Lib.hid hn
            have H47 := Lib.hid h47
            have Hzz := Lib.hid hzz
            have Hp1 := Lib.hid hp1
            clear hch hr h8 hn h47 hzz hp1
            go_wp2_with fail
            go_round
            case rel => exact ⟨j + 1, hlt, rfl, by go_num, Hch.out⟩
            case measure => simp [intOf]; omega
          · have t1 : decide ((97 : Int) ≤ (s[j + 1].toNat : Int)) = true := decide_eq_true (by omega)
            have t2 : decide ((s[j + 1].toNat : Int) ≤ 122) = false := decide_eq_false (by omega)
            have t3 : decide ((48 : Int) ≤ (s[j + 1].toNat : Int)) = true := decide_eq_true (by omega)
            have t4 : decide ((s[j + 1].toNat : Int) ≤ 57) = false := decide_eq_false (by omega)
            have t5 : ((s[j + 1].toNat : Int) == 45) = false := by simp; omega
            have t6 : ((s[j + 1].toNat : Int) == 95) = false := by simp; omega
            have t7 : ((s[j + 1].toNat : Int) == 46) = false := by simp; omega
            have t8 : ((s[j + 1].toNat : Int) != 47) = true := by simp; omega
            have hr : okBN z = false := by unfold okBN; exact decide_eq_false (by omega)
            rw [if_neg (by rw [hr]; simp), if_neg (fun e => by have := h47.1 e.1; omega)] at hch
            have Hch := Lib.hid hch
            have Hr := Lib.hid hr
            have H9 := Lib.hid h9
            have H47 := Lib.hid h47
            have Hzz := Lib.hid hzz
            have Hp1 := Lib.hid hp1
            clear hch hr h9 h47 hzz hp1
            go_wp2_with fail
            go_ret
            exact ⟨by rw [Hch.out]; rfl, rfl⟩
        · rw [chain_end (by omega), He2.out j (by omega) hj] at hch
          have Hch := Lib.hid hch
          clear hch
          go_wp2_with fail
          go_ret
          exact ⟨by rw [Hch.out]; rfl, rfl⟩
  · have t0 : ((s[0].toNat : Int) != 47) = true := by simp; omega
    have hr : isPathL s.data.toList = false := by rw [hi, decide_eq_false hfirst]; rfl
    rw [hr]
    have H1 := Lib.hid h1
    have Hi := Lib.hid hi
    have Hr := Lib.hid hr
    have Hfirst := Lib.hid hfirst
    have Hhd := Lib.hid hhd
    clear h1 hi hr hfirst hhd
    go_enter Tryd.func12, Tryd.ntmps12
    go_wp2_with fail
    go_ret
    exact ⟨rfl, rfl⟩
end Go.Proofs.YtbeilgkogbcjjaaDoor
