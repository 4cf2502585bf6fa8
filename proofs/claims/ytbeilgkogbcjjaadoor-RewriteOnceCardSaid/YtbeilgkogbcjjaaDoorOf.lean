/- Paths of the reference, made of numbers. -/
import Derived.Test.YtbeilgkogbcjjaaDoorRewRef
import Derived.Test.YtbeilgkogbcjjaaDoorHeadOne
import Derived.Outline
set_option linter.unusedVariables false
namespace Go.Proofs.YtbeilgkogbcjjaaDoor
open Go.RowKit

def ofT : List (List UInt8) := [[97], [98], [120], [97, 46, 98], [99, 45, 49], [95]]
def longP : List UInt8 := [97, 45, 108, 111, 110, 103, 45, 111, 110, 101, 45, 111, 102, 45, 109, 97, 110, 121, 45, 98, 121, 116, 101, 115, 45, 97, 115, 45, 105, 116, 45, 109, 97, 121, 45, 98, 101]
def ofEnd (k : Nat) : List (List UInt8) := if k % 29 = 3 then [longP] else []
def ofPart (k : Nat) : List UInt8 := (ofT[k / 4 % 6]?).getD []
def ofRun : Nat → Nat → Nat → List (List UInt8)
  | 0, _, k => ofEnd k
  | f + 1, i, k => if i < k % 4 then ofPart k :: ofRun f (i + 1) (k / 4 / 6 + 5 * i) else ofEnd k
def ofP (k : Nat) : List (List UInt8) := ofRun 4 0 k
def ofZ (n : Int) : List (List UInt8) := ofP (around n 1000000)
theorem ofPart_ok (k : Nat) : okPart (ofPart k) = true ∧ (ofPart k).length ≤ 3 := by
  have h : k / 4 % 6 < 6 := Nat.mod_lt _ (by omega)
  unfold ofPart
  have hc : k / 4 % 6 = 0 ∨ k / 4 % 6 = 1 ∨ k / 4 % 6 = 2 ∨ k / 4 % 6 = 3 ∨ k / 4 % 6 = 4 ∨ k / 4 % 6 = 5 := by omega
  rcases hc with e | e | e | e | e | e <;> (rw [e]; decide)
theorem long_ok : okPart longP = true := by decide
theorem ofEnd_ok (k : Nat) : PartsOk (ofEnd k) ∧ (joinP (ofEnd k)).length ≤ 38 := by
  unfold ofEnd
  split
  · exact ⟨fun p hp => by simp at hp; subst hp; exact long_ok, by decide⟩
  · exact ⟨fun p hp => by simp at hp, by decide⟩
theorem ofRun_ok : ∀ f i k, PartsOk (ofRun f i k) ∧ (joinP (ofRun f i k)).length ≤ 4 * f + 38 := by
  intro f
  induction f with
  | zero => intro i k; have := ofEnd_ok k; exact ⟨this.1, by have := this.2; unfold ofRun; omega⟩
  | succ f ih =>
    intro i k
    unfold ofRun
    split
    · have h := ih (i + 1) (k / 4 / 6 + 5 * i)
      have hp := ofPart_ok k
      refine ⟨fun p hm => ?_, ?_⟩
      · rcases List.mem_cons.1 hm with rfl | hm
        · exact hp.1
        · exact h.1 p hm
      · rw [joinP_cons, List.length_cons, List.length_append]; omega
    · have := ofEnd_ok k; exact ⟨this.1, by omega⟩
theorem ofZ_ok (n : Int) : PartsOk (ofZ n) := (ofRun_ok 4 0 _).1
theorem ofZ_len (n : Int) : (pathOf (ofZ n)).length ≤ 60 := by
  have := (ofRun_ok 4 0 (around n 1000000)).2
  unfold pathOf
  split
  · simp
  · unfold ofZ ofP; omega
theorem ofRun_stop {f i k : Nat} (h : ¬ i < k % 4) : ofRun f i k = ofEnd k := by
  cases f with
  | zero => rfl
  | succ f => unfold ofRun; rw [if_neg h]
def ofB : List ByteArray := [⟨#[97]⟩, ⟨#[98]⟩, ⟨#[120]⟩, ⟨#[97, 46, 98]⟩, ⟨#[99, 45, 49]⟩, ⟨#[95]⟩]
theorem oft_at (i : Nat) (h : i < 6) : ofB[i]? = some (bs ((ofT[i]?).getD [])) := by
  rw [show ofB = ofT.map bs from rfl, List.getElem?_map]
  have : i < ofT.length := h
  rw [List.getElem?_eq_getElem this]; rfl
set_option maxHeartbeats 4000000 in
theorem of_any (n : Int) (w : World) (h0 : -9223372036854775808 ≤ n) (h1 : n ≤ 9223372036854775807) :
    Calls Tryd.prog 11 #[.int .i64 n] w fun e w' => e = .returned (.string (bs (pathOf (ofZ n)))) ∧ Frm noB w w' := by
  have hq := around_lt n 1000000 (by omega)
  have har := fun w => around_any n 1000000 w h0 h1 (by omega) (by omega)
  have hz : ofZ n = ofRun 4 0 (around n 1000000) := rfl
  generalize ofZ n = Z at *
  generalize around n 1000000 = q at *
  have hq1 : q ≤ 1000000 := by omega
  clear hq
  have Har := Lib.hid har
  have Hz := Lib.hid hz
  clear har hz
  go_enter Tryd.func11, Tryd.ntmps11
  go_wp2_with fail
  with_reducible refine (Har.out _).mono ?_
  rintro e w' ⟨rfl, rfl⟩
  go_wp2_with fail
  go_loopw [3, 4, 5] (fun kv s i wr => ∃ (j k : Nat) (acc : List (List UInt8)), kv = .int .i64 k ∧ s = .string (bs (joinP acc)) ∧ i = .int .i64 j ∧ j ≤ 3 ∧ k ≤ 1000000 ∧ Z = acc ++ ofRun (4 - j) j k ∧ (joinP acc).length ≤ 100 * j ∧ Frm noB w wr) (fun _ _ i _ => 4 - (intOf i).toNat)
  case atStart => exact ⟨0, q, [], rfl, rfl, rfl, by omega, hq1, Hz.out, by simp [joinP], Frm.refl _ _⟩
  case round =>
    obtain ⟨j, k, acc, rfl, rfl, rfl, hj, hk, hZ, hal, hf⟩ := hrel
    have hal2 : (bs (joinP acc)).size ≤ 1000 := by rw [bs_size]; omega
    by_cases hlt : j < k % 4
    · have hti : (j : Int) < (k : Int) % 4 := by omega
      have hj2 : j ≤ 2 := by omega
      obtain ⟨i, hi, hi6⟩ : ∃ i : Nat, k / 4 % 6 = i ∧ i < 6 := ⟨_, rfl, Nat.mod_lt _ (by omega)⟩
      have e1 : (k : Int) / 4 % 6 = (i : Int) := by omega
      have hn := oft_at i hi6
      have hpo := ofPart_ok k
      have hst : Z = (acc ++ [ofPart k]) ++ ofRun (4 - (j + 1)) (j + 1) (k / 4 / 6 + 5 * j) := by
        rw [hZ, show 4 - j = (4 - (j + 1)) + 1 from by omega]
        conv => lhs; rw [ofRun, if_pos hlt]
        rw [List.append_assoc]; rfl
      have hpe : (ofT[i]?).getD [] = ofPart k := by unfold ofPart; rw [hi]
      rw [hpe] at hn
      have hjn : bs (joinP acc) ++ (⟨#[47]⟩ : ByteArray) ++ bs (ofPart k) = bs (joinP (acc ++ [ofPart k])) := by
        rw [joinP_app, show (⟨#[47]⟩ : ByteArray) = bs [47] from rfl, bs_app, bs_app]
        simp [joinP]
      have hal3 : (joinP (acc ++ [ofPart k])).length ≤ 100 * (j + 1) := by
        rw [joinP_app, List.length_append]
        have : (joinP [ofPart k]).length = 1 + (ofPart k).length := by simp [joinP]; omega
        have := hpo.2
        omega
      have hz2 : (bs (ofPart k)).size ≤ 3 := by rw [bs_size]; exact hpo.2
      generalize hk2 : k / 4 / 6 + 5 * j = k2 at *
      have hk2b : k2 ≤ 1000000 := by omega
      have e2 : (k : Int) / 4 / 6 + 5 * (j : Int) = (k2 : Int) := by omega
      have hn1 := cells_at hn
      generalize hO2 : bs (joinP (acc ++ [ofPart k])) = O2 at *
      generalize bs (ofPart k) = pt at *
      generalize bs (joinP acc) = O1 at *
      have hadd := fun w => run_cat O1 (⟨#[47]⟩ : ByteArray) (by have : (⟨#[47]⟩ : ByteArray).size = 1 := rfl; omega) w
      have hadd2 := fun w => (run_cat (O1 ++ (⟨#[47]⟩ : ByteArray)) pt (by rw [ByteArray.size_append]; have : (⟨#[47]⟩ : ByteArray).size = 1 := rfl; omega) w).trans (by rw [hjn])
      simp only [ofB, List.map_cons, List.map_nil] at hn1
      have fb := (Frm.refl noB wr).alloc (.cells #[.string ⟨#[97]⟩, .string ⟨#[98]⟩, .string ⟨#[120]⟩, .string ⟨#[97, 46, 98]⟩, .string ⟨#[99, 45, 49]⟩, .string ⟨#[95]⟩] 9)
      have hfa := hf.trans fb
      have HZ := Lib.hid hZ
      have Hal := Lib.hid hal
      have Hal2 := Lib.hid hal2
      have Hf := Lib.hid hf
      have Hi := Lib.hid hi
      have Hn := Lib.hid hn
      have Hpo := Lib.hid hpo
      have Hst := Lib.hid hst
      have Hpe := Lib.hid hpe
      have Hjn := Lib.hid hjn
      have Hal3 := Lib.hid hal3
      have Hz2 := Lib.hid hz2
      have Hk2 := Lib.hid hk2
      have Hfa := Lib.hid hfa
      have Hfb := Lib.hid fb
      have HO2 := Lib.hid hO2
      clear hZ hal hal2 hf hi hn hpo hst hpe hjn hal3 hz2 hk2 hfa fb hO2
      have Hadd := Lib.hid hadd
      have Hadd2 := Lib.hid hadd2
      clear hadd hadd2
      go_wp2_with (refine wpl_add (by rfl) _ _ (by rfl) _ _ _ (by rfl) (by rfl) (by first | exact Hadd.out _ | exact Hadd2.out _) ?_)
      go_roundw
      case rel => exact ⟨j + 1, k2, acc ++ [ofPart k], by first | rfl | go_num, by rw [HO2.out], by go_num, by omega, hk2b, Hst.out, Hal3.out, Hfa.out⟩
      case measure => simp [intOf]; omega
    · have hti : ¬ (j : Int) < (k : Int) % 4 := by omega
      rw [ofRun_stop hlt] at hZ
      by_cases h29 : k % 29 = 3
      · have t1 : ((k : Int) % 29 == 3) = true := by simp; omega
        have he : ofEnd k = [longP] := by unfold ofEnd; rw [if_pos h29]
        rw [he] at hZ
        have hne : ¬ joinP Z = [] := by rw [hZ, join_nil]; simp
        have hpz : pathOf Z = joinP Z := by unfold pathOf; rw [if_neg (fun e => hne (by rw [e]; rfl))]
        have hjn : bs (joinP acc) ++ (⟨#[47, 97, 45, 108, 111, 110, 103, 45, 111, 110, 101, 45, 111, 102, 45, 109, 97, 110, 121, 45, 98, 121, 116, 101, 115, 45, 97, 115, 45, 105, 116, 45, 109, 97, 121, 45, 98, 101]⟩ : ByteArray) = bs (pathOf Z) := by
          rw [hpz, hZ, joinP_app, show joinP [longP] = [47, 97, 45, 108, 111, 110, 103, 45, 111, 110, 101, 45, 111, 102, 45, 109, 97, 110, 121, 45, 98, 121, 116, 101, 115, 45, 97, 115, 45, 105, 116, 45, 109, 97, 121, 45, 98, 101] from rfl, ← bs_app]; rfl
        rw [← hpz] at hne
        have e1 := empty_test (s := bs (pathOf Z)) (by rw [bs_list]; exact hne)
        have e2 : ¬ (bs (pathOf Z)).toList = [] := by rw [ByteArray.toList_eq, bs_list]; exact hne
        have hadd := fun w => (run_cat (bs (joinP acc)) (⟨#[47, 97, 45, 108, 111, 110, 103, 45, 111, 110, 101, 45, 111, 102, 45, 109, 97, 110, 121, 45, 98, 121, 116, 101, 115, 45, 97, 115, 45, 105, 116, 45, 109, 97, 121, 45, 98, 101]⟩ : ByteArray) (by have : (⟨#[47, 97, 45, 108, 111, 110, 103, 45, 111, 110, 101, 45, 111, 102, 45, 109, 97, 110, 121, 45, 98, 121, 116, 101, 115, 45, 97, 115, 45, 105, 116, 45, 109, 97, 121, 45, 98, 101]⟩ : ByteArray).size = 38 := rfl; omega) w).trans (by rw [hjn])
        generalize hQ : bs (pathOf Z) = Q at *
        generalize bs (joinP acc) = O1 at *
        have Hadd := Lib.hid hadd
        clear hadd
        have HZ := Lib.hid hZ
        have Hal := Lib.hid hal
        have Hal2 := Lib.hid hal2
        have Hf := Lib.hid hf
        have H29 := Lib.hid h29
        have He := Lib.hid he
        have Hne := Lib.hid hne
        have Hpz := Lib.hid hpz
        have Hjn := Lib.hid hjn
        have HQ := Lib.hid hQ
        clear hZ hal hal2 hf h29 he hne hpz hjn hQ
        go_wp2_with (refine wpl_add (by rfl) _ _ (by rfl) _ _ _ (by rfl) (by rfl) (Hadd.out _) ?_)
        go_ret
        exact ⟨by rw [HQ.out]; rfl, Hf.out⟩
      · have t1 : ((k : Int) % 29 == 3) = false := by simp; omega
        have he : ofEnd k = [] := by unfold ofEnd; rw [if_neg h29]
        rw [he, List.append_nil] at hZ
        subst hZ
        by_cases hz0 : joinP Z = []
        · have hpz : bs (pathOf Z) = ⟨#[47]⟩ := by unfold pathOf; rw [if_pos (join_nil.1 hz0)]; rfl
          rw [hz0, show bs [] = ⟨#[]⟩ from rfl]
          have Hal := Lib.hid hal
          have Hal2 := Lib.hid hal2
          have Hf := Lib.hid hf
          have H29 := Lib.hid h29
          have He := Lib.hid he
          have Hz0 := Lib.hid hz0
          have Hpz := Lib.hid hpz
          clear hal hal2 hf h29 he hz0 hpz
          go_wp2_with fail
          go_ret
          exact ⟨by rw [Hpz.out]; rfl, Hf.out⟩
        · have hpz : bs (pathOf Z) = bs (joinP Z) := by unfold pathOf; rw [if_neg (fun e => hz0 (join_nil.2 e))]
          have e1 := empty_test (s := bs (joinP Z)) (by rw [bs_list]; exact hz0)
          have e2 : ¬ (bs (joinP Z)).toList = [] := by rw [ByteArray.toList_eq, bs_list]; exact hz0
          generalize bs (joinP Z) = Q at *
          have Hal := Lib.hid hal
          have Hal2 := Lib.hid hal2
          have Hf := Lib.hid hf
          have H29 := Lib.hid h29
          have He := Lib.hid he
          have Hz0 := Lib.hid hz0
          have Hpz := Lib.hid hpz
          clear hal hal2 hf h29 he hz0 hpz
          go_wp2_with fail
          go_ret
          exact ⟨by rw [Hpz.out]; rfl, Hf.out⟩
end Go.Proofs.YtbeilgkogbcjjaaDoor
