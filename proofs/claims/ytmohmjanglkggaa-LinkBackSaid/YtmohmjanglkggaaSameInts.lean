/- SameInts of the references. -/
import Derived.Test.YtmohmjanglkggaaLib
set_option linter.unusedVariables false
namespace Go.Proofs.Ytmohmjanglkggaa
open Go.RowKit

def sameL (xs ys : List Int) : Bool := decide (xs = ys)

set_option maxHeartbeats 400000 in
theorem sameInts_at (a1 a2 : Option Addr) (n1 c1 n2 c2 : Nat) (xs ys : List Int) (w : World) (h1 : IntsAt w a1 n1 xs) (h2 : IntsAt w a2 n2 ys) (hn1 : n1 ≤ 9223372036854775807) (hn2 : n2 ≤ 9223372036854775807) :
    Calls Try.prog 13 #[.slice a1 n1 c1, .slice a2 n2 c2] w fun e w' => e = .returned (.bool (sameL xs ys)) ∧ Frm noB w w' := by
  have H1 := Lib.hid h1
  have H2 := Lib.hid h2
  clear h1 h2
  by_cases hne : n1 = n2
  · subst hne
    go_enter Try.func13, Try.ntmps13
    go_wp2
    go_loopw [5] (fun i wr => ∃ k : Nat, k ≤ n1 ∧ i = .int .i64 k ∧ xs.take k = ys.take k ∧ Frm noB w wr) (fun i _ => n1 - (intOf i).toNat)
    case atStart => exact ⟨0, by omega, rfl, by simp, Frm.refl _ _⟩
    case round =>
      obtain ⟨k, hk, rfl, hno, hf⟩ := hrel
      have Hno := Lib.hid hno
      have Hf := Lib.hid hf
      clear hno hf
      by_cases hlt : k < n1
      · obtain ⟨x, hx⟩ := get_of_lt (l := xs) (j := k) (by rw [H1.out.len]; exact hlt)
        obtain ⟨y, hy⟩ := get_of_lt (l := ys) (j := k) (by rw [H2.out.len]; exact hlt)
        obtain ⟨b1, o1, ha1, hc1⟩ := H1.out.cells k x hx
        obtain ⟨b2, o2, ha2, hc2⟩ := H2.out.cells k y hy
        subst ha1
        subst ha2
        replace hc1 := cell_frm Hf.out (fun h => h) hc1
        replace hc2 := cell_frm Hf.out (fun h => h) hc2
        have Hx := Lib.hid hx
        have Hy := Lib.hid hy
        clear hx hy
        by_cases hxy : x = y
        · subst hxy
          have heq : (x == x) = true := by simp
          have htk : Hid (xs.take (k + 1) = ys.take (k + 1)) := Lib.hid (by
            rw [List.take_add_one, List.take_add_one, Hx.out, Hy.out, Hno.out])
          go_wp2
          go_quiet (fail)
          go_wp2
          go_roundw
          case rel => exact ⟨k + 1, by omega, by go_num, htk.out, Hf.out.drewN _⟩
          case measure => simp [intOf]; omega
        · have heq : (x == y) = false := by simpa using hxy
          have hs : Hid (sameL xs ys = false) := Lib.hid (by
            unfold sameL
            rw [decide_eq_false_iff_not]
            intro e
            have h1 := Hx.out
            rw [e, Hy.out] at h1
            simp at h1
            exact hxy h1.symm)
          go_wp2
          go_quiet (fail)
          go_wp2
          go_ret
          exact ⟨by rw [hs.out]; rfl, Hf.out.drewN _⟩
      · have hs : Hid (sameL xs ys = true) := Lib.hid (by
          unfold sameL
          rw [decide_eq_true_iff]
          have h := Hno.out
          rw [List.take_of_length_le (by rw [H1.out.len]; omega), List.take_of_length_le (by rw [H2.out.len]; omega)] at h
          exact h)
        go_wp2
        go_ret
        exact ⟨by rw [hs.out]; rfl, Hf.out⟩
  · have hb : ((n1 : Int) == (n2 : Int)) = false := by simp; omega
    have hs : Hid (sameL xs ys = false) := Lib.hid (by
      unfold sameL
      rw [decide_eq_false_iff_not]
      intro e
      exact hne (by rw [← H1.out.len, ← H2.out.len, e]))
    go_enter Try.func13, Try.ntmps13
    go_wp2
    go_ret
    exact ⟨by rw [hs.out]; rfl, Frm.refl _ _⟩

theorem sameInts_own {base1 base2 : Nat} {T1 T2 : TypeId} {v1 v2 : Value} {n1 n2 : Nat} {xs ys : List Int} {w : World} (h1 : w.ownsRow base1 T1 1 v1 n1 (i64s xs)) (h2 : w.ownsRow base2 T2 1 v2 n2 (i64s ys)) :
    Calls Try.prog 13 #[v1, v2] w fun e w' => e = .returned (.bool (sameL xs ys)) ∧ Frm noB w w' := by
  obtain ⟨a1, c1, rfl, k1, g1⟩ := ownsRow_ints h1
  obtain ⟨a2, c2, rfl, k2, g2⟩ := ownsRow_ints h2
  exact sameInts_at a1 a2 n1 c1 n2 c2 xs ys w g1 g2 k1 k2
end Go.Proofs.Ytmohmjanglkggaa
