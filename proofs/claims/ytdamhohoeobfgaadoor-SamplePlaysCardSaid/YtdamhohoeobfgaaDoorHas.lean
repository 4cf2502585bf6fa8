/- Has of the references. -/
import Derived.Test.YtdamhohoeobfgaaDoorLib
set_option linter.unusedVariables false
namespace Go.Proofs.YtdamhohoeobfgaaDoor
open Go.RowKit

def hasB (xs : List Int) (x : Int) : Bool := xs.contains x

set_option maxHeartbeats 400000 in
theorem has_any (b off n c : Nat) (xs : List Int) (x : Int) (w : World) (hn : n ≤ 9223372036854775807) (hl : xs.length = n) (hc : ∀ j y, xs[j]? = some y → w.cell? ⟨b, off + j, none⟩ = some (.int .i64 y)) :
    Calls Tryd.prog 33 #[.slice (some ⟨b, off, none⟩) n c, .int .i64 x] w fun e w' => e = .returned (.bool (hasB xs x)) ∧ w = w' := by
  have Hc := Lib.hid hc
  have Hl := Lib.hid hl
  clear hc hl
  go_enter Tryd.func33, Tryd.ntmps33
  go_wp2
  go_loop [5] (fun i => ∃ k : Nat, k ≤ n ∧ i = .int .i64 k ∧ x ∉ xs.take k) (fun i => n - (intOf i).toNat)
  case atStart => exact ⟨0, by omega, rfl, by simp⟩
  case round =>
    obtain ⟨k, hk, rfl, hno⟩ := hrel
    have Hno := Lib.hid hno
    clear hno
    by_cases hlt : k < n
    · have hget : xs[k]? = some (xs[k]'(by rw [Hl.out]; exact hlt)) := List.getElem?_eq_getElem _
      have hcell := Hc.out k _ hget
      have htk : xs.take (k + 1) = xs.take k ++ [xs[k]'(by rw [Hl.out]; exact hlt)] := by rw [List.take_succ_eq_append_getElem]
      have Hget := Lib.hid hget
      have Htk := Lib.hid htk
      clear hget htk
      generalize xs[k]'(by rw [Hl.out]; exact hlt) = y at *
      by_cases hy : y = x
      · subst hy
        have hmem : hasB xs y = true := by simpa [hasB] using List.mem_of_getElem? Hget.out
        have Hmem := Lib.hid hmem
        clear hmem
        have heq : (y == y) = true := by simp
        go_wp2
        go_ret
        exact ⟨by rw [Hmem.out]; rfl, rfl⟩
      · have heq : (y == x) = false := by simpa using hy
        go_wp2
        go_round
        case rel => exact ⟨k + 1, by omega, by go_num, by rw [Htk.out]; simp [Hno.out]; exact fun e => hy e.symm⟩
        case measure => simp [intOf]; omega
    · have hmem : hasB xs x = false := by have := Hno.out; rw [List.take_of_length_le (by rw [Hl.out]; omega)] at this; simpa [hasB] using this
      have Hmem := Lib.hid hmem
      clear hmem
      go_wp2
      go_ret
      exact ⟨by rw [Hmem.out]; rfl, rfl⟩

theorem has_nil (x : Int) (w : World) : Calls Tryd.prog 33 #[.slice none 0 0, .int .i64 x] w fun e w' => e = .returned (.bool (hasB [] x)) ∧ w = w' := by
  go_enter Tryd.func33, Tryd.ntmps33
  go_wp2
  refine wp_loop_once ?_
  go_wp2
  go_ret
  exact ⟨rfl, rfl⟩

theorem has_own {base : Nat} {T : TypeId} {v : Value} {n : Nat} {xs : List Int} {w : World} (h : w.ownsRow base T 1 v n (i64s xs)) (hn : n ≤ 9223372036854775807) (x : Int) :
    Calls Tryd.prog 33 #[v, .int .i64 x] w fun e w' => e = .returned (.bool (hasB xs x)) ∧ w = w' := by
  by_cases hv : v = .slice none 0 0
  · rcases h.2 with ⟨_, h0⟩ | ⟨g, cap, cur, h1, _⟩
    · subst h0
      have hx : xs = [] := by have := h.1; rw [i64s_len] at this; exact List.eq_nil_of_length_eq_zero (by omega)
      subst hx; subst hv
      exact has_nil x w
    · rw [hv] at h1; simp at h1
  · obtain ⟨g, cap, cur, rfl, _, hb, h1, h2, h3, h4, h5⟩ := ownsRow_blk h hv
    rw [i64s_len] at h4
    refine has_any g 0 n cap xs x w hn h4 ?_
    intro j y hy
    rw [hb.cell, Nat.zero_add]
    exact h5 j _ (i64s_get hy)
end Go.Proofs.YtdamhohoeobfgaaDoor
