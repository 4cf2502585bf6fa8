/- The walk of the statement DrawTwo. -/
import Derived.Test.YtfgbcfhnbkffnaaLaws02
import Derived.Test.YtfgbcfhnbkffnaaAround
set_option linter.unusedVariables false
namespace Go.Proofs.Ytfgbcfhnbkffnaa
open Go.RowKit

theorem two_seed (b r seed used m : Nat) (w : World) (h : Drw w b r [] seed used) (hu : used < 4611686018427387900) (hm : 2 ≤ m) (hm1 : m ≤ 9223372036854775807) :
    Calls Try.prog 19 #[.pointer (some ⟨b, 0, none⟩), .int .i64 (m : Int)] w fun e w' => ∃ x y : Nat, e = .returned (.tuple #[.int .i64 (x : Int), .int .i64 (y : Int)]) ∧
      x ≠ y ∧ x < m ∧ y < m ∧ (∃ s, Drw w' b r [] s (used + 2)) ∧ Frm (oneB b) w w' := by
  refine (two_any b r [] seed used m w h hu hm hm1).mono ?_
  rintro e w' ⟨rfl, hd, hf⟩
  have h1 : nxt [] seed % m < m := Nat.mod_lt _ (by omega)
  have h2 : nxt [] (seedOn [] seed) % (m - 1) < m - 1 := Nat.mod_lt _ (by omega)
  have key : ∀ u v : Nat, u < m → v < m - 1 → u ≠ (if u ≤ v then v + 1 else v) ∧ u < m ∧ (if u ≤ v then v + 1 else v) < m := by
    intro u v hu hv
    by_cases h : u ≤ v
    · rw [if_pos h]; omega
    · rw [if_neg h]; omega
  obtain ⟨k1, k2, k3⟩ := key _ _ h1 h2
  exact ⟨_, _, rfl, k1, k2, k3, ⟨_, hd⟩, hf⟩
theorem two_said (b r p k seed used m : Nat) (w : World) (h : Drw w b r [p, k] seed used) (hu : used < 4611686018427387900) (hm : 2 ≤ m) (hm1 : m ≤ 9223372036854775807) (hp : p < m) (hk : k < m - 1) :
    Calls Try.prog 19 #[.pointer (some ⟨b, 0, none⟩), .int .i64 (m : Int)] w fun e w' =>
      e = .returned (.tuple #[.int .i64 (p : Int), .int .i64 ((if p ≤ k then k + 1 else k : Nat) : Int)]) ∧ Frm (oneB b) w w' := by
  refine (two_any b r [p, k] seed used m w h hu hm hm1).mono ?_
  rintro e w' ⟨rfl, hd, hf⟩
  refine ⟨?_, hf⟩
  have e1 : p % m = p := Nat.mod_eq_of_lt hp
  have e2 : k % (m - 1) = k := Nat.mod_eq_of_lt hk
  simp only [twoOf, nxt, List.tail_cons, e1, e2]

set_option maxHeartbeats 1000000 in
theorem drawTwo_walk (a0 : Int) (a1 : Int) (a2 : Int) (a3 : Int) (w0 : (Lit.int .u64 a0).wf = true) (w1 : (Lit.int .i64 a1).wf = true) (w2 : (Lit.int .i64 a2).wf = true) (w3 : (Lit.int .i64 a3).wf = true) (w : World) :
    Calls Try.prog 7 #[.int .u64 a0, .int .i64 a1, .int .i64 a2, .int .i64 a3] w fun e w' => e = .returned (.bool true) ∧ Below w.heap.size w w' := by
  obtain ⟨seed, rfl, hs⟩ := wf_u64 w0
  have b1 := wf_i64 w1
  have b2 := wf_i64 w2
  have b3 := wf_i64 w3
  clear w0 w1 w2 w3
  have hm0 := around_lt a1 59 (by omega)
  go_enter Try.func7, Try.ntmps7
  go_wp2_with fail
  refine (around_any a1 59 _ b1.1 b1.2 (by omega) (by omega)).mono ?_
  rintro e w' ⟨rfl, rfl⟩
  generalize around a1 59 = m0 at *
  go_wp2_with fail
  refine (new_none seed none 0 w).mono ?_
  rintro e w1 ⟨rfl, hw⟩
  have hd : Drw w1 w.heap.size w.heap.size [] seed 0 := hw ▸ drw_new hs
  have hf : Frm noB w w1 := hw ▸ (Frm.refl noB w).alloc _
  have Hd := Lib.hid hd
  have Hf := Lib.hid hf
  clear hd hf hw
  have em : (2 : Int) + (m0 : Int) = ((2 + m0 : Nat) : Int) := by omega
  have Em := Lib.hid em
  clear em
  obtain ⟨m, hm⟩ : ∃ m, m = 2 + m0 := ⟨_, rfl⟩
  have hm2 : 2 ≤ m := by omega
  have hm3 : m ≤ 60 := by omega
  have Hm := Lib.hid hm
  clear hm
  go_wp2_with fail
  rw [Em.out, ← Hm.out]
  refine (two_seed _ _ _ _ m _ Hd.out (by omega) hm2 (by omega)).mono ?_
  rintro e w2 ⟨x, y, rfl, hxy, hx, hy, ⟨s2, hd2⟩, hf2⟩
  have Hd2 := Lib.hid hd2
  have Hf2 := Lib.hid (Hf.out.new hf2 (fun i hi h => by simp only [oneB] at h; omega))
  clear hd2 hf2
  have t1 : ((x : Int) == (y : Int)) = false := by simp; omega
  go_wp2_with fail
  refine (used_any _ _ _ _ _ _ Hd2.out).mono ?_
  rintro e w' ⟨rfl, rfl⟩
  go_wp2_with fail
  refine (around_any a2 m _ b2.1 b2.2 (by omega) (by omega)).mono ?_
  rintro e w' ⟨rfl, rfl⟩
  go_wp2_with fail
  refine (around_any a3 m _ b3.1 b3.2 (by omega) (by omega)).mono ?_
  rintro e w' ⟨rfl, rfl⟩
  have hp := around_lt a2 m (by omega)
  have hq := around_lt a3 m (by omega)
  generalize around a2 m = p at *
  generalize around a3 m = q at *
  by_cases hpq : p = q
  · subst hpq
    go_wp2_with fail
    refine (lives_any _).mono ?_
    rintro e w' ⟨rfl, hf⟩
    have Hf3 := Lib.hid (Hf2.out.trans hf)
    clear hf
    go_wp2
    go_ret
    exact ⟨rfl, Hf3.out.below (Nat.le_refl _) (fun _ _ h => h)⟩
  · have t2 : ((p : Int) == (q : Int)) = false := by simp; omega
    by_cases hlt : p < q
    · have ek : (q : Int) - 1 = ((q - 1 : Nat) : Int) := by omega
      have Ek := Lib.hid ek
      clear ek
      have hcells : ∀ (w : World) (j x : Nat), [p, q - 1][j]? = some x → (w.alloc (.cells #[Value.int .u64 (p : Int), Value.int .u64 ((q - 1 : Nat) : Int)] 22)).cell? ⟨w.heap.size, 0 + j, none⟩ = some (.int .u64 (x : Int)) := by
        intro w j x hx
        rw [World.cell?_alloc_new]
        rcases j with _ | _ | j <;> simp at hx ⊢ <;> simp [hx]
      have Hcells := Lib.hid hcells
      clear hcells
      go_wp2_with fail
      rw [Ek.out]
      refine (new_some seed w2.heap.size 0 2 2 [p, q - 1] _ hs (by omega) (by omega) rfl ?_ ?_).mono ?_
      · intro x hx; simp at hx; omega
      · exact Hcells.out w2
      rintro e w3 ⟨r, rfl, hd3, hr, hf3⟩
      rw [World.size_alloc] at hd3 hr ⊢
      have Hd3 := Lib.hid hd3
      have Hf3 := Lib.hid ((Hf2.out.alloc (.cells #[Value.int .u64 (p : Int), Value.int .u64 ((q - 1 : Nat) : Int)] 22)).trans hf3)
      have hsz : w.heap.size < w2.heap.size := by have := Hd2.out.blk; obtain ⟨_, _, hb⟩ := this; exact hb.lt
      clear hd3 hf3
      go_wp2_with fail
      refine (two_said _ _ p (q - 1) _ _ m _ Hd3.out (by omega) hm2 (by omega) (by omega) (by omega)).mono ?_
      rintro e w4 ⟨rfl, hf4⟩
      have Hf4 := Lib.hid (Hf3.out.new hf4 (fun i hi h => by simp only [oneB] at h; omega))
      clear hf4
      rw [show (if p ≤ q - 1 then q - 1 + 1 else q - 1) = q from by rw [if_pos (by omega)]; omega]
      go_wp2_with fail
      refine (lives_any _).mono ?_
      rintro e w' ⟨rfl, hf⟩
      have Hf5 := Lib.hid (Hf4.out.trans hf)
      clear hf
      go_wp2
      go_ret
      exact ⟨rfl, Hf5.out.below (Nat.le_refl _) (fun _ _ h => h)⟩
    · have hlt' : q < p := by omega
      have hcells : ∀ (w : World) (j x : Nat), [p, q][j]? = some x → (w.alloc (.cells #[Value.int .u64 (p : Int), Value.int .u64 ((q : Nat) : Int)] 22)).cell? ⟨w.heap.size, 0 + j, none⟩ = some (.int .u64 (x : Int)) := by
        intro w j x hx
        rw [World.cell?_alloc_new]
        rcases j with _ | _ | j <;> simp at hx ⊢ <;> simp [hx]
      have Hcells := Lib.hid hcells
      clear hcells
      go_wp2_with fail
      refine (new_some seed w2.heap.size 0 2 2 [p, q] _ hs (by omega) (by omega) rfl ?_ ?_).mono ?_
      · intro x hx; simp at hx; omega
      · exact Hcells.out w2
      rintro e w3 ⟨r, rfl, hd3, hr, hf3⟩
      rw [World.size_alloc] at hd3 hr ⊢
      have Hd3 := Lib.hid hd3
      have Hf3 := Lib.hid ((Hf2.out.alloc (.cells #[Value.int .u64 (p : Int), Value.int .u64 ((q : Nat) : Int)] 22)).trans hf3)
      have hsz : w.heap.size < w2.heap.size := by have := Hd2.out.blk; obtain ⟨_, _, hb⟩ := this; exact hb.lt
      clear hd3 hf3
      go_wp2_with fail
      refine (two_said _ _ p (q) _ _ m _ Hd3.out (by omega) hm2 (by omega) (by omega) (by omega)).mono ?_
      rintro e w4 ⟨rfl, hf4⟩
      have Hf4 := Lib.hid (Hf3.out.new hf4 (fun i hi h => by simp only [oneB] at h; omega))
      clear hf4
      rw [show (if p ≤ q then q + 1 else q) = q from by rw [if_neg (by omega)]]
      go_wp2_with fail
      refine (lives_any _).mono ?_
      rintro e w' ⟨rfl, hf⟩
      have Hf5 := Lib.hid (Hf4.out.trans hf)
      clear hf
      go_wp2
      go_ret
      exact ⟨rfl, Hf5.out.below (Nat.le_refl _) (fun _ _ h => h)⟩
end Go.Proofs.Ytfgbcfhnbkffnaa
