/- The generator of faults: what it makes may be. -/
import Derived.Test.YtmohmjanglkggaaLinkSmall
import Derived.Test.YtmohmjanglkggaaAround
set_option linter.unusedVariables false
namespace Go.Proofs.Ytmohmjanglkggaa
open Go.RowKit

/-- A fault that the generator may make. -/
structure Okf (f : Flt) : Prop where
  k1 : 1 ≤ f.kind
  k2 : f.kind ≤ 10
  f1 : 0 ≤ f.frm
  f2 : f.frm ≤ 200
  t1 : 0 ≤ f.til
  t2 : f.til ≤ 400
  n1 : 0 ≤ f.n
  n2 : f.n ≤ 20
  a1 : -1 ≤ f.a
  a2 : f.a ≤ 1000
  b1 : -1 ≤ f.b
  b2 : f.b ≤ 1000
  each : f.kind = 1 ∨ f.kind = 3 → 1 ≤ f.n

def someN (n : Int) : Int := if around n 15 < 5 then around n 15 else if around n 15 < 12 then 96 + around n 15 else 188 + around n 15
theorem someN_bd (n : Int) : 0 ≤ someN n ∧ someN n ≤ 202 := by
  have := around_lt n 15 (by omega)
  unfold someN
  split
  · omega
  · split <;> omega

set_option maxHeartbeats 400000 in
theorem some_any (n : Int) (w : World) (h0 : -9223372036854775808 ≤ n) (h1 : n ≤ 9223372036854775807) :
    Calls Try.prog 16 #[.int .i64 n] w fun e w' => e = .returned (.int .i64 (someN n)) ∧ w = w' := by
  have hb := around_lt n 15 (by omega)
  have key : someN n = if around n 15 < 5 then (around n 15 : Int) else if around n 15 < 12 then 96 + (around n 15 : Int) else 188 + (around n 15 : Int) := rfl
  have Key := Lib.hid key
  clear key
  go_enter Try.func16, Try.ntmps16
  go_wp2_with fail
  refine (around_any n 15 _ h0 h1 (by omega) (by omega)).mono ?_
  rintro e w1 ⟨rfl, rfl⟩
  generalize around n 15 = m at *
  by_cases h5 : m < 5
  · have H5 := Lib.hid (show someN n = (m : Int) by rw [Key.out, if_pos h5])
    clear Key
    go_wp2
    go_ret
    exact ⟨by rw [H5.out]; rfl, rfl⟩
  · by_cases h12 : m < 12
    · have H5 := Lib.hid (show someN n = 96 + (m : Int) by rw [Key.out, if_neg h5, if_pos h12])
      clear Key
      go_wp2
      go_ret
      exact ⟨by rw [H5.out]; rfl, rfl⟩
    · have H5 := Lib.hid (show someN n = 188 + (m : Int) by rw [Key.out, if_neg h5, if_neg h12])
      clear Key
      go_wp2
      go_ret
      exact ⟨by rw [H5.out]; rfl, rfl⟩

theorem fault_res (tmps : Array Value) (w : World) (v0 v1 v2 v3 v4 v5 : Value) (o : Obj) (h : tmps[2]?.getD undef = .pointer (some ⟨w.heap.size, 0, none⟩)) :
    (results Try.f21 tmps).run Try.prog ((w.alloc (.cells #[v0, v1, v2, v3, v4, v5] 41)).alloc o) =
      .ok (.agg #[v0, v1, v2, v3, v4, v5]) ((w.alloc (.cells #[v0, v1, v2, v3, v4, v5] 41)).alloc o) := by
  simp [results, Try.results21, go_sem, h]

def SomeFault (w : World) (e : Ending) (w' : World) : Prop := ∃ f : Flt, e = .returned (fltV f) ∧ Okf f ∧ Frm noB w w'

set_option maxRecDepth 100000 in
set_option maxHeartbeats 1000000 in
theorem fault_any (n : Int) (w : World) (h0 : -9223372036854775808 ≤ n) (h1 : n ≤ 9223372036854775807) :
    Calls Try.prog 21 #[.int .i64 n] w (SomeFault w) := by
  have hb := around_lt n 100000000 (by omega)
  go_enter Try.func21, Try.ntmps21
  go_wp2_with fail
  refine (around_any n 100000000 _ h0 h1 (by omega) (by omega)).mono ?_
  rintro e w1 ⟨rfl, rfl⟩
  clear h0 h1
  generalize around n 100000000 = m at *
  go_wp2_with fail
  have bK : 1 ≤ (1 + (m : Int) % 10) ∧ (1 + (m : Int) % 10) ≤ 10 := by omega
  have bF : 0 ≤ ((m : Int) / 10 % 200) ∧ ((m : Int) / 10 % 200) ≤ 200 := by omega
  have bT : 0 ≤ ((m : Int) / 10 % 200 + 1 + (m : Int) / 2000 % 100) ∧ ((m : Int) / 10 % 200 + 1 + (m : Int) / 2000 % 100) ≤ 400 := by omega
  have bk : 0 ≤ (m : Int) / 200000 ∧ (m : Int) / 200000 ≤ 500 := by omega
  refine (way_any _ _).mono ?_
  rintro e w1 ⟨rfl, rfl⟩
  generalize (1 + (m : Int) % 10) = K at *
  generalize ((m : Int) / 10 % 200 + 1 + (m : Int) / 2000 % 100) = T at *
  generalize ((m : Int) / 10 % 200) = F at *
  generalize (m : Int) / 200000 = k at *
  clear hb
  obtain ⟨bK1, bK2⟩ := bK
  obtain ⟨bF1, bF2⟩ := bF
  obtain ⟨bT1, bT2⟩ := bT
  obtain ⟨bk1, bk2⟩ := bk
  cases hw : onWayB K
  · have Hw : Hid (¬ (1 ≤ K ∧ K ≤ 4)) := Lib.hid (by simpa [onWayB] using hw)
    clear hw
    go_wp2
    all_goals
      refine bodyPost_ret (fault_res _ _ _ _ _ _ _ _ _ rfl) rfl ?_
      refine ⟨⟨_, _, _, _, _, _⟩, rfl, ?_, ((Frm.refl noB w).alloc _).alloc _⟩
      have hw' := Hw.out
      try simp only [beq_iff_eq, beq_eq_false_iff_ne, bne_iff_ne, bne_eq_false_iff_eq, ne_eq] at *
      constructor <;> simp only <;> omega
  · have Hw : Hid (1 ≤ K ∧ K ≤ 4) := Lib.hid (by simpa [onWayB] using hw)
    clear hw
    go_wp2_with fail
    refine (some_any _ _ (by omega) (by omega)).mono ?_
    rintro e w1 ⟨rfl, rfl⟩
    have bA := someN_bd k
    generalize someN k = A at *
    obtain ⟨bA1, bA2⟩ := bA
    go_wp2_with fail
    refine (some_any _ _ (by omega) (by omega)).mono ?_
    rintro e w1 ⟨rfl, rfl⟩
    have bB := someN_bd (k / 15 + 1 + k % 15)
    generalize someN (k / 15 + 1 + k % 15) = B at *
    obtain ⟨bB1, bB2⟩ := bB
    go_wp2
    all_goals
      refine bodyPost_ret (fault_res _ _ _ _ _ _ _ _ _ rfl) rfl ?_
      refine ⟨⟨_, _, _, _, _, _⟩, rfl, ?_, ((Frm.refl noB w).alloc _).alloc _⟩
      have hw' := Hw.out
      try simp only [beq_iff_eq, beq_eq_false_iff_ne, bne_iff_ne, bne_eq_false_iff_eq, ne_eq] at *
      constructor <;> simp only <;> omega
end Go.Proofs.Ytmohmjanglkggaa
