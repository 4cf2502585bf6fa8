/- Decimal of the references. -/
import Derived.Test.YtnmcdecdgcnmbaaLib
import Derived.Test.YtnmcdecdgcnmbaaBs
set_option linter.unusedVariables false
namespace Go.Proofs.Ytnmcdecdgcnmbaa
open Go.RowKit

theorem conv_byte (w : World) (x : Int) (h0 : 0 ≤ x) (h1 : x ≤ 255) :
    (convert 53 9 (.slice (some ⟨w.heap.size, 0, none⟩) 1 1)).run Try.prog (w.alloc (.cells #[.int .u8 x] 5)) =
      .ok (.string (bs [UInt8.ofNat x.toNat])) (w.alloc (.cells #[.int .u8 x] 5)) := by
  have h := run_convert_bytes_arg (P := Try.prog) (w.alloc (.cells #[.int .u8 x] 5)) 53 5 Try.underlying53 Try.underlying5 w.heap.size 0 1 1 [x] rfl
    (fun i hi => by obtain rfl : i = 0 := by omega
                    simp) 9 Try.underlying9
  rw [h]
  have e : strOfNums [x] = bs [UInt8.ofNat x.toNat] := by simp [strOfNums, bs]
  rw [e]

def DecIs (n : Int) (w : World) (e : Ending) (w' : World) : Prop := e = .returned (.string (bs (decL n))) ∧ Frm noB w w'
theorem ret_str {a b : ByteArray} (h : a = b) : Ending.returned (.string a) = .returned (.string b) := by rw [h]
set_option maxHeartbeats 1000000 in
theorem decimal_bd (k : Nat) : ∀ (n : Int) (w : World), n.natAbs ≤ k → -9223372036854775808 ≤ n → n ≤ 9223372036854775807 →
    Calls Try.prog 25 #[.int .i64 n] w (DecIs n w) := by
  induction k with
  | zero =>
    intro n w hk h0 h1
    obtain rfl : n = 0 := by omega
    have hcv := fun w => conv_byte w 48 (by omega) (by omega)
    go_enter Try.func25, Try.ntmps25
    go_wp2_with fail
    go_ret
    exact ⟨ret_str (by rw [decL_small (by omega) (by omega)]; rfl), (Frm.refl _ _).alloc _⟩
  | succ k ih =>
    intro n w hk h0 h1
    have Ih := Lib.hid ih
    clear ih
    by_cases hp : 0 ≤ n
    · have hcv := fun w => conv_byte w (48 + n % 10) (by omega) (by omega)
      by_cases h10 : n < 10
      · have he := decL_small hp h10
        rw [show (48 + n).toNat = (48 + n % 10).toNat from by omega] at he
        have He := Lib.hid he
        clear he
        go_enter Try.func25, Try.ntmps25
        go_wp2_with fail
        go_ret
        exact ⟨ret_str (by rw [He.out]), (Frm.refl _ _).alloc _⟩
      · have he := Lib.hid (decL_big (show 10 ≤ n by omega))
        go_enter Try.func25, Try.ntmps25
        have hs1 : (bs (decL (n / 10))).size ≤ 20 := by rw [bs_size]; exact decL_len (by omega) (by omega)
        have hs2 : (bs [UInt8.ofNat (48 + n % 10).toNat]).size ≤ 1 := Nat.le_refl _
        go_wp2_with fail
        refine (Ih.out (n / 10) _ (by omega) (by omega) (by omega)).mono ?_
        rintro e w1 ⟨rfl, hf⟩
        have Hf := Lib.hid (((Frm.refl noB w).alloc _).trans hf)
        clear hf
        go_wp2_with fail
        go_ret
        exact ⟨ret_str (by rw [he.out, ← bs_app]), Hf.out⟩
    · have ht0 : n.tmod 10 ≤ 0 := by have := Int.tmod_nonneg 10 (show 0 ≤ -n by omega); rw [Int.neg_tmod] at this; omega
      have ht1 : -9 ≤ n.tmod 10 := by have := Int.tmod_lt_of_pos (-n) (show (0 : Int) < 10 by omega); rw [Int.neg_tmod] at this; omega
      by_cases h10 : -10 < n
      · have he := decL_neg (show n < 0 by omega) h10
        by_cases hz : n.tmod 10 < 0
        · have hcv := fun w => conv_byte w (48 + -(n.tmod 10)) (by omega) (by omega)
          have He := Lib.hid he
          clear he
          go_enter Try.func25, Try.ntmps25
          go_wp2_with fail
          go_ret
          exact ⟨ret_str (by rw [He.out]; exact bs_app [45] _), (Frm.refl _ _).alloc _⟩
        · have hcv := fun w => conv_byte w (48 + n.tmod 10) (by omega) (by omega)
          rw [show 48 + -(n.tmod 10) = 48 + n.tmod 10 from by omega] at he
          have He := Lib.hid he
          clear he
          go_enter Try.func25, Try.ntmps25
          go_wp2_with fail
          go_ret
          exact ⟨ret_str (by rw [He.out]; exact bs_app [45] _), (Frm.refl _ _).alloc _⟩
      · have he := decL_low (show n ≤ -10 by omega)
        have hq0 : n.tdiv 10 ≤ 0 ∧ -9223372036854775808 ≤ n.tdiv 10 ∧ n < n.tdiv 10 := by
          have h2 : (-n).tdiv 10 = (-n) / 10 := Int.tdiv_eq_ediv_of_nonneg (by omega)
          rw [Int.neg_tdiv] at h2
          omega
        obtain ⟨hq1, hq2, hq3⟩ := hq0
        by_cases hz : n.tmod 10 < 0
        · have hcv := fun w => conv_byte w (48 + -(n.tmod 10)) (by omega) (by omega)
          have He := Lib.hid he
          clear he
          go_enter Try.func25, Try.ntmps25
          have hs1 : (bs (decL (n.tdiv 10))).size ≤ 20 := by rw [bs_size]; exact decL_len (by omega) (by omega)
          have hs2 : (bs [UInt8.ofNat (48 + -(n.tmod 10)).toNat]).size ≤ 1 := Nat.le_refl _
          have hs3 : (bs [UInt8.ofNat (48 + n.tmod 10).toNat]).size ≤ 1 := Nat.le_refl _
          go_wp2_with fail
          refine (Ih.out (n.tdiv 10) _ (by omega) (by omega) (by omega)).mono ?_
          rintro e w1 ⟨rfl, hf⟩
          have Hf := Lib.hid (((Frm.refl noB w).alloc _).trans hf)
          clear hf
          go_wp2_with fail
          go_ret
          exact ⟨ret_str (by rw [He.out, ← bs_app]), Hf.out⟩
        · have hcv := fun w => conv_byte w (48 + n.tmod 10) (by omega) (by omega)
          rw [show 48 + -(n.tmod 10) = 48 + n.tmod 10 from by omega] at he
          have He := Lib.hid he
          clear he
          go_enter Try.func25, Try.ntmps25
          have hs1 : (bs (decL (n.tdiv 10))).size ≤ 20 := by rw [bs_size]; exact decL_len (by omega) (by omega)
          have hs2 : (bs [UInt8.ofNat (48 + -(n.tmod 10)).toNat]).size ≤ 1 := Nat.le_refl _
          have hs3 : (bs [UInt8.ofNat (48 + n.tmod 10).toNat]).size ≤ 1 := Nat.le_refl _
          go_wp2_with fail
          refine (Ih.out (n.tdiv 10) _ (by omega) (by omega) (by omega)).mono ?_
          rintro e w1 ⟨rfl, hf⟩
          have Hf := Lib.hid (((Frm.refl noB w).alloc _).trans hf)
          clear hf
          go_wp2_with fail
          go_ret
          exact ⟨ret_str (by rw [He.out, ← bs_app]), Hf.out⟩
theorem decimal_any (n : Int) (w : World) (h0 : -9223372036854775808 ≤ n) (h1 : n ≤ 9223372036854775807) : Calls Try.prog 25 #[.int .i64 n] w (DecIs n w) :=
  decimal_bd n.natAbs n w (Nat.le_refl _) h0 h1
end Go.Proofs.Ytnmcdecdgcnmbaa
