/- The walk of the statement DrawEven. -/
import Derived.Test.YtfgbcfhnbkffnaaLaws02
import Derived.Test.YtfgbcfhnbkffnaaAround
import Derived.Test.YtfgbcfhnbkffnaaHas
set_option linter.unusedVariables false
namespace Go.Proofs.Ytfgbcfhnbkffnaa
open Go.RowKit

theorem info_i64 : (Try.prog.info? 3).map (fun i => (i.zero, i.size, i.bytes)) = some (some (.int .i64 0), 1, 8) := by kernel_rfl

/-- The numbers one behind the other. -/
def row (b k : Nat) : List Nat := (List.range k).map fun j => b + j
theorem row_len (b k : Nat) : (row b k).length = k := by unfold row; simp
theorem row_succ (b k : Nat) : row b (k + 1) = row b k ++ [b + k] := by unfold row; rw [List.range_succ]; simp
theorem row_get (b k j : Nat) (h : j < k) : (row b k)[j]? = some (b + j) := by unfold row; simp [h]
/-- What was met. -/
def mets (b m i : Nat) : List Int := (List.range i).map fun j => (((b + j) % m : Nat) : Int)
theorem mets_len (b m i : Nat) : (mets b m i).length = i := by unfold mets; simp
theorem mets_succ (b m i : Nat) : mets b m (i + 1) = mets b m i ++ [(((b + i) % m : Nat) : Int)] := by unfold mets; rw [List.range_succ]; simp
theorem mod_ne (b m i j : Nat) (hj : j < i) (hi : i < m) : (b + j) % m ≠ (b + i) % m := by
  intro h
  have h1 := Nat.div_add_mod (b + j) m
  have h2 := Nat.div_add_mod (b + i) m
  rw [h] at h1
  have h3 : m * ((b + j) / m) ≤ m * ((b + i) / m) := Nat.mul_le_mul_left _ (Nat.div_le_div_right (by omega))
  have h4 : m * ((b + i) / m) = m * ((b + j) / m) + (i - j) := by omega
  have h5 : (b + j) / m = (b + i) / m := by
    rcases Nat.lt_or_ge ((b + j) / m) ((b + i) / m) with h | h
    · have : m * ((b + j) / m + 1) ≤ m * ((b + i) / m) := Nat.mul_le_mul_left _ h
      rw [Nat.mul_add] at this
      omega
    · exact Nat.le_antisymm (Nat.div_le_div_right (by omega)) h
  rw [h5] at h4
  omega
theorem mets_not (b m i : Nat) (hi : i < m) : hasB (mets b m i) (((b + i) % m : Nat) : Int) = false := by
  unfold hasB
  rw [Bool.eq_false_iff]
  intro h
  have h' : (((b + i) % m : Nat) : Int) ∈ mets b m i := by simpa using h
  unfold mets at h'
  obtain ⟨j, hj, he⟩ := List.mem_map.1 h'
  have hj' : j < i := by simpa using hj
  exact mod_ne b m i j hj' hi (by omega)

set_option maxHeartbeats 1000000 in
theorem drawEven_walk (a0 : Int) (a1 : Int) (w0 : (Lit.int .u64 a0).wf = true) (w1 : (Lit.int .i64 a1).wf = true) (w : World) :
    Calls Try.prog 6 #[.int .u64 a0, .int .i64 a1] w fun e w' => e = .returned (.bool true) ∧ Below w.heap.size w w' := by
  obtain ⟨first, rfl, hs⟩ := wf_u64 w0
  have b1 := wf_i64 w1
  clear w0 w1
  have hm0 := around_lt a1 30 (by omega)
  obtain ⟨i0, hi, hz0, hz1, hz2⟩ := info_parts info_u64
  obtain ⟨i1, hj, hy0, hy1, hy2⟩ := info_parts info_i64
  go_enter Try.func6, Try.ntmps6
  go_wp2_with fail
  refine (around_any a1 30 _ b1.1 b1.2 (by omega) (by omega)).mono ?_
  rintro e w' ⟨rfl, rfl⟩
  generalize around a1 30 = m0 at *
  have em : (1 : Int) + (m0 : Int) = ((1 + m0 : Nat) : Int) := by omega
  obtain ⟨m, hm⟩ : ∃ m, m = 1 + m0 := ⟨_, rfl⟩
  have hmp : 0 < m := by omega
  have hm3 : m ≤ 30 := by omega
  rw [← hm] at em
  have Em := Lib.hid em
  clear em hm
  have ef : (first : Int) / 2 = ((first / 2 : Nat) : Int) := by omega
  have Ef := Lib.hid ef
  have hb : first / 2 < 9223372036854775808 := by omega
  clear ef
  generalize first / 2 = bg at *
  go_wp2_with fail
  rw [Em.out, Ef.out]
  clear hm0 hs
  have rowb : ∀ k j x, (row bg k)[j]? = some x → x < bg + k := fun k j x h => by
    have hl := get_lt h
    rw [row_len] at hl
    rw [row_get bg k j hl] at h
    simp at h
    omega
  have Rowb := Lib.hid rowb
  clear rowb
  go_loopw [6, 8] (fun v i wr => ∃ k : Nat, k ≤ m ∧ i = .int .i64 k ∧ wr.ownsRow w.heap.size 22 1 v k (u64s (row bg k)) ∧ Frm noB w wr) (fun _ i _ => m - (intOf i).toNat)
  case atStart => exact ⟨0, by omega, rfl, World.ownsRow_nil w _ _ _, Frm.refl _ _⟩
  case round =>
    obtain ⟨k, hk, rfl, hown, hf⟩ := hrel
    by_cases hlt : k < m
    · have hsz := hf.size
      have Hown := Lib.hid hown
      have Hf := Lib.hid hf
      have ew : IntKind.u64.wrap ((bg : Int) + (k : Int)) = ((bg + k : Nat) : Int) := by rw [IntKind.wrap_u64]; omega
      have Ew := Lib.hid ew
      have hsum : (bg : Int) + (k : Int) ≤ 18446744073709551615 := by omega
      have Hsn := Lib.hid (u64s_snoc (row bg k) (bg + k))
      have Hrs := Lib.hid (row_succ bg k)
      clear hown hf ew
      go_wp2_with (at_builtin; refine wpList_append_own _ rfl _ _ 23 rfl w.heap.size 22 i0 (.int .u64 0) 1 8 Try.underlying23 hi hz0 hz1 hz2 rfl (by decide) _ k _ rfl (Hown.out.alloc _) ⟨wr.heap.size, 0, none⟩ 1 1 [.int .u64 ((bg : Int) + (k : Int))] rfl rfl ?c1 ?c2 ?c3 ?c4 ?c5 ?_)
      case c1 => exact one_new _ _ _
      case c2 => simp [Value.oneCell']
      case c3 => simp only [maxLen]; omega
      case c4 => omega
      case c5 => simp; omega
      intro v' w1 hown' hg _
      have Hown' := Lib.hid hown'
      have Hf' := Lib.hid (Hf.out.grownOwn hg Hown.out (Nat.le_refl _))
      clear hown' hg
      go_wp2
      go_roundw
      case rel => exact ⟨k + 1, by omega, by go_num, by rw [Hrs.out, Hsn.out]; exact Hown'.out, Hf'.out⟩
      case measure => simp [intOf]; omega
    · obtain rfl : k = m := by omega
      have hne : ∀ v, wr.ownsRow w.heap.size 22 1 v k (u64s (row bg k)) → v ≠ .slice none 0 0 := by
        intro v h e
        subst e
        rcases h.2 with ⟨_, h0⟩ | ⟨_, _, _, h1, _⟩
        · omega
        · simp at h1
      obtain ⟨g, cap, cur, rfl, hg, hb1, hc1, hc2, hc3, hc4, hc5⟩ := ownsRow_blk hown (hne _ hown)
      have Hb1 := Lib.hid hb1
      have Hc5 := Lib.hid hc5
      have Hf := Lib.hid hf
      have hgl := hb1.lt
      clear hown hb1 hc5 hf hc4 hc3 hne
      go_wp2_with fail
      refine (new_some 0 g 0 k cap (row bg k) wr (by decide) hmp (by omega) (row_len _ _) ?_ ?_).mono ?_
      · intro x hx
        obtain ⟨j, hj⟩ := List.mem_iff_getElem?.1 hx
        have := Rowb.out k j x hj
        omega
      · intro j x hx
        rw [Hb1.out.cell, Nat.zero_add]
        exact Hc5.out j _ (u64s_get hx)
      rintro e w2 ⟨rd, rfl, hd2, hrd, hf2⟩
      have Hd2 := Lib.hid hd2
      have Hf2 := Lib.hid (Hf.out.trans hf2)
      have hz2 : wr.heap.size < w2.heap.size := by obtain ⟨_, _, hb⟩ := hd2.blk; exact hb.lt
      have hrl : rd < w2.heap.size := hd2.rlt (fun e => by have := row_len bg k; rw [e] at this; simp at this; omega)
      have hzw : w.heap.size ≤ wr.heap.size := Hf.out.size
      clear hd2 hf2 Hb1 Hc5
      go_wp2_with fail
      go_loopw [10, 11] (fun v i wq => ∃ q : Nat, q ≤ k ∧ i = .int .i64 q ∧ wq.ownsRow w2.heap.size 3 1 v q (i64s (mets bg k q)) ∧ Drw wq wr.heap.size rd ((row bg k).drop q) 0 q ∧ Frm noB w wq ∧ w2.heap.size ≤ wq.heap.size) (fun _ i _ => k - (intOf i).toNat)
      case atStart => exact ⟨0, by omega, rfl, World.ownsRow_nil _ _ _ _, Hd2.out, Hf2.out, Nat.le_refl _⟩
      case round =>
        obtain ⟨q, hq, rfl, hown, hd, hf, hsz⟩ := hrel
        by_cases hlt2 : q < k
        · have hdr : (row bg k).drop q = (bg + q) :: (row bg k).drop (q + 1) := by
            have h1 := row_get bg k q hlt2
            have h2 : q < (row bg k).length := by rw [row_len]; exact hlt2
            rw [List.drop_eq_getElem_cons h2]
            rw [List.getElem?_eq_getElem h2] at h1
            simp at h1
            rw [h1]
          rw [hdr] at hd
          have Hd := Lib.hid hd
          have Hown := Lib.hid hown
          have Hf := Lib.hid hf
          clear hd hown hf hdr
          have hmod : (bg + q) % k < k := Nat.mod_lt _ hmp
          have hnot := Lib.hid (mets_not bg k q hlt2)
          have Hms := Lib.hid (mets_succ bg k q)
          have His := Lib.hid (i64s_snoc (mets bg k q) (((bg + q) % k : Nat) : Int))
          go_wp2_with fail
          refine (below_any _ _ _ _ _ k _ Hd.out (by omega) hmp (by omega)).mono ?_
          rintro e w3 ⟨rfl, hd3, hf3⟩
          rw [show nxt ((bg + q) :: (row bg k).drop (q + 1)) 0 = bg + q from rfl]
          have Hd3 := Lib.hid hd3
          have Hf3 := Lib.hid (Hf.out.new hf3 (fun i hi h => by simp only [oneB] at h; omega))
          have Hown3 := Lib.hid (ownsRow_frm Hown.out hf3 (by simp only [oneB]; intro b hb; omega))
          have hsz3 := hf3.size
          clear hd3 hf3
          generalize (bg + q) % k = z at *
          go_wp2_with fail
          refine (has_own Hown3.out (by omega) (z : Int)).mono ?_
          rintro e w' ⟨rfl, rfl⟩
          rw [hnot.out]
          go_wp2_with (at_builtin; refine wpList_append_own _ rfl _ _ 39 rfl w2.heap.size 3 i1 (.int .i64 0) 1 8 Try.underlying39 hj hy0 hy1 hy2 rfl (by decide) _ q _ rfl (Hown3.out.alloc _) ⟨w3.heap.size, 0, none⟩ 1 1 [.int .i64 (z : Int)] rfl rfl ?c6 ?c7 ?c8 ?c9 ?c10 ?_)
          case c6 => exact one_new _ _ _
          case c7 => simp [Value.oneCell']
          case c8 => simp only [maxLen]; omega
          case c9 => omega
          case c10 => simp; omega
          intro v' w4 hown' hg _
          have Hown' := Lib.hid hown'
          have Hf4 := Lib.hid (Hf3.out.grownOwn hg Hown3.out (by omega))
          have hff : Frm (fun i => w2.heap.size ≤ i) w3 w4 := (Frm.refl _ w3).alloc _ |>.new (Frm.ofGrown hg) (fun i hi h => (Hown3.out.lt i h.symm).1)
          have Hd4 := Lib.hid (Hd3.out.frm hff (by omega) (by omega))
          have hsz4 := hff.size
          clear hown' hg hff
          go_wp2
          go_roundw
          case rel => exact ⟨q + 1, by omega, by go_num, by rw [Hms.out, His.out]; exact Hown'.out, Hd4.out, Hf4.out, by omega⟩
          case measure => simp [intOf]; omega
        · obtain rfl : q = k := by omega
          have Hf := Lib.hid hf
          clear hown hd hf
          go_wp2_with fail
          refine (lives_any _).mono ?_
          rintro e w' ⟨rfl, hf⟩
          have Hf5 := Lib.hid (Hf.out.trans hf)
          clear hf
          go_wp2
          go_ret
          exact ⟨rfl, Hf5.out.below (Nat.le_refl _) (fun _ _ h => h)⟩
end Go.Proofs.Ytfgbcfhnbkffnaa
