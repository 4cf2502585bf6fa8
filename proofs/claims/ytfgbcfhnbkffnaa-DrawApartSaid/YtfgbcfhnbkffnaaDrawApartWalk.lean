/- The walk of the statement DrawApart. -/
import Derived.Test.YtfgbcfhnbkffnaaLaws02
import Derived.Test.YtfgbcfhnbkffnaaDrawInj
set_option linter.unusedVariables false
namespace Go.Proofs.Ytfgbcfhnbkffnaa
open Go.RowKit

theorem fact (x y a b : Int) (h : x = y ↔ a = b) : (x == y) = (a == b) := by
  rw [Bool.eq_iff_iff]; simpa using h
theorem mix_b (a b c : Nat) (hb : b < 18446744073709551616) (hc : c < 18446744073709551616) : ((mix a b : Nat) : Int) = ((mix a c : Nat) : Int) ↔ (b : Int) = (c : Int) := by
  constructor
  · intro h
    have h1 : mix a b = mix a c := by omega
    unfold mix at h1
    have := mixed_inj_b a b c hb hc h1
    omega
  · intro h
    have : b = c := by omega
    rw [this]
theorem mix_a (a b c : Nat) (ha : a < 18446744073709551616) (hb : b < 18446744073709551616) (hc : c < 18446744073709551616) : ((mix a c : Nat) : Int) = ((mix b c : Nat) : Int) ↔ (a : Int) = (b : Int) := by
  constructor
  · intro h
    have h1 : mix a c = mix b c := by omega
    unfold mix at h1
    have := mixed_inj_a a b c ha hb hc h1
    omega
  · intro h
    have : a = b := by omega
    rw [this]
def outs (s k : Nat) : List Nat := (List.range k).map (numb s)
theorem outs_len (s k : Nat) : (outs s k).length = k := by unfold outs; simp
theorem outs_succ (s k : Nat) : outs s (k + 1) = outs s k ++ [numb s k] := by unfold outs; rw [List.range_succ]; simp
theorem outs_get (s k j : Nat) (h : j < k) : (outs s k)[j]? = some (numb s j) := by unfold outs; simp [h]
theorem numb_eq (s k : Nat) : numb s k = nxt [] (walked k s) := by unfold numb nxt; rw [walked]
theorem walked_succ (s k : Nat) : walked (k + 1) s = seedOn [] (walked k s) := by unfold seedOn; rw [walked]
theorem walked_zero (s : Nat) : walked 0 s = s := by rw [walked]

set_option maxHeartbeats 2000000 in
theorem drawApart_walk (a0 : Int) (a1 : Int) (a2 : Int) (a3 : Int) (w0 : (Lit.int .u64 a0).wf = true) (w1 : (Lit.int .u64 a1).wf = true) (w2 : (Lit.int .u64 a2).wf = true) (w3 : (Lit.int .u64 a3).wf = true) (w : World) :
    Calls Try.prog 5 #[.int .u64 a0, .int .u64 a1, .int .u64 a2, .int .u64 a3] w fun e w' => e = .returned (.bool true) ∧ Below w.heap.size w w' := by
  obtain ⟨a, rfl, ha⟩ := wf_u64 w0
  obtain ⟨b, rfl, hb⟩ := wf_u64 w1
  obtain ⟨c, rfl, hc⟩ := wf_u64 w2
  obtain ⟨seed, rfl, hs⟩ := wf_u64 w3
  clear w0 w1 w2 w3
  obtain ⟨i0, hi, hz0, hz1, hz2⟩ := info_parts info_u64
  have f1 := fact _ _ _ _ (mix_b a b c hb hc)
  have f2 := fact _ _ _ _ (mix_a a b c ha hb hc)
  go_enter Try.func5, Try.ntmps5
  go_wp2_with fail
  refine (mix_any a b _ ha hb).mono ?_
  rintro e w' ⟨rfl, rfl⟩
  go_wp2_with fail
  refine (mix_any a c _ ha hc).mono ?_
  rintro e w' ⟨rfl, rfl⟩
  go_wp2_with fail
  refine (mix_any a c _ ha hc).mono ?_
  rintro e w' ⟨rfl, rfl⟩
  go_wp2_with fail
  refine (mix_any b c _ hb hc).mono ?_
  rintro e w' ⟨rfl, rfl⟩
  go_wp2_with fail
  refine (new_none seed none 0 w).mono ?_
  rintro e w1 ⟨rfl, hw⟩
  have hd : Drw w1 w.heap.size w.heap.size [] seed 0 := hw ▸ drw_new hs
  have hf : Frm noB w w1 := hw ▸ (Frm.refl noB w).alloc _
  have hz : w1.heap.size = w.heap.size + 1 := by rw [← hw]; simp
  have Hd := Lib.hid hd
  have Hf := Lib.hid hf
  have hzz : w.heap.size < w1.heap.size := by omega
  clear hd hf hw hz f1 f2
  go_wp2_with fail
  go_loopw [10, 11] (fun v i wr => ∃ k : Nat, k ≤ 40 ∧ i = .int .i64 k ∧ wr.ownsRow w1.heap.size 22 1 v k (u64s (outs seed k)) ∧ Drw wr w.heap.size w.heap.size [] (walked k seed) k ∧ Frm noB w wr ∧ w1.heap.size ≤ wr.heap.size) (fun _ i _ => 40 - (intOf i).toNat)
  case atStart => exact ⟨0, by omega, rfl, World.ownsRow_nil _ _ _ _, by rw [walked_zero]; exact Hd.out, Hf.out, Nat.le_refl _⟩
  case round =>
    obtain ⟨k, hk, rfl, hown, hd, hf, hsz⟩ := hrel
    by_cases hlt : k < 40
    · have Hd2 := Lib.hid hd
      have Hown := Lib.hid hown
      have Hf2 := Lib.hid hf
      clear hd hown hf
      go_wp2_with fail
      refine (next_any _ _ _ _ _ _ Hd2.out (by omega)).mono ?_
      rintro e w3 ⟨rfl, hd3, hf3⟩
      have Hd3 := Lib.hid hd3
      have Hf3 := Lib.hid (Hf2.out.new hf3 (fun i hi h => by simp only [oneB] at h; omega))
      have Hown3 := Lib.hid (ownsRow_frm Hown.out hf3 (by simp only [oneB]; intro b hb; omega))
      have hsz3 := hf3.size
      have Hos := Lib.hid (outs_succ seed k)
      have Hus := Lib.hid (u64s_snoc (outs seed k) (numb seed k))
      have Hw1 := Lib.hid (walked_succ seed k)
      obtain ⟨y, hy⟩ : ∃ y, y = numb seed k := ⟨_, rfl⟩
      rw [← numb_eq, ← hy]
      have Hy := Lib.hid hy
      clear hd3 hf3 hy
      go_wp2_with fail
      by_cases hk0 : k = 0
      · subst hk0
        refine wp_loop_once ?_
        go_wp2_with (at_builtin; refine wpList_append_own _ rfl _ _ 23 rfl w1.heap.size 22 i0 (.int .u64 0) 1 8 Try.underlying23 hi hz0 hz1 hz2 rfl (by decide) _ 0 _ rfl (Hown3.out.alloc _) ⟨w3.heap.size, 0, none⟩ 1 1 [.int .u64 (y : Int)] rfl rfl ?c1 ?c2 ?c3 ?c4 ?c5 ?_)
        case c1 => exact one_new _ _ _
        case c2 => simp [Value.oneCell']
        case c3 => simp only [maxLen]; omega
        case c4 => omega
        case c5 => simp; omega
        intro v' w4 hown' hg _
        have Hown' := Lib.hid hown'
        have hff : Frm (fun i => w1.heap.size ≤ i) w3 w4 := (Frm.refl _ w3).alloc _ |>.new (Frm.ofGrown hg) (fun i hi h => (Hown3.out.lt i h.symm).1)
        have Hf4 := Lib.hid (Hf3.out.grownOwn hg Hown3.out (by omega))
        have Hd4 := Lib.hid (Hd3.out.frm hff (by omega) (by omega))
        have hsz4 := hff.size
        clear hown' hg hff
        go_wp2
        go_roundw
        case rel => exact ⟨0 + 1, by omega, by go_num, by rw [Hos.out, Hus.out, ← Hy.out]; exact Hown'.out, by rw [Hw1.out]; exact Hd4.out, Hf4.out, by omega⟩
        case measure => simp [intOf]
      · have hvn : ∀ v, w3.ownsRow w1.heap.size 22 1 v k (u64s (outs seed k)) → v ≠ .slice none 0 0 := by
          intro v h e
          subst e
          rcases h.2 with ⟨_, h0⟩ | ⟨_, _, _, h1, _⟩
          · omega
          · simp at h1
        obtain ⟨g, cap, cur, hv, hg, hb1, hc1, hc2, hc3, hc4, hc5⟩ := ownsRow_blk Hown3.out (hvn _ Hown3.out)
        subst hv
        have Hb1 := Lib.hid hb1
        have Hc5 := Lib.hid hc5
        clear hvn hb1 hc5 hc4 hc3
        obtain ⟨wo, hwo⟩ : ∃ wo : World, wo = w3 := ⟨_, rfl⟩
        go_loop [13] (fun i => ∃ j : Nat, j ≤ k ∧ i = .int .i64 j) (fun i => k - (intOf i).toNat)
        case atStart => exact ⟨0, by omega, rfl⟩
        case round =>
          obtain ⟨j, hj, rfl⟩ := hrel
          by_cases hjk : j < k
          · have hcl := Hb1.out.cell j
            rw [Hc5.out j _ (u64s_get (outs_get seed k j hjk))] at hcl
            have hne : ((numb seed j : Nat) : Int) = (y : Int) → False := fun e => numb_ne seed j k hs hjk hlt (by rw [← Hy.out]; omega)
            have hnb : (((numb seed j : Nat) : Int) == (y : Int)) = false := by simpa using hne
            clear hne
            go_wp2
            go_round
            case rel => exact ⟨j + 1, by omega, by go_num⟩
            case measure => simp [intOf]; omega
          · obtain rfl : j = k := by omega
            go_wp2_with (at_builtin; refine wpList_append_own _ rfl _ _ 23 rfl w1.heap.size 22 i0 (.int .u64 0) 1 8 Try.underlying23 hi hz0 hz1 hz2 rfl (by decide) _ j _ rfl (Hown3.out.alloc _) ⟨w3.heap.size, 0, none⟩ 1 1 [.int .u64 (y : Int)] rfl rfl ?c11 ?c12 ?c13 ?c14 ?c15 ?_)
            case c12 => simp [Value.oneCell']
            case c13 => simp only [maxLen]; omega
            case c14 => omega
            case c15 => first | omega | (simp; omega)
            intro v' w4 hown' hg _
            have Hown' := Lib.hid hown'
            have hff : Frm (fun i => w1.heap.size ≤ i) w3 w4 := (Frm.refl _ w3).alloc _ |>.new (Frm.ofGrown hg) (fun i hi h => (Hown3.out.lt i h.symm).1)
            have Hf4 := Lib.hid (Hf3.out.grownOwn hg Hown3.out (by omega))
            have Hd4 := Lib.hid (Hd3.out.frm hff (by omega) (by omega))
            have hsz4 := hff.size
            clear hown' hg hff
            go_wp2
            go_roundw
            case rel => exact ⟨j + 1, by omega, by go_num, by rw [Hos.out, Hus.out, ← Hy.out]; exact Hown'.out, by rw [Hw1.out]; exact Hd4.out, Hf4.out, by omega⟩
            case measure => simp [intOf]; omega
    · obtain rfl : k = 40 := by omega
      have Hf2 := Lib.hid hf
      clear hown hd hf
      go_wp2_with fail
      refine (lives_any _).mono ?_
      rintro e w' ⟨rfl, hf⟩
      have Hf5 := Lib.hid (Hf2.out.trans hf)
      clear hf
      go_wp2
      go_ret
      exact ⟨rfl, Hf5.out.below (Nat.le_refl _) (fun _ _ h => h)⟩
end Go.Proofs.Ytfgbcfhnbkffnaa
