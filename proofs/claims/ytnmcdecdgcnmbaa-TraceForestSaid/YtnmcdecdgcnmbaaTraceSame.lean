/- Spans and Same of the reference. -/
import Derived.Test.YtnmcdecdgcnmbaaTraceSpans
set_option linter.unusedVariables false
namespace Go.Proofs.Ytnmcdecdgcnmbaa
open Go.RowKit

theorem ownL_snoc {L : List Spn} {k : Nat} {x : Spn} (hk : L[k]? = some x) (r : Int) : ownL (L.take (k + 1)) r = if reqL x.name.data.toList = r then ownL (L.take k) r ++ [x] else ownL (L.take k) r := by
  rw [List.take_add_one, hk]
  exact ownL_app _ _ _

set_option maxHeartbeats 1000000 in
theorem ref_spans (v : Value) (L : List Spn) (base : Nat) (r : Int) (w : World) (h : Own spnE w base 35 v L) (hL : L.length ≤ 1000) (hN : ∀ s ∈ L, s.name.size ≤ 1000000) :
    Calls Try.prog 19 #[v, .int .i64 r] w fun e w' => ∃ v', e = .returned v' ∧ Own spnE w' w.heap.size 35 v' (ownL L r) ∧ Frm noB w w' := by
  obtain ⟨a, c, rfl, hl, hg⟩ := h.shape
  obtain ⟨n, hn⟩ : ∃ n, n = L.length := ⟨_, rfl⟩
  rw [← hn] at hl hg h hL ⊢
  have Hh := Lib.hid h
  have Hg := Lib.hid hg
  have Hn := Lib.hid hn
  have HN := Lib.hid hN
  clear h hg hn hN
  go_enter Try.func19, Try.ntmps19
  go_wp2_with fail
  go_loopw [5, 6] (fun o i wr => ∃ k : Nat, k ≤ n ∧ i = .int .i64 k ∧ Own spnE wr w.heap.size 35 o (ownL (L.take k) r) ∧ Frm noB w wr) (fun _ i _ => n - (intOf i).toNat)
  case atStart => exact ⟨0, by omega, rfl, Own.nil _ _ _ _, Frm.refl _ _⟩
  case round =>
    obtain ⟨k, hk, rfl, hown, hf⟩ := hrel
    by_cases hlt : k < n
    · obtain ⟨x, hx⟩ := get_of_lt (l := L) (j := k) (by rw [← Hn.out]; exact hlt)
      obtain ⟨g, rfl, hg1, hg2⟩ := Hg.out (by omega)
      have hxs := HN.out x (List.mem_of_getElem? hx)
      obtain ⟨c0, _⟩ := spn_cells (Hh.out.keep hf) hx
      have hsn := ownL_snoc hx r
      have hsm : (ownL (L.take k) r).length ≤ 1000000 := Nat.le_trans (ownL_len _ _) (by rw [List.length_take, ← Hn.out]; omega)
      by_cases hq : reqL x.name.data.toList = r
      · have hst : (reqL x.name.data.toList == r) = true := by simpa using hq
        rw [if_pos hq] at hsn
        have Hown := Lib.hid hown
        have Hf := Lib.hid hf
        have Hsn := Lib.hid hsn
        have Hx := Lib.hid hx
        have Hq := Lib.hid hq
        have Hsm := Lib.hid hsm
        clear hown hf hsn hx hq hsm
        go_wp2_with fail
        refine (ref_req x.name _ hxs).mono ?_
        rintro e w1 ⟨rfl, hf1⟩
        have hown1 := Hown.out.keep hf1
        have hf2 := Hf.out.trans hf1
        have hrow := Hh.out.keep hf2
        obtain ⟨d0, d1, d2, d3, d4, d5⟩ := spn_cells hrow Hx.out
        have hz := hf2.size
        have hgw : g < w1.heap.size := by omega
        have Hown1 := Lib.hid hown1
        have Hf2 := Lib.hid hf2
        have Hrow := Lib.hid hrow
        clear hown1 hf2 hrow
        clear hf1
        go_wp2_with (at_builtin; refine app_spn w1 (by rfl) _ _ (by rfl) w.heap.size _ (ownL (L.take k) r) (by rfl) Hown1.out x _ (by rfl) w1.heap.size rfl (by rfl) Hsm.out hz ?_)
        intro v' w2 ho hf3 hf4 hat hne
        have Ho := Lib.hid ho
        have Hf4 := Lib.hid (Hf2.out.new hf4 (fun i hi h => by have := Hown1.out.lt i h.symm; omega))
        clear ho hf3 hf4 hat hne
        go_wp2_with fail
        go_roundw
        case rel => exact ⟨k + 1, by omega, by go_num, by rw [Hsn.out]; exact Ho.out, Hf4.out⟩
        case measure => simp [intOf]; omega
      · have hst : (reqL x.name.data.toList == r) = false := by simpa using hq
        rw [if_neg hq] at hsn
        have Hown := Lib.hid hown
        have Hf := Lib.hid hf
        have Hsn := Lib.hid hsn
        have Hx := Lib.hid hx
        have Hq := Lib.hid hq
        have Hsm := Lib.hid hsm
        clear hown hf hsn hx hq hsm
        go_wp2_with fail
        refine (ref_req x.name _ hxs).mono ?_
        rintro e w1 ⟨rfl, hf1⟩
        have hown1 := Hown.out.keep hf1
        have hf2 := Hf.out.trans hf1
        have Hown1 := Lib.hid hown1
        have Hf2 := Lib.hid hf2
        clear hown1 hf2
        clear hf1
        go_wp2_with fail
        go_roundw
        case rel => exact ⟨k + 1, by omega, by go_num, by rw [Hsn.out]; exact Hown1.out, Hf2.out⟩
        case measure => simp [intOf]; omega
    · obtain rfl : k = n := by omega
      rw [List.take_of_length_le (by rw [← Hn.out]; exact Nat.le_refl _)] at hown
      have Hown := Lib.hid hown
      have Hf := Lib.hid hf
      clear hown hf
      go_wp2_with fail
      go_ret
      exact ⟨_, rfl, Hown.out, Hf.out⟩

set_option maxHeartbeats 1000000 in
theorem same_any (v v' : Value) (L : List Spn) (base base' : Nat) (w : World) (h : Own spnE w base 35 v L) (h' : Own spnE w base' 35 v' L) :
    Calls Try.prog 17 #[v, v'] w fun e w' => e = .returned (.bool true) ∧ Frm noB w w' := by
  obtain ⟨a, c, rfl, hl, hg⟩ := h.shape
  obtain ⟨a', c', rfl, hl', hg'⟩ := h'.shape
  obtain ⟨n, hn⟩ : ∃ n, n = L.length := ⟨_, rfl⟩
  rw [← hn] at hl hg h h' hg' ⊢
  have Hh := Lib.hid h
  have Hg := Lib.hid hg
  have Hn := Lib.hid hn
  have H' := Lib.hid h'
  have Hg' := Lib.hid hg'
  clear h hg hn h' hg'
  go_enter Try.func17, Try.ntmps17
  go_wp2_with fail
  go_loopw [5] (fun i wr => ∃ k : Nat, k ≤ n ∧ i = .int .i64 k ∧ Frm noB w wr) (fun i _ => n - (intOf i).toNat)
  case atStart => exact ⟨0, by omega, rfl, Frm.refl _ _⟩
  case round =>
    obtain ⟨k, hk, rfl, hf⟩ := hrel
    by_cases hlt : k < n
    · obtain ⟨x, hx⟩ := get_of_lt (l := L) (j := k) (by rw [← Hn.out]; exact hlt)
      obtain ⟨g, rfl, hg1, hg2⟩ := Hg.out (by omega)
      obtain ⟨g', rfl, hg1', hg2'⟩ := Hg'.out (by omega)
      obtain ⟨c0, c1, c2, c3, c4, c5⟩ := spn_cells (Hh.out.keep hf) hx
      obtain ⟨d0, d1, d2, d3, d4, d5⟩ := spn_cells (H'.out.keep hf) hx
      have hz := hf.size
      have hgw : g < wr.heap.size := by omega
      have hgw' : g' < wr.heap.size := by omega
      have hst : (x.name.toList == x.name.toList) = true := by simp
      have Hf := Lib.hid hf
      have Hx := Lib.hid hx
      clear hf hx
      go_wp2_with fail
      go_quiet (fail)
      go_wp2_with fail
      go_roundw
      case rel => exact ⟨k + 1, by omega, by go_num, Frm.drewN Hf.out _⟩
      case measure => simp [intOf]; omega
    · obtain rfl : k = n := by omega
      have Hf := Lib.hid hf
      clear hf
      go_wp2_with fail
      go_ret
      exact ⟨rfl, Hf.out⟩
end Go.Proofs.Ytnmcdecdgcnmbaa
