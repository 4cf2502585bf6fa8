/- The reference of layer 29: requests of spans, the spans of a request. -/
import Derived.Test.YtdamhohoeobfgaaDoorReq18
import Derived.Test.YtdamhohoeobfgaaDoorIntRow
import Derived.Test.YtdamhohoeobfgaaDoorSampleP
set_option linter.unusedVariables false
namespace Go.Proofs.YtdamhohoeobfgaaDoor
open Go.RowKit

def NmS (x : Spn) : Prop := ∃ r : Nat, Nm x.name r ∧ rq x = (r : Int) + 1
theorem NmS.call {x : Spn} (h : NmS x) (w : World) : Calls Tryd.prog 34 #[.string x.name] w fun e w' => e = .returned (.int .i64 (rq x)) ∧ Frm noB w w' := by
  obtain ⟨r, h1, h2⟩ := h
  rw [h2]
  exact req18_any x.name r w h1
theorem reqsL_take {L : List Spn} {k : Nat} {x : Spn} (hk : L[k]? = some x) : reqsL (L.take (k + 1)) = if hasB (reqsL (L.take k)) (rq x) = true then reqsL (L.take k) else reqsL (L.take k) ++ [rq x] := by
  rw [List.take_add_one, hk]
  show reqsL (L.take k ++ [x]) = _
  rw [reqsL_snoc]
  unfold hasB
  simp only [List.contains_iff_mem]
set_option maxHeartbeats 1000000 in
theorem reqs_any (v : Value) (L : List Spn) (base : Nat) (w : World) (h : Own spnE w base 39 v L) (hL : L.length ≤ 100000) (hN : ∀ s ∈ L, NmS s) :
    Calls Tryd.prog 22 #[v] w fun e w' => ∃ v', e = .returned v' ∧ Own numE w' w.heap.size 3 v' (reqsL L) ∧ Frm noB w w' := by
  obtain ⟨a, c, rfl, hl, hg⟩ := h.shape
  obtain ⟨n, hn⟩ : ∃ n, n = L.length := ⟨_, rfl⟩
  rw [← hn] at hl hg h hL ⊢
  have Hh := Lib.hid h
  have Hg := Lib.hid hg
  have Hn := Lib.hid hn
  have HN := Lib.hid hN
  clear h hg hn hN
  go_enter Tryd.func22, Tryd.ntmps22
  go_wp2_with fail
  go_loopw [3, 4] (fun o i wr => ∃ k : Nat, k ≤ n ∧ i = .int .i64 k ∧ Own numE wr w.heap.size 3 o (reqsL (L.take k)) ∧ Frm noB w wr) (fun _ i _ => n - (intOf i).toNat)
  case atStart => exact ⟨0, by omega, rfl, Own.nil _ _ _ _, Frm.refl _ _⟩
  case round =>
    obtain ⟨k, hk, rfl, hown, hf⟩ := hrel
    by_cases hlt : k < n
    · obtain ⟨x, hx⟩ := get_of_lt (l := L) (j := k) (by rw [← Hn.out]; exact hlt)
      obtain ⟨g, rfl, hg1, hg2⟩ := Hg.out (by omega)
      have hxs := HN.out x (List.mem_of_getElem? hx)
      obtain ⟨c0, _⟩ := spn_cells (Hh.out.keep hf) hx
      have hsn := reqsL_take hx
      have hsm : (reqsL (L.take k)).length ≤ 1000000 := Nat.le_trans (reqsL_len _) (by rw [List.length_take, ← Hn.out]; omega)
      have hgw : g < wr.heap.size := Nat.lt_of_lt_of_le hg2 hf.size
      have hha := fun (W : World) (hW : Frm noB wr W) => has_own (num_own (hown.keep hW)) (by omega) (rq x)
      have Hown := Lib.hid hown
      have Hf := Lib.hid hf
      have Hx := Lib.hid hx
      have Hsm := Lib.hid hsm
      have Hha := Lib.hid hha
      have Hxs := Lib.hid hxs
      clear hown hf hx hsm hha hxs
      go_wp2_with fail
      refine (Hxs.out.call _).mono ?_
      rintro e w1 ⟨rfl, hf1⟩
      have hha2 := Hha.out _ hf1
      have hown1 := Hown.out.keep hf1
      have hf2 := Hf.out.trans hf1
      clear hf1
      cases hb : hasB (reqsL (L.take k)) (rq x) with
      | true =>
        rw [hb] at hsn hha2
        have Hb := Lib.hid hb
        have Hsn := Lib.hid hsn
        have Hha2 := Lib.hid hha2
        have Hown1 := Lib.hid hown1
        have Hf2 := Lib.hid hf2
        clear hb hsn hha2 hown1 hf2
        go_wp2_with fail
        refine (Hha2.out).mono ?_
        rintro e w2 ⟨rfl, rfl⟩
        go_wp2_with fail
        go_roundw
        case rel => exact ⟨k + 1, by omega, by go_num, by rw [Hsn.out]; exact Hown1.out, Hf2.out⟩
        case measure => simp [intOf]; omega
      | false =>
        rw [hb] at hsn hha2
        have hz := hf2.size
        have Hb := Lib.hid hb
        have Hsn := Lib.hid hsn
        have Hha2 := Lib.hid hha2
        have Hown1 := Lib.hid hown1
        have Hf2 := Lib.hid hf2
        clear hb hsn hha2 hown1 hf2
        go_wp2_with fail
        refine (Hha2.out).mono ?_
        rintro e w2 ⟨rfl, rfl⟩
        go_wp2_with (at_builtin; refine app_num w1 (by rfl) _ _ (by rfl) w.heap.size _ (reqsL (L.take k)) (by rfl) Hown1.out (rq x) _ (by rfl) w1.heap.size rfl (by rfl) Hsm.out hz ?_)
        intro v' w2 ho hf3 hf4 hat hne
        have Ho := Lib.hid ho
        have Hf4 := Lib.hid (Hf2.out.new hf4 (fun i hi h => by have := Hown1.out.lt i h.symm; omega))
        clear ho hf3 hf4 hat hne
        go_wp2_with fail
        go_roundw
        case rel => exact ⟨k + 1, by omega, by go_num, by rw [Hsn.out]; exact Ho.out, Hf4.out⟩
        case measure => simp [intOf]; omega
    · obtain rfl : k = n := by omega
      rw [List.take_of_length_le (by rw [← Hn.out]; exact Nat.le_refl _)] at hown
      have Hown := Lib.hid hown
      have Hf := Lib.hid hf
      clear hown hf
      go_wp2_with fail
      go_ret
      exact ⟨_, rfl, Hown.out, Hf.out⟩
end Go.Proofs.YtdamhohoeobfgaaDoor
