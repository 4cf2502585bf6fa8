/- The reference of layer 29: the spans of a request, and all others; are spans the same. -/
import Derived.Test.YtdamhohoeobfgaaDoorSampleRef
set_option linter.unusedVariables false
namespace Go.Proofs.YtdamhohoeobfgaaDoor
open Go.RowKit

theorem ofL_take {L : List Spn} {k : Nat} {x : Spn} (hk : L[k]? = some x) (r : Int) : ofL (L.take (k + 1)) r = if rq x = r then ofL (L.take k) r ++ [x] else ofL (L.take k) r := by
  rw [List.take_add_one, hk]
  exact ofL_snoc _ _ _
theorem othersL_snoc (L : List Spn) (s : Spn) (r : Int) : othersL (L ++ [s]) r = if rq s = r then othersL L r else othersL L r ++ [s] := by
  unfold othersL
  rw [List.filter_append]
  by_cases h : rq s = r <;> simp [h]
theorem othersL_take {L : List Spn} {k : Nat} {x : Spn} (hk : L[k]? = some x) (r : Int) : othersL (L.take (k + 1)) r = if rq x = r then othersL (L.take k) r else othersL (L.take k) r ++ [x] := by
  rw [List.take_add_one, hk]
  exact othersL_snoc _ _ _
def apartV (v1 v2 : Value) : Prop := ∀ i, v1.ownBlock = some i → v2.ownBlock ≠ some i
theorem apartV.symm {v1 v2 : Value} (h : apartV v1 v2) : apartV v2 v1 := fun i h1 h2 => h i h2 h1
theorem apart_new {v1 v2 v' : Value} {w : World} {l : List Spn} {base : Nat} (h : apartV v1 v2) (ho : Own spnE w base 39 v2 l) (hat : v'.ownBlock = v1.ownBlock ∨ ∃ g, v'.ownBlock = some g ∧ w.heap.size < g) : apartV v' v2 := by
  intro i h1 h2
  rcases hat with e | ⟨g, e, hg⟩
  · exact h i (by rw [← e]; exact h1) h2
  · rw [e] at h1; cases h1
    have := (ho.lt _ h2).2
    omega
set_option maxHeartbeats 1000000 in
theorem of_any (v : Value) (L : List Spn) (base : Nat) (r : Int) (w : World) (h : Own spnE w base 39 v L) (hL : L.length ≤ 100000) (hN : ∀ s ∈ L, NmS s) :
    Calls Tryd.prog 24 #[v, .int .i64 r] w fun e w' => ∃ v1 v2, e = .returned (.tuple #[v1, v2]) ∧ Own spnE w' w.heap.size 39 v1 (ofL L r) ∧ Own spnE w' w.heap.size 39 v2 (othersL L r) ∧ Frm noB w w' ∧ apartV v1 v2 := by
  obtain ⟨a, c, rfl, hl, hg⟩ := h.shape
  obtain ⟨n, hn⟩ : ∃ n, n = L.length := ⟨_, rfl⟩
  rw [← hn] at hl hg h hL ⊢
  have Hh := Lib.hid h
  have Hg := Lib.hid hg
  have Hn := Lib.hid hn
  have HN := Lib.hid hN
  clear h hg hn hN
  go_enter Tryd.func24, Tryd.ntmps24
  go_wp2_with fail
  go_loopw [6, 7, 8] (fun o p i wr => ∃ k : Nat, k ≤ n ∧ i = .int .i64 k ∧ Own spnE wr w.heap.size 39 o (ofL (L.take k) r) ∧ Own spnE wr w.heap.size 39 p (othersL (L.take k) r) ∧ Frm noB w wr ∧ apartV o p) (fun _ _ i _ => n - (intOf i).toNat)
  case atStart => exact ⟨0, by omega, rfl, Own.nil _ _ _ _, Own.nil _ _ _ _, Frm.refl _ _, fun i h => by simp [Value.ownBlock] at h⟩
  case round =>
    obtain ⟨k, hk, rfl, hown, hoth, hf, hap⟩ := hrel
    by_cases hlt : k < n
    · obtain ⟨x, hx⟩ := get_of_lt (l := L) (j := k) (by rw [← Hn.out]; exact hlt)
      obtain ⟨g, rfl, hg1, hg2⟩ := Hg.out (by omega)
      have hxs := HN.out x (List.mem_of_getElem? hx)
      obtain ⟨c0, _⟩ := spn_cells (Hh.out.keep hf) hx
      have hsn := ofL_take hx r
      have hst2 := othersL_take hx r
      have hsm : (ofL (L.take k) r).length ≤ 1000000 := Nat.le_trans (ofL_len _ _) (by rw [List.length_take, ← Hn.out]; omega)
      have hsm2 : (othersL (L.take k) r).length ≤ 1000000 := Nat.le_trans (othersL_len _ _) (by rw [List.length_take, ← Hn.out]; omega)
      by_cases hq : rq x = r
      · have hst : (rq x == r) = true := by simpa using hq
        rw [if_pos hq] at hsn hst2
        have Hown := Lib.hid hown
        have Hoth := Lib.hid hoth
        have Hf := Lib.hid hf
        have Hap := Lib.hid hap
        have Hsn := Lib.hid hsn
        have Hst2 := Lib.hid hst2
        have Hx := Lib.hid hx
        have Hq := Lib.hid hq
        have Hsm := Lib.hid hsm
        have Hsm2 := Lib.hid hsm2
        have Hxs := Lib.hid hxs
        clear hown hoth hf hap hsn hst2 hx hq hsm hsm2 hxs
        go_wp2_with fail
        refine (Hxs.out.call _).mono ?_
        rintro e w1 ⟨rfl, hf1⟩
        have hown1 := Hown.out.keep hf1
        have hoth1 := Hoth.out.keep hf1
        have hf2 := Hf.out.trans hf1
        have hrow := Hh.out.keep hf2
        obtain ⟨d0, d1, d2, d3, d4, d5⟩ := spn_cells hrow Hx.out
        have hz := hf2.size
        have hgw : g < w1.heap.size := by omega
        have Hown1 := Lib.hid hown1
        have Hoth1 := Lib.hid hoth1
        have Hf2 := Lib.hid hf2
        have Hrow := Lib.hid hrow
        clear hown1 hoth1 hf2 hrow
        clear hf1
        go_wp2_with (at_builtin; refine app_spn w1 (by rfl) _ _ (by rfl) w.heap.size _ (ofL (L.take k) r) (by rfl) Hown1.out x _ (by rfl) w1.heap.size rfl (by rfl) Hsm.out hz ?_)
        intro v' w2 ho hf3 hf4 hat hne
        have Ho := Lib.hid ho
        have Hp := Lib.hid (Hoth1.out.frm hf4 (fun i hi e => Hap.out i e.symm hi))
        have Hap2 := Lib.hid (apart_new Hap.out Hoth1.out (hat.imp id (fun ⟨g, h1, h2, _⟩ => ⟨g, h1, h2⟩)))
        have Hf4 := Lib.hid (Hf2.out.new hf4 (fun i hi h => by have := Hown1.out.lt i h.symm; omega))
        clear ho hf3 hf4 hat hne
        go_wp2_with fail
        go_roundw
        case rel => exact ⟨k + 1, by omega, by go_num, by rw [Hsn.out]; exact Ho.out, by rw [Hst2.out]; exact Hp.out, Hf4.out, Hap2.out⟩
        case measure => simp [intOf]; omega
      · have hst : (rq x == r) = false := by simpa using hq
        rw [if_neg hq] at hsn hst2
        have Hown := Lib.hid hown
        have Hoth := Lib.hid hoth
        have Hf := Lib.hid hf
        have Hap := Lib.hid hap
        have Hsn := Lib.hid hsn
        have Hst2 := Lib.hid hst2
        have Hx := Lib.hid hx
        have Hq := Lib.hid hq
        have Hsm := Lib.hid hsm
        have Hsm2 := Lib.hid hsm2
        have Hxs := Lib.hid hxs
        clear hown hoth hf hap hsn hst2 hx hq hsm hsm2 hxs
        go_wp2_with fail
        refine (Hxs.out.call _).mono ?_
        rintro e w1 ⟨rfl, hf1⟩
        have hown1 := Hown.out.keep hf1
        have hoth1 := Hoth.out.keep hf1
        have hf2 := Hf.out.trans hf1
        have hrow := Hh.out.keep hf2
        obtain ⟨d0, d1, d2, d3, d4, d5⟩ := spn_cells hrow Hx.out
        have hz := hf2.size
        have hgw : g < w1.heap.size := by omega
        have Hown1 := Lib.hid hown1
        have Hoth1 := Lib.hid hoth1
        have Hf2 := Lib.hid hf2
        have Hrow := Lib.hid hrow
        clear hown1 hoth1 hf2 hrow
        clear hf1
        go_wp2_with (at_builtin; refine app_spn w1 (by rfl) _ _ (by rfl) w.heap.size _ (othersL (L.take k) r) (by rfl) Hoth1.out x _ (by rfl) w1.heap.size rfl (by rfl) Hsm2.out hz ?_)
        intro v' w2 ho hf3 hf4 hat hne
        have Ho := Lib.hid ho
        have Hp := Lib.hid (Hown1.out.frm hf4 (fun i hi e => Hap.out i hi e.symm))
        have Hap2 := Lib.hid (apart_new Hap.out.symm Hown1.out (hat.imp id (fun ⟨g, h1, h2, _⟩ => ⟨g, h1, h2⟩))).symm
        have Hf4 := Lib.hid (Hf2.out.new hf4 (fun i hi h => by have := Hoth1.out.lt i h.symm; omega))
        clear ho hf3 hf4 hat hne
        go_wp2_with fail
        go_roundw
        case rel => exact ⟨k + 1, by omega, by go_num, by rw [Hsn.out]; exact Hp.out, by rw [Hst2.out]; exact Ho.out, Hf4.out, Hap2⟩
        case measure => simp [intOf]; omega
    · obtain rfl : k = n := by omega
      rw [List.take_of_length_le (by rw [← Hn.out]; exact Nat.le_refl _)] at hown hoth
      have Hown := Lib.hid hown
      have Hoth := Lib.hid hoth
      have Hf := Lib.hid hf
      have Hap := Lib.hid hap
      clear hown hoth hf hap
      go_wp2_with fail
      go_ret2
      exact ⟨_, _, rfl, Hown.out, Hoth.out, Hf.out, Hap.out⟩

set_option maxHeartbeats 1000000 in
theorem rsame_any (v v' : Value) (L : List Spn) (base base' : Nat) (w : World) (h : Own spnE w base 39 v L) (h' : Own spnE w base' 39 v' L) :
    Calls Tryd.prog 16 #[v, v'] w fun e w' => e = .returned (.bool true) ∧ Frm noB w w' := by
  obtain ⟨a, c, rfl, hl, hg⟩ := h.shape
  obtain ⟨a', c', rfl, hl', hg'⟩ := h'.shape
  obtain ⟨n, hn⟩ : ∃ n, n = L.length := ⟨_, rfl⟩
  rw [← hn] at hl hg h h' hg' ⊢
  have Hh := Lib.hid h
  have Hg := Lib.hid hg
  have Hn := Lib.hid hn
  have H' := Lib.hid h'
  have Hg' := Lib.hid hg'
  clear h hg hn h' hg'
  go_enter Tryd.func16, Tryd.ntmps16
  go_wp2_with fail
  go_loopw [5] (fun i wr => ∃ k : Nat, k ≤ n ∧ i = .int .i64 k ∧ Frm noB w wr) (fun i _ => n - (intOf i).toNat)
  case atStart => exact ⟨0, by omega, rfl, Frm.refl _ _⟩
  case round =>
    obtain ⟨k, hk, rfl, hf⟩ := hrel
    by_cases hlt : k < n
    · obtain ⟨x, hx⟩ := get_of_lt (l := L) (j := k) (by rw [← Hn.out]; exact hlt)
      obtain ⟨g, rfl, hg1, hg2⟩ := Hg.out (by omega)
      obtain ⟨g', rfl, hg1', hg2'⟩ := Hg'.out (by omega)
      obtain ⟨c0, c1, c2, c3, c4, c5⟩ := spn_cells (Hh.out.keep hf) hx
      obtain ⟨d0, d1, d2, d3, d4, d5⟩ := spn_cells (H'.out.keep hf) hx
      have hz := hf.size
      have hgw : g < wr.heap.size := by omega
      have hgw' : g' < wr.heap.size := by omega
      have hst : (x.name.toList == x.name.toList) = true := by simp
      have Hf := Lib.hid hf
      have Hx := Lib.hid hx
      clear hf hx
      go_wp2_with fail
      go_quiet (fail)
      go_wp2_with fail
      go_roundw
      case rel => exact ⟨k + 1, by omega, by go_num, Frm.drewN Hf.out _⟩
      case measure => simp [intOf]; omega
    · obtain rfl : k = n := by omega
      have Hf := Lib.hid hf
      clear hf
      go_wp2_with fail
      go_ret
      exact ⟨rfl, Hf.out⟩
set_option maxHeartbeats 1000000 in
theorem rsame_nil (v : Value) (L : List Spn) (base : Nat) (w : World) (h : Own spnE w base 39 v L) :
    Calls Tryd.prog 16 #[.slice none 0 0, v] w fun e w' => e = .returned (.bool (decide (L.length = 0))) ∧ Frm noB w w' := by
  obtain ⟨a, c, rfl, hl, hg⟩ := h.shape
  obtain ⟨n, hn⟩ : ∃ n, n = L.length := ⟨_, rfl⟩
  rw [← hn] at hl hg h ⊢
  have Hh := Lib.hid h
  have Hg := Lib.hid hg
  have Hn := Lib.hid hn
  clear h hg hn
  go_enter Tryd.func16, Tryd.ntmps16
  by_cases h0 : n = 0
  · subst h0
    go_wp2_with fail
    refine wp_loop_once ?_
    go_wp2_with fail
    go_ret
    exact ⟨rfl, Frm.refl _ _⟩
  · have hb : ((0 : Int) != (n : Int)) = true := by rw [bne_iff_ne]; omega
    have hd : decide (n = 0) = false := by simpa using h0
    have Hd := Lib.hid hd
    clear hd
    go_wp2_with fail
    go_ret
    exact ⟨by rw [Hd.out]; rfl, Frm.refl _ _⟩
end Go.Proofs.YtdamhohoeobfgaaDoor
