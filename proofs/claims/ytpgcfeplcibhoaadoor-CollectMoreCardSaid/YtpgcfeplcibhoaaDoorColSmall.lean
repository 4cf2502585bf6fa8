/- at, same and like of the statements. -/
import Derived.Test.YtpgcfeplcibhoaaDoorColPrP
import Derived.Deep.RegionLaw
import Derived.Deep.RegionHeld3
import Derived.Deep.DeepCutAuto
import Derived.StillTailTactics
import Derived.RegionTactic
set_option linter.unusedVariables false
set_option linter.unusedSimpArgs false
namespace Go.Proofs.YtpgcfeplcibhoaaDoor
open Go.RowKit

/-- The place of a name in a row; below 0: none. -/
def atL (l : List Nod) (s : ByteArray) : Int := match l.findIdx? (fun x => decide (x.name = s)) with
  | some i => (i : Int)
  | none => -1
theorem atL_hit {l : List Nod} {s : ByteArray} {k : Nat} {x : Nod} (hx : l[k]? = some x) (h : x.name = s) (hn : ∀ q y, q < k → l[q]? = some y → ¬ y.name = s) : atL l s = (k : Int) := by
  unfold atL
  have hk := get_lt hx
  have : l.findIdx? (fun x => decide (x.name = s)) = some k := by
    rw [List.findIdx?_eq_some_iff_getElem]
    refine ⟨hk, ?_, fun j hj => ?_⟩
    · rw [List.getElem?_eq_getElem hk] at hx
      cases hx
      exact decide_eq_true h
    · have := hn j _ hj (List.getElem?_eq_getElem (by omega))
      simpa using this
  rw [this]
theorem atL_miss {l : List Nod} {s : ByteArray} (hn : ∀ y ∈ l, ¬ y.name = s) : atL l s = -1 := by
  unfold atL
  have : l.findIdx? (fun x => decide (x.name = s)) = none := by
    rw [List.findIdx?_eq_none_iff]
    intro x hx
    exact decide_eq_false (hn x hx)
  rw [this]
set_option maxRecDepth 100000 in
set_option maxHeartbeats 1000000 in
theorem at_any (base : Nat) (v : Value) (l : List Nod) (s : ByteArray) (w : World) (h : Own nodE w base 49 v l) (hl : l.length ≤ 100000) :
    Calls Tryd.prog 25 #[v, .string s] w fun e w' => e = .returned (.int .i64 (atL l s)) ∧ w = w' := by
  obtain ⟨n, hn⟩ : ∃ n, n = l.length := ⟨_, rfl⟩
  obtain ⟨a, c, hv, _, hg⟩ := h.shape
  rw [← hn] at hv hg hl
  subst hv
  have Hn := Lib.hid hn
  have Hg := Lib.hid hg
  have Hh := Lib.hid h
  clear hn hg h
  go_enter Tryd.func25, Tryd.ntmps25
  go_wp2_with fail
  go_loop [5] (fun i => ∃ k : Nat, k ≤ n ∧ i = .int .i64 k ∧ ∀ q y, q < k → l[q]? = some y → ¬ y.name = s) (fun i => n - (intOf i).toNat)
  case atStart => exact ⟨0, by omega, rfl, by omega⟩
  case round =>
    obtain ⟨k, hk, rfl, hno⟩ := hrel
    by_cases hlt : k < n
    · obtain ⟨x, hx⟩ := get_of_lt (l := l) (j := k) (by rw [← Hn.out]; exact hlt)
      obtain ⟨g, rfl, hg1, hg2⟩ := Hg.out (by omega)
      have c0 := (nod_cells Hh.out hx).1
      by_cases hq : x.name = s
      · have hst := str_yes hq
        have hat := atL_hit hx hq hno
        have Hno := Lib.hid hno
        have Hx := Lib.hid hx
        have Hq := Lib.hid hq
        have Hat := Lib.hid hat
        clear hno hx hq hat
        go_wp2_with fail
        go_ret
        exact ⟨by rw [Hat.out]; rfl, rfl⟩
      · have hst := str_ne hq
        have hno2 : ∀ q y, q < k + 1 → l[q]? = some y → ¬ y.name = s := fun q y hqk hy => by
          rcases Nat.lt_or_ge q k with h | h
          · exact hno q y h hy
          · obtain rfl : q = k := by omega
            rw [hx] at hy; cases hy; exact hq
        have Hno := Lib.hid hno
        have Hx := Lib.hid hx
        have Hq := Lib.hid hq
        have Hno2 := Lib.hid hno2
        clear hno hx hq hno2
        go_wp2_with fail
        go_round
        case rel => exact ⟨k + 1, by omega, by go_num, Hno2.out⟩
        case measure => simp [intOf]; omega
    · obtain rfl : k = n := by omega
      have hat : atL l s = -1 := atL_miss (fun y hy => by
        obtain ⟨q, hq⟩ := List.getElem?_of_mem hy
        exact hno q y (by rw [Hn.out]; exact get_lt hq) hq)
      have Hno := Lib.hid hno
      have Hat := Lib.hid hat
      clear hno hat
      go_wp2_with fail
      go_ret
      exact ⟨by rw [Hat.out]; rfl, rfl⟩
set_option maxRecDepth 100000 in
set_option maxHeartbeats 2000000 in
theorem same_eq (base base' : Nat) (v v' : Value) (l : List Nod) (w : World) (h : Own nodE w base 49 v l) (h' : Own nodE w base' 49 v' l) (hl : l.length ≤ 100000) :
    Calls Tryd.prog 23 #[v, v'] w fun e w' => e = .returned (.bool true) ∧ Frm noB w w' := by
  obtain ⟨n, hn⟩ : ∃ n, n = l.length := ⟨_, rfl⟩
  obtain ⟨a, c, hv, _, hg⟩ := h.shape
  obtain ⟨a', c', hv', _, hg'⟩ := h'.shape
  rw [← hn] at hv hg hl hv' hg'
  subst hv
  subst hv'
  have H' := Lib.hid h'
  have Hg' := Lib.hid hg'
  clear h' hg'
  have Hn := Lib.hid hn
  have Hg := Lib.hid hg
  have Hh := Lib.hid h
  clear hn hg h
  go_enter Tryd.func23, Tryd.ntmps23
  go_wp2_with fail
  go_loopw [5] (fun i wr => ∃ k : Nat, k ≤ n ∧ i = .int .i64 k ∧ Frm noB w wr) (fun i _ => n - (intOf i).toNat)
  case atStart => exact ⟨0, by omega, rfl, Frm.refl _ _⟩
  case round =>
    obtain ⟨k, hk, rfl, hf⟩ := hrel
    by_cases hlt : k < n
    · obtain ⟨x, hx⟩ := get_of_lt (l := l) (j := k) (by rw [← Hn.out]; exact hlt)
      obtain ⟨g, rfl, hg1, hg2⟩ := Hg.out (by omega)
      obtain ⟨g', rfl, hg1', hg2'⟩ := Hg'.out (by omega)
      obtain ⟨c0, c1, c2, c3, c4, c5, c6, c7⟩ := nod_cells (Hh.out.keep hf) hx
      obtain ⟨d0, d1, d2, d3, d4, d5, d6, d7⟩ := nod_cells (H'.out.keep hf) hx
      have hgw : g < wr.heap.size := Nat.lt_of_lt_of_le hg2 hf.size
      have hgw' : g' < wr.heap.size := Nat.lt_of_lt_of_le hg2' hf.size
      have Hf := Lib.hid hf
      have Hx := Lib.hid hx
      clear hf hx
      go_wp2_with fail
      go_quiet (fail)
      go_wp2_with fail
      go_roundw
      case rel => exact ⟨k + 1, by omega, by go_num, Frm.drewN Hf.out _⟩
      case measure => simp [intOf]; omega
    · obtain rfl : k = n := by omega
      have Hf := Lib.hid hf
      clear hf
      go_wp2_with fail
      go_ret
      exact ⟨rfl, Hf.out⟩
set_option maxRecDepth 100000 in
set_option maxHeartbeats 2000000 in
theorem like_eq (base base' : Nat) (v v' : Value) (l : List Nod) (w : World) (h : Own nodE w base 49 v l) (h' : Own nodE w base' 37 v' l) (hl : l.length ≤ 100000) :
    Calls Tryd.prog 16 #[v, v'] w fun e w' => e = .returned (.bool true) ∧ Frm noB w w' := by
  obtain ⟨n, hn⟩ : ∃ n, n = l.length := ⟨_, rfl⟩
  obtain ⟨a, c, hv, _, hg⟩ := h.shape
  obtain ⟨a', c', hv', _, hg'⟩ := h'.shape
  rw [← hn] at hv hg hl hv' hg'
  subst hv
  subst hv'
  have H' := Lib.hid h'
  have Hg' := Lib.hid hg'
  clear h' hg'
  have Hn := Lib.hid hn
  have Hg := Lib.hid hg
  have Hh := Lib.hid h
  clear hn hg h
  go_enter Tryd.func16, Tryd.ntmps16
  go_wp2_with fail
  go_loopw [5] (fun i wr => ∃ k : Nat, k ≤ n ∧ i = .int .i64 k ∧ Frm noB w wr) (fun i _ => n - (intOf i).toNat)
  case atStart => exact ⟨0, by omega, rfl, Frm.refl _ _⟩
  case round =>
    obtain ⟨k, hk, rfl, hf⟩ := hrel
    by_cases hlt : k < n
    · obtain ⟨x, hx⟩ := get_of_lt (l := l) (j := k) (by rw [← Hn.out]; exact hlt)
      obtain ⟨g, rfl, hg1, hg2⟩ := Hg.out (by omega)
      obtain ⟨g', rfl, hg1', hg2'⟩ := Hg'.out (by omega)
      obtain ⟨c0, c1, c2, c3, c4, c5, c6, c7⟩ := nod_cells (Hh.out.keep hf) hx
      obtain ⟨d0, d1, d2, d3, d4, d5, d6, d7⟩ := nod_cells (H'.out.keep hf) hx
      have hgw : g < wr.heap.size := Nat.lt_of_lt_of_le hg2 hf.size
      have hgw' : g' < wr.heap.size := Nat.lt_of_lt_of_le hg2' hf.size
      have hst : (x.name.toList == x.name.toList) = true := str_yes rfl
      have hst2 : (x.name.toList != x.name.toList) = false := by rw [bne, hst]; rfl
      have Hf := Lib.hid hf
      have Hx := Lib.hid hx
      clear hf hx
      go_wp2_with fail
      go_quiet (fail)
      go_wp2_with fail
      go_roundw
      case rel => exact ⟨k + 1, by omega, by go_num, Frm.drewN Hf.out _⟩
      case measure => simp [intOf]; omega
    · obtain rfl : k = n := by omega
      have Hf := Lib.hid hf
      clear hf
      go_wp2_with fail
      go_ret
      exact ⟨rfl, Hf.out⟩
end Go.Proofs.YtpgcfeplcibhoaaDoor
