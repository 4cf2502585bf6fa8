/- Places in the row of requests: the first one that stands, those that do not taken out. -/
import Derived.Test.YtdamhohoeobfgaaDoorApp
import Derived.Test.YtdamhohoeobfgaaDoorSampleP
import Derived.Test.YtdamhohoeobfgaaDoorMapV
import Derived.Test.YtdamhohoeobfgaaDoorTakeD
import Derived.Deep.DeepCutAuto
import Derived.Deep.RegionHeld3
set_option linter.unusedVariables false
set_option linter.unusedSimpArgs false
namespace Go.Proofs.YtdamhohoeobfgaaDoor
open Go.RowKit

def plL (x : Int × Nat) : List Value := [.int .i64 x.1, .int .i64 (x.2 : Int)]
def plE : Enc (Int × Nat) := ⟨plL, 2, fun _ => rfl, fun s u h => by simp [plL] at h; rcases h with rfl | rfl <;> rfl⟩
theorem info_pl : (Tryd.prog.info? 66).map (fun i => (i.zero, i.size, i.bytes)) = some (some (.agg #[.int .i64 0, .int .i64 0]), 2, 16) := by kernel_rfl
theorem pl_rd {w : World} {a : Option Addr} {n : Nat} {l : List (Int × Nat)} (h : Rd plE w a n l) {j : Nat} {x : Int × Nat} (hj : l[j]? = some x) :
    ∃ b off, a = some ⟨b, off, none⟩ ∧ b < w.heap.size ∧ w.cell? ⟨b, off + j * 2, none⟩ = some (.int .i64 x.1) ∧ w.cell? ⟨b, off + j * 2 + 1, none⟩ = some (.int .i64 (x.2 : Int)) := by
  obtain ⟨b, off, ha, hb, hc⟩ := h.2.2 j x hj
  exact ⟨b, off, ha, hb, hc 0 _ rfl, hc 1 _ rfl⟩

/-- The first place of which p is true, or -1. -/
def idxL (p : Int × Nat → Bool) (l : List (Int × Nat)) : Int := match l.findIdx? p with
  | some k => (k : Int)
  | none => -1
theorem idxL_hit {p : Int × Nat → Bool} {l : List (Int × Nat)} {k : Nat} {x : Int × Nat} (hk : l[k]? = some x) (hx : p x = true) (hb : ∀ (j : Nat) (y : Int × Nat), j < k → l[j]? = some y → p y = false) : idxL p l = (k : Int) := by
  unfold idxL
  have hlt := get_lt hk
  have : l.findIdx? p = some k := by
    rw [List.findIdx?_eq_some_iff_getElem]
    rw [List.getElem?_eq_getElem hlt] at hk
    simp at hk
    refine ⟨hlt, by rw [hk]; exact hx, fun j hj => ?_⟩
    have := hb j l[j] hj (List.getElem?_eq_getElem (by omega))
    simp [this]
  rw [this]
theorem idxL_miss {p : Int × Nat → Bool} {l : List (Int × Nat)} (hb : ∀ (j : Nat) (y : Int × Nat), l[j]? = some y → p y = false) : idxL p l = -1 := by
  unfold idxL
  have : l.findIdx? p = none := by
    rw [List.findIdx?_eq_none_iff]
    intro x hx
    obtain ⟨j, hj, he⟩ := List.mem_iff_getElem.1 hx
    exact hb j x (by rw [List.getElem?_eq_getElem hj, he])
  rw [this]
set_option maxHeartbeats 1000000 in
theorem idx_st (cb : Nat) (p : Int × Nat → Bool) (a : Option Addr) (n c : Nat) (l : List (Int × Nat)) (w : World) (h : Rd plE w a n l)
    (hc : ∀ W x, x ∈ l → Frm noB w W → Calls Tryd.prog 32 #[.pointer (some ⟨cb, 0, none⟩), .agg #[.int .i64 x.1, .int .i64 (x.2 : Int)]] W fun e w' => e = .returned (.bool (p x)) ∧ Frm noB W w') :
    Calls Tryd.prog 38 #[.slice a n c, (.func (.func 32) #[.pointer (some ⟨cb, 0, none⟩)] #[])] w fun e w' => e = .returned (.int .i64 (idxL p l)) ∧ Frm noB w w' := by
  have hnl := h.1
  have hnm := h.2.1
  have Hh := Lib.hid h
  have Hc := Lib.hid hc
  have Hnl := Lib.hid hnl
  clear h hc hnl
  go_enter Tryd.func38, Tryd.ntmps38
  go_wp2_with fail
  go_loopw [8] (fun i wr => ∃ k : Nat, k ≤ n ∧ i = .int .i64 k ∧ Frm noB w wr ∧ Hid (∀ (j : Nat) (y : Int × Nat), j < k → l[j]? = some y → p y = false)) (fun i _ => n - (intOf i).toNat)
  case atStart => exact ⟨0, Nat.zero_le _, rfl, Frm.refl _ _, Lib.hid (fun j y h => absurd h (Nat.not_lt_zero j))⟩
  case round =>
    obtain ⟨k, hk, rfl, hf, hno⟩ := hrel
    by_cases hlt : k < n
    · obtain ⟨x, hx⟩ := get_of_lt (l := l) (j := k) (by rw [Hnl.out]; exact hlt)
      obtain ⟨b, off, ha, hb, c0, c1⟩ := pl_rd (Hh.out.keep hf) hx
      subst ha
      have hltz : (k : Int) < (n : Int) := by omega
      have hcall := Hc.out wr x (List.mem_of_getElem? hx) hf
      obtain ⟨x1, x2⟩ := x
      dsimp only at c0 c1 hcall
      cases hq : p (x1, x2) with
      | true =>
        rw [hq] at hcall
        have Hx := Lib.hid hx
        have Hf := Lib.hid hf
        have Hq := Lib.hid hq
        have Hcall := Lib.hid hcall
        clear hx hf hq hcall
        go_wp2_with fail
        refine Hcall.out.mono ?_
        rintro e w1 ⟨rfl, hg⟩
        have Hg := Lib.hid hg
        clear hg
        go_wp2_with fail
        go_ret
        exact ⟨by rw [idxL_hit Hx.out Hq.out hno.out]; rfl, Hf.out.trans Hg.out⟩
      | false =>
        rw [hq] at hcall
        have Hx := Lib.hid hx
        have Hf := Lib.hid hf
        have Hq := Lib.hid hq
        have Hcall := Lib.hid hcall
        clear hx hf hq hcall
        go_wp2_with fail
        refine Hcall.out.mono ?_
        rintro e w1 ⟨rfl, hg⟩
        have Hg := Lib.hid hg
        clear hg
        go_wp2_with fail
        go_roundw
        case rel => exact ⟨k + 1, by omega, by go_num, Hf.out.trans Hg.out, Lib.hid (fun j y hj hy => by
          by_cases e : j = k
          · subst e
            have := Hx.out
            rw [this] at hy
            cases hy
            exact Hq.out
          · exact hno.out j y (by omega) hy)⟩
        case measure => simp [intOf]; omega
    · have hltz : ¬ (k : Int) < (n : Int) := by omega
      have Hf := Lib.hid hf
      clear hf
      go_wp2_with fail
      go_ret
      exact ⟨by rw [idxL_miss (fun j y hy => hno.out j y (by have := get_lt hy; rw [Hnl.out] at this; omega) hy)]; rfl, Hf.out⟩
set_option maxHeartbeats 1000000 in
theorem idx_cl (cb : Nat) (p : Int × Nat → Bool) (a : Option Addr) (n c : Nat) (l : List (Int × Nat)) (w : World) (h : Rd plE w a n l)
    (hc : ∀ W x, x ∈ l → Frm noB w W → Calls Tryd.prog 31 #[.agg #[.int .i64 x.1, .int .i64 (x.2 : Int)], .pointer (some ⟨cb, 0, none⟩)] W fun e w' => e = .returned (.bool (p x)) ∧ Frm noB W w') :
    Calls Tryd.prog 38 #[.slice a n c, (.func (.func 31) #[] #[.pointer (some ⟨cb, 0, none⟩)])] w fun e w' => e = .returned (.int .i64 (idxL p l)) ∧ Frm noB w w' := by
  have hnl := h.1
  have hnm := h.2.1
  have Hh := Lib.hid h
  have Hc := Lib.hid hc
  have Hnl := Lib.hid hnl
  clear h hc hnl
  go_enter Tryd.func38, Tryd.ntmps38
  go_wp2_with fail
  go_loopw [8] (fun i wr => ∃ k : Nat, k ≤ n ∧ i = .int .i64 k ∧ Frm noB w wr ∧ Hid (∀ (j : Nat) (y : Int × Nat), j < k → l[j]? = some y → p y = false)) (fun i _ => n - (intOf i).toNat)
  case atStart => exact ⟨0, Nat.zero_le _, rfl, Frm.refl _ _, Lib.hid (fun j y h => absurd h (Nat.not_lt_zero j))⟩
  case round =>
    obtain ⟨k, hk, rfl, hf, hno⟩ := hrel
    by_cases hlt : k < n
    · obtain ⟨x, hx⟩ := get_of_lt (l := l) (j := k) (by rw [Hnl.out]; exact hlt)
      obtain ⟨b, off, ha, hb, c0, c1⟩ := pl_rd (Hh.out.keep hf) hx
      subst ha
      have hltz : (k : Int) < (n : Int) := by omega
      have hcall := Hc.out wr x (List.mem_of_getElem? hx) hf
      obtain ⟨x1, x2⟩ := x
      dsimp only at c0 c1 hcall
      cases hq : p (x1, x2) with
      | true =>
        rw [hq] at hcall
        have Hx := Lib.hid hx
        have Hf := Lib.hid hf
        have Hq := Lib.hid hq
        have Hcall := Lib.hid hcall
        clear hx hf hq hcall
        go_wp2_with fail
        refine Hcall.out.mono ?_
        rintro e w1 ⟨rfl, hg⟩
        have Hg := Lib.hid hg
        clear hg
        go_wp2_with fail
        go_ret
        exact ⟨by rw [idxL_hit Hx.out Hq.out hno.out]; rfl, Hf.out.trans Hg.out⟩
      | false =>
        rw [hq] at hcall
        have Hx := Lib.hid hx
        have Hf := Lib.hid hf
        have Hq := Lib.hid hq
        have Hcall := Lib.hid hcall
        clear hx hf hq hcall
        go_wp2_with fail
        refine Hcall.out.mono ?_
        rintro e w1 ⟨rfl, hg⟩
        have Hg := Lib.hid hg
        clear hg
        go_wp2_with fail
        go_roundw
        case rel => exact ⟨k + 1, by omega, by go_num, Hf.out.trans Hg.out, Lib.hid (fun j y hj hy => by
          by_cases e : j = k
          · subst e
            have := Hx.out
            rw [this] at hy
            cases hy
            exact Hq.out
          · exact hno.out j y (by omega) hy)⟩
        case measure => simp [intOf]; omega
    · have hltz : ¬ (k : Int) < (n : Int) := by omega
      have Hf := Lib.hid hf
      clear hf
      go_wp2_with fail
      go_ret
      exact ⟨by rw [idxL_miss (fun j y hy => hno.out j y (by have := get_lt hy; rw [Hnl.out] at this; omega) hy)]; rfl, Hf.out⟩
end Go.Proofs.YtdamhohoeobfgaaDoor
