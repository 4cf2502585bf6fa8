/- Same of heads, of the reference; SameRow. -/
import Derived.Test.YtbeilgkogbcjjaaDoorHeadOps
set_option linter.unusedVariables false
namespace Go.Proofs.YtbeilgkogbcjjaaDoor
open Go.RowKit

def goodIn (b : List Hd) (h : Hd) : Bool := decide (getL b h.name = some h.val)
def sameL (a b : List Hd) : Bool := decide (a.length = b.length) && a.all (goodIn b)
theorem sameL_len {a b : List Hd} (h : ¬ a.length = b.length) : sameL a b = false := by unfold sameL; rw [decide_eq_false h]; rfl
theorem sameL_bad {a b : List Hd} {x : Hd} (hx : x ∈ a) (h : goodIn b x = false) : sameL a b = false := by
  unfold sameL
  rw [show a.all (goodIn b) = false from List.all_eq_false.2 ⟨x, hx, by rw [h]; simp⟩, Bool.and_false]
theorem sameL_yes {a b : List Hd} (hl : a.length = b.length) (h : (a.take a.length).all (goodIn b) = true) : sameL a b = true := by
  unfold sameL
  rw [List.take_length] at h
  rw [h, decide_eq_true hl]; rfl
theorem all_snoc {f : Hd → Bool} {l : List Hd} {k : Nat} {x : Hd} (hx : l[k]? = some x) (h : (l.take k).all f = true) (hf : f x = true) : (l.take (k + 1)).all f = true := by
  rw [List.take_add_one, hx, List.all_append, h]; simpa using hf
theorem goodIn_cases (b : List Hd) (x : Hd) : (getL b x.name = none ∧ goodIn b x = false) ∨ ∃ v, getL b x.name = some v ∧ ((v = x.val ∧ goodIn b x = true) ∨ (¬ v = x.val ∧ goodIn b x = false)) := by
  cases h : getL b x.name with
  | none => exact .inl ⟨rfl, by unfold goodIn; rw [h]; rfl⟩
  | some v =>
    refine .inr ⟨v, rfl, ?_⟩
    by_cases e : v = x.val
    · exact .inl ⟨e, by unfold goodIn; rw [h]; exact decide_eq_true (by rw [e])⟩
    · exact .inr ⟨e, by unfold goodIn; rw [h]; exact decide_eq_false (by simpa using e)⟩
theorem str_neq {x s : ByteArray} (h : ¬ x = s) : (x.toList != s.toList) = true := by
  unfold bne; rw [str_ne h]; rfl
theorem str_eq {x s : ByteArray} (h : x = s) : (x.toList != s.toList) = false := by
  unfold bne; rw [str_yes h]; rfl

set_option maxHeartbeats 2000000 in
theorem hsame_any (a : Option Addr) (n c : Nat) (l : List Hd) (a2 : Option Addr) (m c2 : Nat) (b : List Hd) (w : World) (h : Rd hdE w a n l) (h2 : Rd hdE w a2 m b) :
    Calls Tryd.prog 22 #[.slice a n c, .slice a2 m c2] w fun e w' => e = .returned (.bool (sameL l b)) ∧ Frm noB w w' := by
  have hl := h.1
  have hl2 := h2.1
  have hn := h.2.1
  have hm := h2.2.1
  by_cases hnm : n = m
  · subst hnm
    have hnm2 : ((n : Int) != (n : Int)) = false := by simp
    have Hh := Lib.hid h
    have Hl := Lib.hid hl
    have H2 := Lib.hid h2
    have Hl2 := Lib.hid hl2
    clear h hl h2 hl2
    go_enter Tryd.func22, Tryd.ntmps22
    go_wp2_with fail
    go_loopw [4, 16] (fun r i wr => ∃ k : Nat, k ≤ n ∧ r = .bool false ∧ i = .int .i64 k ∧ (l.take k).all (goodIn b) = true ∧ Frm noB w wr) (fun _ i _ => n - (intOf i).toNat)
    case atStart => exact ⟨0, by omega, rfl, rfl, rfl, Frm.refl _ _⟩
    case round =>
      obtain ⟨k, hk, rfl, rfl, hal, hf⟩ := hrel
      by_cases hlt : k < n
      · obtain ⟨x, hx⟩ := get_of_lt (l := l) (j := k) (by rw [Hl.out]; exact hlt)
        have hxl := List.mem_of_getElem? hx
        obtain ⟨b1, off, rfl, hb, c0, c1⟩ := hd_rd (Hh.out.keep hf) hx
        have fa := (Frm.refl noB wr).alloc (.cells #[.string x.name, .string x.val] 50)
        have hbx := Blk.made wr #[.string x.name, .string x.val] 50
        have hrd2 := (H2.out.keep hf).keep fa
        have hfa := hf.trans fa
        have hget := fun w h => get_any a2 n c2 b x.name w h
        rcases goodIn_cases b x with ⟨e1, e2⟩ | ⟨v, e1, ⟨e2, e3⟩ | ⟨e2, e3⟩⟩
        · have hr := sameL_bad hxl e2
          unfold getV at hget
          rw [e1] at hget
          simp only [Option.getD_none, Option.isSome_none] at hget
          have Hal := Lib.hid hal
          have Hf := Lib.hid hf
          have Hx := Lib.hid hx
          have Hxl := Lib.hid hxl
          have Hfa := Lib.hid fa
          have Hbx := Lib.hid hbx
          have Hrd2 := Lib.hid hrd2
          have Hfa := Lib.hid hfa
          have Hget := Lib.hid hget
          have He1 := Lib.hid e1
          have He2 := Lib.hid e2
          have Hr := Lib.hid hr
          clear hal hf hx hxl fa hbx hrd2 hfa hget e1 e2 hr
          go_wp2_with fail
          refine (Hget.out _ Hrd2.out).mono ?_
          rintro e w1 ⟨rfl, hf1⟩
          have hf2 := Hfa.out.trans hf1
          have Hf2 := Lib.hid hf2
          clear hf2
          clear hf1
          go_wp2_with fail
          go_ret
          exact ⟨ret_bool Hr.out.symm, Hf2.out⟩
        · have hnx := all_snoc hx hal e3
          have hst := str_yes e2
          unfold getV at hget
          rw [e1] at hget
          simp only [Option.getD_some, Option.isSome_some] at hget
          have Hal := Lib.hid hal
          have Hf := Lib.hid hf
          have Hx := Lib.hid hx
          have Hxl := Lib.hid hxl
          have Hfa := Lib.hid fa
          have Hbx := Lib.hid hbx
          have Hrd2 := Lib.hid hrd2
          have Hfa := Lib.hid hfa
          have Hget := Lib.hid hget
          have He1 := Lib.hid e1
          have He2 := Lib.hid e2
          have He3 := Lib.hid e3
          have Hnx := Lib.hid hnx
          clear hal hf hx hxl fa hbx hrd2 hfa hget e1 e2 e3 hnx
          go_wp2_with fail
          refine (Hget.out _ Hrd2.out).mono ?_
          rintro e w1 ⟨rfl, hf1⟩
          have hf2 := Hfa.out.trans hf1
          have hbx2 := Hbx.out.frm hf1 (fun h => h)
          have b0 := (hbx2.cell 0).trans (show _ = some (Value.string x.name) from rfl)
          have b1 := (hbx2.cell 1).trans (show _ = some (Value.string x.val) from rfl)
          have bl := hbx2.lt
          have Hf2 := Lib.hid hf2
          have Hbx2 := Lib.hid hbx2
          clear hf2 hbx2
          clear hf1
          go_wp2_with fail
          go_roundw
          case rel => exact ⟨k + 1, by omega, rfl, by go_num, Hnx.out, Hf2.out⟩
          case measure => simp [intOf]; omega
        · have hr := sameL_bad hxl e3
          have hst := str_ne e2
          unfold getV at hget
          rw [e1] at hget
          simp only [Option.getD_some, Option.isSome_some] at hget
          have Hal := Lib.hid hal
          have Hf := Lib.hid hf
          have Hx := Lib.hid hx
          have Hxl := Lib.hid hxl
          have Hfa := Lib.hid fa
          have Hbx := Lib.hid hbx
          have Hrd2 := Lib.hid hrd2
          have Hfa := Lib.hid hfa
          have Hget := Lib.hid hget
          have He1 := Lib.hid e1
          have He2 := Lib.hid e2
          have He3 := Lib.hid e3
          have Hr := Lib.hid hr
          clear hal hf hx hxl fa hbx hrd2 hfa hget e1 e2 e3 hr
          go_wp2_with fail
          refine (Hget.out _ Hrd2.out).mono ?_
          rintro e w1 ⟨rfl, hf1⟩
          have hf2 := Hfa.out.trans hf1
          have hbx2 := Hbx.out.frm hf1 (fun h => h)
          have b0 := (hbx2.cell 0).trans (show _ = some (Value.string x.name) from rfl)
          have b1 := (hbx2.cell 1).trans (show _ = some (Value.string x.val) from rfl)
          have bl := hbx2.lt
          have Hf2 := Lib.hid hf2
          have Hbx2 := Lib.hid hbx2
          clear hf2 hbx2
          clear hf1
          go_wp2_with fail
          go_ret
          exact ⟨ret_bool Hr.out.symm, Hf2.out⟩
      · obtain rfl : k = n := by omega
        have hr : sameL l b = true := sameL_yes (by rw [Hl.out, Hl2.out]) (by rw [Hl.out]; exact hal)
        have Hal := Lib.hid hal
        have Hf := Lib.hid hf
        have Hr := Lib.hid hr
        clear hal hf hr
        go_wp2_with fail
        go_ret
        exact ⟨ret_bool Hr.out.symm, Hf.out⟩
  · have hr : sameL l b = false := sameL_len (by rw [hl, hl2]; exact hnm)
    have hnm2 : ((n : Int) != (m : Int)) = true := by simp; omega
    have Hh := Lib.hid h
    have Hl := Lib.hid hl
    have H2 := Lib.hid h2
    have Hl2 := Lib.hid hl2
    have Hr := Lib.hid hr
    clear h hl h2 hl2 hr
    go_enter Tryd.func22, Tryd.ntmps22
    go_wp2_with fail
    go_ret
    exact ⟨ret_bool Hr.out.symm, Frm.refl _ _⟩

def eqH (a b : Hd) : Bool := decide (a.name = b.name ∧ a.val = b.val)
theorem eqH_iff {a b : Hd} : eqH a b = true ↔ a = b := by
  obtain ⟨a1, a2⟩ := a
  obtain ⟨b1, b2⟩ := b
  simp [eqH]
def rowB (a b : List Hd) : Bool := decide (a.length = b.length) && (List.range a.length).all fun j => match a[j]?, b[j]? with
  | some x, some y => eqH x y
  | _, _ => true
theorem rowB_iff (a b : List Hd) : rowB a b = true ↔ a = b := by
  unfold rowB
  rw [Bool.and_eq_true, decide_eq_true_eq, List.all_eq_true]
  constructor
  · rintro ⟨hl, h⟩
    apply List.ext_getElem?
    intro j
    rcases Nat.lt_or_ge j a.length with hj | hj
    · obtain ⟨x, hx⟩ := get_of_lt hj
      obtain ⟨y, hy⟩ := get_of_lt (l := b) (j := j) (by omega)
      have := h j (List.mem_range.2 hj)
      rw [hx, hy] at this
      rw [hx, hy, eqH_iff.1 this]
    · rw [List.getElem?_eq_none hj, List.getElem?_eq_none (by omega)]
  · rintro rfl
    refine ⟨rfl, fun j _ => ?_⟩
    split
    · rename_i x y hx hy
      rw [hx] at hy; simp at hy; subst hy
      exact eqH_iff.2 rfl
    · rfl
theorem rowB_bad {a b : List Hd} {j : Nat} {x y : Hd} (hx : a[j]? = some x) (hy : b[j]? = some y) (h : ¬ x = y) : rowB a b = false := by
  cases hr : rowB a b
  · rfl
  · rw [rowB_iff] at hr
    subst hr
    rw [hx] at hy; simp at hy; exact absurd hy h
theorem rowB_yes {a b : List Hd} {n : Nat} (hl : a.length = n) (hl2 : b.length = n) (h : ∀ (j : Nat) (x y : Hd), j < n → a[j]? = some x → b[j]? = some y → x = y) : rowB a b = true := by
  rw [rowB_iff]
  apply List.ext_getElem?
  intro j
  rcases Nat.lt_or_ge j n with hj | hj
  · obtain ⟨x, hx⟩ := get_of_lt (l := a) (j := j) (by omega)
    obtain ⟨y, hy⟩ := get_of_lt (l := b) (j := j) (by omega)
    rw [hx, hy, h j x y hj hx hy]
  · rw [List.getElem?_eq_none (by omega), List.getElem?_eq_none (by omega)]
set_option maxHeartbeats 2000000 in
theorem row_any (a : Option Addr) (n c : Nat) (l : List Hd) (a2 : Option Addr) (m c2 : Nat) (b : List Hd) (w : World) (h : Rd hdE w a n l) (h2 : Rd hdE w a2 m b) :
    Calls Tryd.prog 19 #[.slice a n c, .slice a2 m c2] w fun e w' => e = .returned (.bool (rowB l b)) ∧ Frm noB w w' := by
  have hl := h.1
  have hl2 := h2.1
  have hn := h.2.1
  have hm := h2.2.1
  by_cases hnm : n = m
  · subst hnm
    have hnm2 : ((n : Int) != (n : Int)) = false := by simp
    have Hh := Lib.hid h
    have Hl := Lib.hid hl
    have H2 := Lib.hid h2
    have Hl2 := Lib.hid hl2
    clear h hl h2 hl2
    go_enter Tryd.func19, Tryd.ntmps19
    go_wp2_with fail
    go_loopw [4, 5] (fun r i wr => ∃ k : Nat, k ≤ n ∧ r = .bool false ∧ i = .int .i64 k ∧ (∀ (j : Nat) (x y : Hd), j < k → l[j]? = some x → b[j]? = some y → x = y) ∧ Frm noB w wr) (fun _ i _ => n - (intOf i).toNat)
    case atStart => exact ⟨0, by omega, rfl, rfl, by omega, Frm.refl _ _⟩
    case round =>
      obtain ⟨k, hk, rfl, rfl, hal, hf⟩ := hrel
      by_cases hlt : k < n
      · obtain ⟨x, hx⟩ := get_of_lt (l := l) (j := k) (by rw [Hl.out]; exact hlt)
        obtain ⟨y, hy⟩ := get_of_lt (l := b) (j := k) (by rw [Hl2.out]; exact hlt)
        obtain ⟨b1, off, rfl, hb, c0, c1⟩ := hd_rd (Hh.out.keep hf) hx
        obtain ⟨b2, off2, rfl, hb2, d0, d1⟩ := hd_rd (H2.out.keep hf) hy
        by_cases hq : x = y
        · subst hq
          have hnx : ∀ (j : Nat) (p q : Hd), j < k + 1 → l[j]? = some p → b[j]? = some q → p = q := fun j p q hj hp hq => by
            rcases Nat.lt_or_ge j k with h | h
            · exact hal j p q h hp hq
            · obtain rfl : j = k := by omega
              rw [hx] at hp; rw [hy] at hq; simp at hp hq; rw [← hp, ← hq]
          have t1 := str_yes (rfl : x.name = x.name)
          have t2 := str_yes (rfl : x.val = x.val)
          have Hal := Lib.hid hal
          have Hf := Lib.hid hf
          have Hx := Lib.hid hx
          have Hy := Lib.hid hy
          have Hnx := Lib.hid hnx
          clear hal hf hx hy hnx
          go_wp2_with fail
          go_quiet (fail)
          go_wp2_with fail
          go_roundw
          case rel => exact ⟨k + 1, by omega, rfl, by go_num, Hnx.out, Hf.out.drewN _⟩
          case measure => simp [intOf]; omega
        · have hr := rowB_bad hx hy hq
          by_cases hq1 : x.name = y.name
          · have hq2 : ¬ x.val = y.val := fun e => hq (by obtain ⟨x1, x2⟩ := x; obtain ⟨y1, y2⟩ := y; simp only at hq1 e; rw [hq1, e])
            have t1 := str_yes hq1
            have t2 := str_ne hq2
            have Hal := Lib.hid hal
            have Hf := Lib.hid hf
            have Hx := Lib.hid hx
            have Hy := Lib.hid hy
            have Hr := Lib.hid hr
            have Hq := Lib.hid hq
            have Hq1 := Lib.hid hq1
            have Hq2 := Lib.hid hq2
            clear hal hf hx hy hr hq hq1 hq2
            go_wp2_with fail
            go_quiet (fail)
            go_wp2_with fail
            go_ret
            exact ⟨ret_bool Hr.out.symm, Hf.out.drewN _⟩
          · have t1 := str_ne hq1
            have Hal := Lib.hid hal
            have Hf := Lib.hid hf
            have Hx := Lib.hid hx
            have Hy := Lib.hid hy
            have Hr := Lib.hid hr
            have Hq := Lib.hid hq
            have Hq1 := Lib.hid hq1
            clear hal hf hx hy hr hq hq1
            go_wp2_with fail
            go_quiet (fail)
            go_wp2_with fail
            go_ret
            exact ⟨ret_bool Hr.out.symm, Hf.out.drewN _⟩
      · obtain rfl : k = n := by omega
        have hr : rowB l b = true := rowB_yes Hl.out Hl2.out hal
        have Hal := Lib.hid hal
        have Hf := Lib.hid hf
        have Hr := Lib.hid hr
        clear hal hf hr
        go_wp2_with fail
        go_ret
        exact ⟨ret_bool Hr.out.symm, Hf.out⟩
  · have hr : rowB l b = false := by
      cases hr : rowB l b
      · rfl
      · rw [rowB_iff] at hr; subst hr; omega
    have hnm2 : ((n : Int) != (m : Int)) = true := by simp; omega
    have Hh := Lib.hid h
    have Hl := Lib.hid hl
    have H2 := Lib.hid h2
    have Hl2 := Lib.hid hl2
    have Hr := Lib.hid hr
    clear h hl h2 hl2 hr
    go_enter Tryd.func19, Tryd.ntmps19
    go_wp2_with fail
    go_ret
    exact ⟨ret_bool Hr.out.symm, Frm.refl _ _⟩
end Go.Proofs.YtbeilgkogbcjjaaDoor
