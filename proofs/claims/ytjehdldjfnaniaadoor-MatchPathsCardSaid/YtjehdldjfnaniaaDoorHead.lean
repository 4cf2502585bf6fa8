/- Heads: their cells; where one stands. -/
import Derived.Test.YtjehdldjfnaniaaDoorRows2
import Derived.Test.YtjehdldjfnaniaaDoorBs
import Derived.Test.YtjehdldjfnaniaaDoorStrs
import Derived.StillTailTactics
import Derived.Deep.DeepCutAuto
import Derived.Deep.RegionHeld3
set_option linter.unusedVariables false
namespace Go.Proofs.YtjehdldjfnaniaaDoor
open Go.RowKit

structure Hd where
  name : ByteArray
  val : ByteArray
def hdL (h : Hd) : List Value := [.string h.name, .string h.val]
def hdV (h : Hd) : Value := .agg #[.string h.name, .string h.val]
def hdE : Enc Hd := ⟨hdL, 2, fun _ => rfl, fun s u h => by simp [hdL] at h; rcases h with rfl | rfl <;> rfl⟩
theorem info_hd : (Tryd.prog.info? 36).map (fun i => (i.zero, i.size, i.bytes)) = some (some (.agg #[.string ⟨#[]⟩, .string ⟨#[]⟩]), 2, 32) := by kernel_rfl
theorem hd_cells {w : World} {base g n c : Nat} {T : TypeId} {l : List Hd} (h : Own hdE w base T (.slice (some ⟨g, 0, none⟩) n c) l) {j : Nat} {x : Hd} (hj : l[j]? = some x) :
    w.cell? ⟨g, j * 2, none⟩ = some (.string x.name) ∧ w.cell? ⟨g, j * 2 + 1, none⟩ = some (.string x.val) :=
  ⟨h.cell j 0 x _ hj rfl, h.cell j 1 x _ hj rfl⟩
theorem hd_rd {w : World} {a : Option Addr} {n : Nat} {l : List Hd} (h : Rd hdE w a n l) {j : Nat} {x : Hd} (hj : l[j]? = some x) :
    ∃ b off, a = some ⟨b, off, none⟩ ∧ b < w.heap.size ∧ w.cell? ⟨b, off + j * 2, none⟩ = some (.string x.name) ∧ w.cell? ⟨b, off + j * 2 + 1, none⟩ = some (.string x.val) := by
  obtain ⟨b, off, ha, hb, hc⟩ := h.2.2 j x hj
  exact ⟨b, off, ha, hb, hc 0 _ rfl, hc 1 _ rfl⟩
theorem app_hd (w : World) {ops : Array Oper} {rest : List Oper} {o : Oper} {a : Act} {Q : Exit → Act → World → Prop} (hgd : o.guard = none) (s x : Operand)
    (ho : o.op = .call { callee := .builtin .append, args := #[s, x], argTypes := #[23, 23] }) (base : Nat)
    (v : Value) (l : List Hd) (hs : a.eval s = v) (hown : Own hdE w base 36 v l) (el : Hd) (cs : Array Value) (hcs : cs.toList = hdL el)
    (H : Nat) (hH : w.heap.size = H) (hx : a.eval x = .slice (some ⟨H, 0, none⟩) 1 1) (hsm : l.length ≤ 1000000) (hbase : base ≤ w.heap.size)
    (h : ∀ v' w', Own hdE w' base 36 v' (l ++ [el]) → Frm (fun i => some i = v.ownBlock) (w.alloc (.cells cs 36)) w' → Frm (fun i => some i = v.ownBlock) w w' → (v'.ownBlock = v.ownBlock ∨ ∃ g, v'.ownBlock = some g ∧ w.heap.size < g ∧ g < w'.heap.size) →
      v' ≠ .slice none 0 0 → wpList Tryd.prog ops Q rest (a.put o.dst v') w') : wpList Tryd.prog ops Q (o :: rest) a (w.alloc (.cells cs 36)) := by
  obtain ⟨i, hi, hz, h1, h2⟩ := info_parts info_hd
  exact wpl_app1 hdE w hgd s x 23 ho base 36 i _ 32 Tryd.underlying23 hi hz h1 h2 rfl (by decide) (by omega) v l hs hown el cs hcs H hH hx hsm hbase h

/-- Where a name stands; the length, if nowhere. -/
def plN (l : List Hd) (s : ByteArray) : Nat := l.findIdx fun h => decide (h.name = s)
def plI (l : List Hd) (s : ByteArray) : Int := if plN l s < l.length then (plN l s : Int) else -1
def getL (l : List Hd) (s : ByteArray) : Option ByteArray := (l.find? fun h => decide (h.name = s)).map (·.val)
theorem plN_hit {l : List Hd} {s : ByteArray} {k : Nat} {x : Hd} (hx : l[k]? = some x) (hno : ∀ (j : Nat) (y : Hd), j < k → l[j]? = some y → ¬ y.name = s) (h : x.name = s) : plN l s = k := by
  unfold plN
  have hk := get_lt hx
  have e : l[k] = x := by rw [List.getElem?_eq_getElem hk] at hx; simpa using hx
  refine (List.findIdx_eq hk).2 ⟨by rw [e]; exact decide_eq_true h, fun j hj => ?_⟩
  exact decide_eq_false (hno j _ hj (List.getElem?_eq_getElem (Nat.lt_trans hj hk)))
theorem plN_none {l : List Hd} {s : ByteArray} (hno : ∀ (j : Nat) (y : Hd), l[j]? = some y → ¬ y.name = s) : plN l s = l.length := by
  unfold plN
  rw [List.findIdx_eq_length]
  intro x hx
  obtain ⟨j, hj⟩ := List.getElem?_of_mem hx
  exact decide_eq_false (hno j x hj)
theorem plN_name {l : List Hd} {s : ByteArray} {k : Nat} {x : Hd} (hx : l[k]? = some x) (h : plN l s = k) : x.name = s := by
  unfold plN at h
  have hk := get_lt hx
  have e : l[k] = x := by rw [List.getElem?_eq_getElem hk] at hx; simpa using hx
  have := ((List.findIdx_eq hk).1 h).1
  rw [e] at this
  simpa using this
theorem getL_hit {l : List Hd} {s : ByteArray} {k : Nat} {x : Hd} (hx : l[k]? = some x) (h : plN l s = k) : getL l s = some x.val := by
  have hk := get_lt hx
  unfold plN at h
  unfold getL
  have e : l[k] = x := by rw [List.getElem?_eq_getElem hk] at hx; simpa using hx
  have : l.find? (fun h => decide (h.name = s)) = some x := by
    rw [List.find?_eq_some_iff_getElem]
    have hh := (List.findIdx_eq hk).1 h
    refine ⟨by rw [← e]; exact hh.1, k, hk, e, fun j hj => by have := hh.2 j hj; simpa using this⟩
  rw [this]; rfl
theorem getL_none {l : List Hd} {s : ByteArray} (h : ¬ plN l s < l.length) : getL l s = none := by
  unfold getL
  have : l.find? (fun h => decide (h.name = s)) = none := by
    rw [List.find?_eq_none]
    intro x hx hd
    exact h (List.findIdx_lt_length_of_exists ⟨x, hx, hd⟩)
  rw [this]; rfl


theorem place1_any (nm vl s : ByteArray) (B : Nat) (w : World) (hB : Blk w B #[.string s] 9) :
    Calls Tryd.prog 53 #[.agg #[.string nm, .string vl], .pointer (some ⟨B, 0, none⟩)] w fun e w' => e = .returned (.bool (nm.toList == s.toList)) ∧ Frm noB w w' := by
  have h1 := (hB.alloc (.cells #[.string nm, .string vl] 36)).cell 0
  have hl := hB.lt
  simp at h1
  have HB := Lib.hid hB
  clear hB
  go_enter Tryd.func53, Tryd.ntmps53
  go_wp2_with fail
  go_ret
  exact ⟨rfl, (Frm.refl _ _).alloc _⟩
def IdxIs (l : List Hd) (s : ByteArray) (w : World) (e : Ending) (w' : World) : Prop := e = .returned (.int .i64 (plI l s)) ∧ Frm noB w w'
set_option maxHeartbeats 1000000 in
theorem index_hd (a : Option Addr) (n c : Nat) (l : List Hd) (s : ByteArray) (B : Nat) (w : World) (h : Rd hdE w a n l) (hB : Blk w B #[.string s] 9) :
    Calls Tryd.prog 52 #[.slice a n c, .func (.func 53) #[] #[.pointer (some ⟨B, 0, none⟩)]] w (IdxIs l s w) := by
  have hl := h.1
  have hn := h.2.1
  have Hh := Lib.hid h
  have Hl := Lib.hid hl
  have HB := Lib.hid hB
  clear h hl hB
  go_enter Tryd.func52, Tryd.ntmps52
  go_wp2_with fail
  go_loopw [4, 8] (fun r i wr => ∃ k : Nat, k ≤ n ∧ r = .int .i64 0 ∧ i = .int .i64 k ∧ Frm noB w wr ∧ ∀ (j : Nat) (y : Hd), j < k → l[j]? = some y → ¬ y.name = s) (fun _ i _ => n - (intOf i).toNat)
  case atStart => exact ⟨0, by omega, rfl, rfl, Frm.refl _ _, by omega⟩
  case round =>
    obtain ⟨k, hk, rfl, rfl, hf, hno⟩ := hrel
    by_cases hlt : k < n
    · obtain ⟨x, hx⟩ := get_of_lt (l := l) (j := k) (by rw [Hl.out]; exact hlt)
      obtain ⟨b, off, rfl, hb, c0, c1⟩ := hd_rd (Hh.out.keep hf) hx
      have hB1 := HB.out.frm hf (fun h => h)
      by_cases hq : x.name = s
      · have hst := str_yes hq
        have hp : plI l s = k := by unfold plI; rw [plN_hit hx hno hq, if_pos (get_lt hx)]
        have Hf := Lib.hid hf
        have Hno := Lib.hid hno
        have Hx := Lib.hid hx
        have HB1 := Lib.hid hB1
        have Hq := Lib.hid hq
        have Hp := Lib.hid hp
        clear hf hno hx hB1 hq hp
        go_wp2_with fail
        with_reducible refine (place1_any x.name x.val s B _ HB1.out).mono ?_
        rintro e w1 ⟨rfl, hf1⟩
        have hf2 := Hf.out.trans hf1
        have Hf2 := Lib.hid hf2
        clear hf2
        clear hf1
        go_wp2_with fail
        go_ret
        exact ⟨by rw [Hp.out]; rfl, Hf2.out⟩
      · have hst := str_ne hq
        have hno2 : ∀ (j : Nat) (y : Hd), j < k + 1 → l[j]? = some y → ¬ y.name = s := fun j y hj hy => by
          rcases Nat.lt_or_ge j k with h | h
          · exact hno j y h hy
          · obtain rfl : j = k := by omega
            rw [hx] at hy; simp at hy; subst hy; exact hq
        have Hf := Lib.hid hf
        have Hno := Lib.hid hno
        have Hx := Lib.hid hx
        have HB1 := Lib.hid hB1
        have Hq := Lib.hid hq
        have Hno2 := Lib.hid hno2
        clear hf hno hx hB1 hq hno2
        go_wp2_with fail
        with_reducible refine (place1_any x.name x.val s B _ HB1.out).mono ?_
        rintro e w1 ⟨rfl, hf1⟩
        have hf2 := Hf.out.trans hf1
        have Hf2 := Lib.hid hf2
        clear hf2
        clear hf1
        go_wp2_with fail
        go_roundw
        case rel => exact ⟨k + 1, by omega, rfl, by go_num, Hf2.out, Hno2.out⟩
        case measure => simp [intOf]; omega
    · have hp : plI l s = -1 := by
        unfold plI
        rw [plN_none (fun j y hy => hno j y (by have := get_lt hy; have := Hl.out; omega) hy), if_neg (Nat.lt_irrefl _)]
      have Hf := Lib.hid hf
      have Hno := Lib.hid hno
      have Hp := Lib.hid hp
      clear hf hno hp
      go_wp2_with fail
      go_ret
      exact ⟨by rw [Hp.out]; rfl, Hf.out⟩
set_option maxHeartbeats 400000 in
theorem place_any (a : Option Addr) (n c : Nat) (l : List Hd) (s : ByteArray) (w : World) (h : Rd hdE w a n l) :
    Calls Tryd.prog 42 #[.slice a n c, .string s] w (IdxIs l s w) := by
  have h1 := h.keep ((Frm.refl noB w).alloc (.cells #[.string s] 9))
  have hB := Blk.made w #[.string s] 9
  have Hh := Lib.hid h
  have H1 := Lib.hid h1
  have HB := Lib.hid hB
  clear h h1 hB
  go_enter Tryd.func42, Tryd.ntmps42
  go_wp2_with fail
  with_reducible refine (index_hd a n c l s _ _ H1.out HB.out).mono ?_
  rintro e w1 ⟨rfl, hf1⟩
  have Hf1 := Lib.hid (((Frm.refl noB w).alloc (.cells #[.string s] 9)).trans hf1)
  clear hf1
  go_wp2_with fail
  go_ret
  exact ⟨rfl, Hf1.out⟩
theorem place_at {l : List Hd} {s : ByteArray} : (plI l s = -1 ∧ ¬ plN l s < l.length ∧ getL l s = none) ∨ ∃ k x, plI l s = (k : Nat) ∧ l[k]? = some x ∧ x.name = s ∧ getL l s = some x.val ∧ plN l s = k := by
  by_cases h : plN l s < l.length
  · obtain ⟨x, hx⟩ := get_of_lt h
    exact .inr ⟨_, x, by unfold plI; rw [if_pos h], hx, plN_name hx rfl, getL_hit hx rfl, rfl⟩
  · exact .inl ⟨by unfold plI; rw [if_neg h], h, getL_none h⟩
/-- What Get answers. -/
def getV (l : List Hd) (s : ByteArray) : Value := .tuple #[.string ((getL l s).getD ⟨#[]⟩), .bool (getL l s).isSome]
set_option maxHeartbeats 400000 in
theorem get_any (a : Option Addr) (n c : Nat) (l : List Hd) (s : ByteArray) (w : World) (h : Rd hdE w a n l) :
    Calls Tryd.prog 31 #[.slice a n c, .string s] w fun e w' => e = .returned (getV l s) ∧ Frm noB w w' := by
  have hl := h.1
  have hn := h.2.1
  have Hh := Lib.hid h
  have Hl := Lib.hid hl
  clear h hl
  go_enter Tryd.func31, Tryd.ntmps31
  go_wp2_with fail
  with_reducible refine (place_any a n c l s _ Hh.out).mono ?_
  rintro e w1 ⟨rfl, hf1⟩
  rcases place_at (l := l) (s := s) with ⟨e1, _, e2⟩ | ⟨k, x, e1, hx, _, e2, _⟩
  · rw [e1]
    have Hf1 := Lib.hid hf1
    have He1 := Lib.hid e1
    have He2 := Lib.hid e2
    clear hf1 e1 e2
    go_wp2_with fail
    go_ret2
    exact ⟨by unfold getV; rw [He2.out]; rfl, Hf1.out⟩
  · obtain ⟨b, off, rfl, hb, c0, c1⟩ := hd_rd (Hh.out.keep hf1) hx
    rw [e1]
    have hlt : k < n := by rw [← Hl.out]; exact get_lt hx
    have Hf1 := Lib.hid hf1
    have He1 := Lib.hid e1
    have He2 := Lib.hid e2
    have Hx := Lib.hid hx
    clear hf1 e1 e2 hx
    go_wp2_with fail
    go_ret2
    exact ⟨by unfold getV; rw [He2.out]; rfl, Hf1.out⟩
end Go.Proofs.YtjehdldjfnaniaaDoor
