/- The contracts once more, of values that hold heads (or texts) in rows of the call's own. -/
import Derived.Test.YtbeilgkogbcjjaaDoorHeadFacts
set_option linter.unusedVariables false
namespace Go.Proofs.YtbeilgkogbcjjaaDoor
open Go.RowKit

def HV (w : World) (v : Value) (l : List Hd) : Prop := ∃ base, Own hdE w base 50 v l
def SV (w : World) (v : Value) (l : List ByteArray) : Prop := ∃ base, Own strE w base 9 v l
theorem HV.keep {w w' : World} {v : Value} {l : List Hd} (h : HV w v l) (f : Frm noB w w') : HV w' v l := by obtain ⟨b, h⟩ := h; exact ⟨b, h.keep f⟩
theorem SV.keep {w w' : World} {v : Value} {l : List ByteArray} (h : SV w v l) (f : Frm noB w w') : SV w' v l := by obtain ⟨b, h⟩ := h; exact ⟨b, h.keep f⟩
theorem HV.shape {w : World} {v : Value} {l : List Hd} (h : HV w v l) : ∃ a c, v = .slice a l.length c ∧ Rd hdE w a l.length l ∧ l.length ≤ c ∧ c ≤ 9223372036854775807 ∧ ∀ x, a = some x → x.spot = none := by
  obtain ⟨b, h⟩ := h
  obtain ⟨a, c, rfl, hr⟩ := h.rd
  obtain ⟨h1, h2, h3⟩ := h.cap
  exact ⟨a, c, rfl, hr, h1, h2, h3⟩
theorem SV.shape {w : World} {v : Value} {l : List ByteArray} (h : SV w v l) : ∃ a c, v = .slice a l.length c ∧ Rd strE w a l.length l := by
  obtain ⟨b, h⟩ := h
  obtain ⟨a, c, rfl, hr⟩ := h.rd
  exact ⟨a, c, rfl, hr⟩
theorem SV.nil (w : World) : SV w (.slice none 0 0) [] := ⟨0, Own.nil _ _ _ _⟩
theorem HV.one (w : World) (h : Hd) : HV (w.alloc (.cells #[.string h.name, .string h.val] 50)) (.slice (some ⟨w.heap.size, 0, none⟩) 1 1) [h] := ⟨0, own_lit hdE w 50 [h] _ rfl 1 rfl 0 (Nat.zero_le _) (by omega)⟩
theorem SV.one (w : World) (s : ByteArray) : SV (w.alloc (.cells #[.string s] 9)) (.slice (some ⟨w.heap.size, 0, none⟩) 1 1) [s] := ⟨0, str_lit w [s] _ rfl 1 rfl 0 (Nat.zero_le _) (by omega)⟩
theorem heads_hv (a : Option Addr) (n c : Nat) (xs : List Int) (w : World) (h : IntsL w a n xs) :
    Calls Tryd.prog 18 #[.slice a n c] w fun e w' => ∃ v, e = .returned v ∧ HV w' v (genH (xs.take 12)) ∧ Frm noB w w' :=
  (heads_any a n c xs w h).mono fun e w' ⟨v, h1, h2, h3⟩ => ⟨v, h1, ⟨_, h2⟩, h3⟩
theorem names_hv (a : Option Addr) (n c : Nat) (xs : List Int) (w : World) (h : IntsL w a n xs) :
    Calls Tryd.prog 29 #[.slice a n c] w fun e w' => ∃ v, e = .returned v ∧ SV w' v (namesH (xs.take 6)) ∧ Frm noB w w' :=
  (names_any a n c xs w h).mono fun e w' ⟨v, h1, h2, h3⟩ => ⟨v, h1, ⟨_, h2⟩, h3⟩
theorem get_hv (v : Value) (l : List Hd) (s : ByteArray) (w : World) (h : HV w v l) : Calls Tryd.prog 24 #[v, .string s] w fun e w' => e = .returned (.tuple #[.string ((getL l s).getD ⟨#[]⟩), .bool (hasN l s)]) ∧ Frm noB w w' := by
  obtain ⟨a, c, rfl, hr, _⟩ := h.shape
  have := get_any a _ c l s w hr
  unfold getV at this
  rwa [hasN_get] at this
theorem set_hv (v v2 : Value) (l b : List Hd) (w : World) (h : HV w v l) (hl : l.length ≤ 1000) (hnd : NoDup l) (h2 : HV w v2 b) :
    Calls Tryd.prog 39 #[v, v2] w fun e w' => ∃ v', e = .returned v' ∧ HV w' v' (setAll l b) ∧ Frm noB w w' := by
  obtain ⟨a, c, rfl, hr, _, _, hsp⟩ := h.shape
  obtain ⟨a2, c2, rfl, hr2, _⟩ := h2.shape
  exact (hset_any a _ c l a2 _ c2 b w hr hsp hl hnd hr2).mono fun e w' ⟨v, h1, h2, h3⟩ => ⟨v, h1, ⟨_, h2⟩, h3⟩
theorem rset_hv (v v2 : Value) (l b : List Hd) (w : World) (h : HV w v l) (hl : l.length ≤ 1000) (h2 : HV w v2 b) :
    Calls Tryd.prog 41 #[v, v2] w fun e w' => ∃ v', e = .returned v' ∧ HV w' v' (setAll l b) ∧ Frm noB w w' := by
  obtain ⟨a, c, rfl, hr, _, _, hsp⟩ := h.shape
  obtain ⟨a2, c2, rfl, hr2, _⟩ := h2.shape
  exact (ref_set a _ c l a2 _ c2 b w hr hsp hl hr2).mono fun e w' ⟨v, h1, h2, h3⟩ => ⟨v, h1, ⟨_, h2⟩, h3⟩
theorem drop_hv (v v2 : Value) (l : List Hd) (ns : List ByteArray) (w : World) (h : HV w v l) (hl : l.length ≤ 1000) (h2 : SV w v2 ns) :
    Calls Tryd.prog 40 #[v, v2] w fun e w' => ∃ v', e = .returned v' ∧ HV w' v' (dropL l ns) ∧ Frm noB w w' := by
  obtain ⟨a, c, rfl, hr, _, _, hsp⟩ := h.shape
  obtain ⟨a2, c2, rfl, hr2⟩ := h2.shape
  exact (hdrop_any a _ c l a2 _ c2 ns w hr hl hr2).mono fun e w' ⟨v, h1, h2, h3⟩ => ⟨v, h1, ⟨_, h2⟩, h3⟩
theorem rdrop_hv (v v2 : Value) (l : List Hd) (ns : List ByteArray) (w : World) (h : HV w v l) (hl : l.length ≤ 1000) (h2 : SV w v2 ns) :
    Calls Tryd.prog 42 #[v, v2] w fun e w' => ∃ v', e = .returned v' ∧ HV w' v' (dropL l ns) ∧ Frm noB w w' := by
  obtain ⟨a, c, rfl, hr, _, _, hsp⟩ := h.shape
  obtain ⟨a2, c2, rfl, hr2⟩ := h2.shape
  exact (ref_drop a _ c l a2 _ c2 ns w hr hl hr2).mono fun e w' ⟨v, h1, h2, h3⟩ => ⟨v, h1, ⟨_, h2⟩, h3⟩
theorem same_hv (v v2 : Value) (l b : List Hd) (w : World) (h : HV w v l) (h2 : HV w v2 b) : Calls Tryd.prog 22 #[v, v2] w fun e w' => e = .returned (.bool (sameL l b)) ∧ Frm noB w w' := by
  obtain ⟨a, c, rfl, hr, _⟩ := h.shape
  obtain ⟨a2, c2, rfl, hr2, _⟩ := h2.shape
  exact hsame_any a _ c l a2 _ c2 b w hr hr2
theorem row_hv (v v2 : Value) (l b : List Hd) (w : World) (h : HV w v l) (h2 : HV w v2 b) : Calls Tryd.prog 19 #[v, v2] w fun e w' => e = .returned (.bool (rowB l b)) ∧ Frm noB w w' := by
  obtain ⟨a, c, rfl, hr, _⟩ := h.shape
  obtain ⟨a2, c2, rfl, hr2, _⟩ := h2.shape
  exact row_any a _ c l a2 _ c2 b w hr hr2
theorem check_hv (v : Value) (l : List Hd) (w : World) (h : HV w v l) (hg : GoodL l) : Calls Tryd.prog 26 #[v] w fun e w' => e = .returned (.int .i64 0) ∧ Frm noB w w' := by
  obtain ⟨a, c, rfl, hr, h1, h2, _⟩ := h.shape
  have := check_any a _ c l w hr h1 h2 hg.sizes
  rwa [hg.check] at this
theorem one_hv (z : Int) (w : World) (h : -9223372036854775808 ≤ z ∧ z ≤ 9223372036854775807) : Calls Tryd.prog 23 #[.int .i64 z] w fun e w' => e = .returned (.agg #[.string (oneZ z).name, .string (oneZ z).val]) ∧ Frm noB w w' := one_any z w h.1 h.2
theorem rowB_self (l : List Hd) : rowB l l = true := (rowB_iff l l).2 rfl
end Go.Proofs.YtbeilgkogbcjjaaDoor
