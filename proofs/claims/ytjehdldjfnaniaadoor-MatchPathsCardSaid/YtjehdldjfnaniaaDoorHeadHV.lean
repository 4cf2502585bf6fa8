/- The contracts once more, of values that hold heads (or texts) in rows of the call's own. -/
import Derived.Test.YtjehdldjfnaniaaDoorHeadFacts
set_option linter.unusedVariables false
namespace Go.Proofs.YtjehdldjfnaniaaDoor
open Go.RowKit

def HV (w : World) (v : Value) (l : List Hd) : Prop := ∃ base, Own hdE w base 36 v l
def SV (w : World) (v : Value) (l : List ByteArray) : Prop := ∃ base, Own strE w base 9 v l
theorem HV.keep {w w' : World} {v : Value} {l : List Hd} (h : HV w v l) (f : Frm noB w w') : HV w' v l := by obtain ⟨b, h⟩ := h; exact ⟨b, h.keep f⟩
theorem SV.keep {w w' : World} {v : Value} {l : List ByteArray} (h : SV w v l) (f : Frm noB w w') : SV w' v l := by obtain ⟨b, h⟩ := h; exact ⟨b, h.keep f⟩
theorem HV.shape {w : World} {v : Value} {l : List Hd} (h : HV w v l) : ∃ a c, v = .slice a l.length c ∧ Rd hdE w a l.length l ∧ l.length ≤ c ∧ c ≤ 9223372036854775807 ∧ ∀ x, a = some x → x.spot = none := by
  obtain ⟨b, h⟩ := h
  obtain ⟨a, c, rfl, hr⟩ := h.rd
  obtain ⟨h1, h2, h3⟩ := h.cap
  exact ⟨a, c, rfl, hr, h1, h2, h3⟩
theorem SV.shape {w : World} {v : Value} {l : List ByteArray} (h : SV w v l) : ∃ a c, v = .slice a l.length c ∧ Rd strE w a l.length l := by
  obtain ⟨b, h⟩ := h
  obtain ⟨a, c, rfl, hr⟩ := h.rd
  exact ⟨a, c, rfl, hr⟩
theorem SV.nil (w : World) : SV w (.slice none 0 0) [] := ⟨0, Own.nil _ _ _ _⟩
theorem HV.one (w : World) (h : Hd) : HV (w.alloc (.cells #[.string h.name, .string h.val] 36)) (.slice (some ⟨w.heap.size, 0, none⟩) 1 1) [h] := ⟨0, own_lit hdE w 36 [h] _ rfl 1 rfl 0 (Nat.zero_le _) (by omega)⟩
theorem SV.one (w : World) (s : ByteArray) : SV (w.alloc (.cells #[.string s] 9)) (.slice (some ⟨w.heap.size, 0, none⟩) 1 1) [s] := ⟨0, str_lit w [s] _ rfl 1 rfl 0 (Nat.zero_le _) (by omega)⟩
theorem heads_hv (a : Option Addr) (n c : Nat) (xs : List Int) (w : World) (h : IntsL w a n xs) :
    Calls Tryd.prog 14 #[.slice a n c] w fun e w' => ∃ v, e = .returned v ∧ HV w' v (genH (xs.take 12)) ∧ Frm noB w w' :=
  (heads_any a n c xs w h).mono fun e w' ⟨v, h1, h2, h3⟩ => ⟨v, h1, ⟨_, h2⟩, h3⟩
theorem get_hv (v : Value) (l : List Hd) (s : ByteArray) (w : World) (h : HV w v l) : Calls Tryd.prog 31 #[v, .string s] w fun e w' => e = .returned (.tuple #[.string ((getL l s).getD ⟨#[]⟩), .bool (hasN l s)]) ∧ Frm noB w w' := by
  obtain ⟨a, c, rfl, hr, _⟩ := h.shape
  have := get_any a _ c l s w hr
  unfold getV at this
  rwa [hasN_get] at this
theorem rget_hv (v : Value) (l : List Hd) (s : ByteArray) (w : World) (h : HV w v l) : Calls Tryd.prog 17 #[v, .string s] w fun e w' => e = .returned (.tuple #[.string ((getL l s).getD ⟨#[]⟩), .bool (hasN l s)]) ∧ w = w' := by
  obtain ⟨a, c, rfl, hr, _⟩ := h.shape
  have := ref_get a _ c l s w hr
  unfold getV at this
  rwa [hasN_get] at this
theorem check_hv (v : Value) (l : List Hd) (w : World) (h : HV w v l) (hg : GoodL l) : Calls Tryd.prog 36 #[v] w fun e w' => e = .returned (.int .i64 0) ∧ Frm noB w w' := by
  obtain ⟨a, c, rfl, hr, h1, h2, _⟩ := h.shape
  have := check_any a _ c l w hr h1 h2 hg.sizes
  rwa [hg.check] at this
theorem one_hv (z : Int) (w : World) (h : -9223372036854775808 ≤ z ∧ z ≤ 9223372036854775807) : Calls Tryd.prog 15 #[.int .i64 z] w fun e w' => e = .returned (.agg #[.string (oneZ z).name, .string (oneZ z).val]) ∧ Frm noB w w' := one_any z w h.1 h.2
theorem rowB_self (l : List Hd) : rowB l l = true := (rowB_iff l l).2 rfl
end Go.Proofs.YtjehdldjfnaniaaDoor
