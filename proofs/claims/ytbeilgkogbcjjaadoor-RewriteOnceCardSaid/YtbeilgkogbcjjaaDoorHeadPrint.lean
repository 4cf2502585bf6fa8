/- Print of heads, and of the reference. -/
import Derived.Test.YtbeilgkogbcjjaaDoorHead
import Derived.Test.YtbeilgkogbcjjaaDoorDecimal
import Derived.Outline
set_option linter.unusedVariables false
namespace Go.Proofs.YtbeilgkogbcjjaaDoor
open Go.RowKit

def hdP (h : Hd) : List UInt8 := h.name.data.toList ++ 58 :: (digN h.val.size ++ 58 :: h.val.data.toList)
def prT (l : List Hd) : List UInt8 := l.flatMap fun x => 32 :: hdP x
def prL (l : List Hd) : List UInt8 := (prT l).drop 1
theorem prT_snoc {l : List Hd} {k : Nat} {x : Hd} (hx : l[k]? = some x) : prT (l.take (k + 1)) = prT (l.take k) ++ 32 :: hdP x := by
  unfold prT
  rw [List.take_add_one, hx, List.flatMap_append]; simp
theorem prT_ne {l : List Hd} (h : 0 < l.length) : 1 ≤ (prT l).length := by
  cases l with
  | nil => simp at h
  | cons a t => simp [prT]
theorem prL_first {l : List Hd} {x : Hd} (hx : l[0]? = some x) : prL (l.take 1) = hdP x := by
  unfold prL
  rw [prT_snoc hx]; simp [prT]
theorem prL_snoc {l : List Hd} {k : Nat} {x : Hd} (hx : l[k]? = some x) (hk : 0 < k) : prL (l.take (k + 1)) = prL (l.take k) ++ [32] ++ hdP x := by
  unfold prL
  have hl := get_lt hx
  rw [prT_snoc hx, List.drop_append_of_le_length (prT_ne (by rw [List.length_take]; omega))]
  simp
theorem hdP_len (h : Hd) (h1 : h.name.size ≤ 1000) (h2 : h.val.size ≤ 99) : (hdP h).length ≤ 2000 := by
  unfold hdP
  have := digN_len_le 1 h.val.size (by omega)
  simp; omega
theorem prL_len (l : List Hd) (h : ∀ x ∈ l, x.name.size ≤ 1000 ∧ x.val.size ≤ 99) : (prL l).length ≤ 2001 * l.length := by
  unfold prL
  rw [List.length_drop]
  have key : (prT l).length ≤ 2001 * l.length := by
    induction l with
    | nil => simp [prT]
    | cons a t ih =>
      have h1 := ih (fun x hx => h x (List.mem_cons_of_mem _ hx))
      have h2 := hdP_len a (h a List.mem_cons_self).1 (h a List.mem_cons_self).2
      unfold prT at *
      simp only [List.flatMap_cons, List.length_append, List.length_cons]
      omega
  omega
theorem hd_cat (x : Hd) : ((((x.name ++ (⟨#[58]⟩ : ByteArray)) ++ bs (digN x.val.size)) ++ (⟨#[58]⟩ : ByteArray)) ++ x.val).data.toList = hdP x := by
  unfold hdP
  rw [show (⟨#[58]⟩ : ByteArray) = bs [58] from rfl]
  simp [ByteArray.data_append, bs]

end Go.Proofs.YtbeilgkogbcjjaaDoor
