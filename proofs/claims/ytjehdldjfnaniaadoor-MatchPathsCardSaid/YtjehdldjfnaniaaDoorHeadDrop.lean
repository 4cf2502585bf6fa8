/- Drop of heads, and of the reference; Set of the reference. -/
import Derived.Test.YtjehdldjfnaniaaDoorHeadOps
set_option linter.unusedVariables false
namespace Go.Proofs.YtjehdldjfnaniaaDoor
open Go.RowKit

def dropL (l : List Hd) (ns : List ByteArray) : List Hd := l.filter fun h => !hasT ns h.name
theorem dropL_snoc {l : List Hd} {k : Nat} {x : Hd} (hx : l[k]? = some x) (ns : List ByteArray) : dropL (l.take (k + 1)) ns = if hasT ns x.name then dropL (l.take k) ns else dropL (l.take k) ns ++ [x] := by
  unfold dropL
  rw [List.take_add_one, hx, List.filter_append]
  cases h : hasT ns x.name <;> simp [h]
theorem dropL_len (l : List Hd) (ns : List ByteArray) : (dropL l ns).length ≤ l.length := List.length_filter_le _ _

def idxS (ns : List ByteArray) (s : ByteArray) : Int := if hasT ns s then (ns.findIdx fun x => decide (x = s) : Nat) else -1
theorem idxS_hit {ns : List ByteArray} {s x : ByteArray} {k : Nat} (hx : ns[k]? = some x) (hno : hasT (ns.take k) s = false) (h : x = s) : idxS ns s = k := by
  have hk := get_lt hx
  have hh : hasT ns s = true := hasT_mono (k := k + 1) (by rw [hasT_take hx hno, decide_eq_true h])
  unfold idxS
  rw [if_pos hh]
  have e : ns[k] = x := by rw [List.getElem?_eq_getElem hk] at hx; simpa using hx
  have hlow : ∀ j (hj : j < k), decide (ns[j]'(Nat.lt_trans hj hk) = s) = false := by
    intro j hj
    refine decide_eq_false (fun e2 => ?_)
    unfold hasT at hno
    rw [List.any_eq_false] at hno
    have hm : ns[j]'(Nat.lt_trans hj hk) ∈ ns.take k := List.mem_of_getElem? (i := j) (by rw [List.getElem?_take, if_pos hj, List.getElem?_eq_getElem])
    exact hno _ hm (decide_eq_true e2)
  have : (ns.findIdx fun x => decide (x = s)) = k := (List.findIdx_eq hk).2 ⟨by rw [e]; exact decide_eq_true h, hlow⟩
  rw [this]
end Go.Proofs.YtjehdldjfnaniaaDoor
