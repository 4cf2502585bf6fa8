/- Plain: what was dropped is not there; what is set and dropped was never there. -/
import Derived.Test.YtbeilgkogbcjjaaDoorHeadEq
set_option linter.unusedVariables false
namespace Go.Proofs.YtbeilgkogbcjjaaDoor
open Go.RowKit

theorem hasT_cons (s : ByteArray) (ns : List ByteArray) (x : ByteArray) : hasT (s :: ns) x = (decide (s = x) || hasT ns x) := by unfold hasT; rw [List.any_cons]
theorem dropL_none (l : List Hd) : dropL l [] = l := by
  unfold dropL hasT
  simp
theorem drop_cons (a : Hd) (l : List Hd) (ns : List ByteArray) : dropL (a :: l) ns = if hasT ns a.name then dropL l ns else a :: dropL l ns := by
  unfold dropL
  cases h : hasT ns a.name <;> simp [h]
theorem drop_drop (l : List Hd) (ns : List ByteArray) (s : ByteArray) : dropL (dropL l ns) [s] = dropL l (s :: ns) := by
  unfold dropL
  rw [List.filter_filter]
  refine List.filter_congr fun x _ => ?_
  rw [hasT_cons s ns, hasT_cons s []]
  unfold hasT
  cases decide (s = x.name) <;> simp
theorem get_cons (a : Hd) (l : List Hd) (s : ByteArray) : getL (a :: l) s = if a.name = s then some a.val else getL l s := by
  unfold getL
  by_cases h : a.name = s
  · rw [List.find?_cons_of_pos (by simpa using h), if_pos h]; rfl
  · rw [List.find?_cons_of_neg (by simpa using h), if_neg h]
theorem getL_drop (l : List Hd) (ns : List ByteArray) (s : ByteArray) : getL (dropL l ns) s = if hasT ns s then none else getL l s := by
  induction l with
  | nil => rw [show dropL [] ns = [] from rfl]; split <;> rfl
  | cons a l ih =>
    rw [drop_cons]
    by_cases h : hasT ns a.name = true
    · rw [if_pos h, ih]
      by_cases h2 : hasT ns s = true
      · rw [if_pos h2, if_pos h2]
      · rw [if_neg h2, if_neg h2, get_cons, if_neg (fun e => h2 (by rw [← e]; exact h))]
    · rw [if_neg h, get_cons, get_cons, ih]
      by_cases e : a.name = s
      · rw [if_pos e, if_pos e, if_neg (by rw [← e]; exact h)]
      · rw [if_neg e, if_neg e]
theorem hasN_drop (l : List Hd) (ns : List ByteArray) (s : ByteArray) : hasN (dropL l ns) s = (!hasT ns s && hasN l s) := by
  rw [← hasN_get, ← hasN_get, getL_drop]
  cases hasT ns s <;> simp
theorem set_drop (l : List Hd) (h : Hd) : dropL (setL l h) [h.name] = dropL l [h.name] := by
  unfold setL
  split
  · rename_i hh
    clear hh
    induction l with
    | nil => rfl
    | cons a l ih =>
      have e : putL (a :: l) h = (if a.name = h.name then h else a) :: putL l h := rfl
      rw [e, drop_cons, drop_cons, ih]
      by_cases hq : a.name = h.name
      · rw [if_pos hq, if_pos (by simp [hasT]), if_pos (by simp [hasT, hq])]
      · rw [if_neg hq]
  · split
    · unfold dropL
      rw [List.filter_append]
      simp [hasT]
    · rfl
end Go.Proofs.YtbeilgkogbcjjaaDoor
