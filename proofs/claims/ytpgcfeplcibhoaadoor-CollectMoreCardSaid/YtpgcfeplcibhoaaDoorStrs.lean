/- Slices of texts: their cells, HasText. -/
import Derived.Test.YtpgcfeplcibhoaaDoorRows2
import Derived.Test.YtpgcfeplcibhoaaDoorBs
set_option linter.unusedVariables false
namespace Go.Proofs.YtpgcfeplcibhoaaDoor
open Go.RowKit

def strE : Enc ByteArray := ⟨fun s => [.string s], 1, fun _ => rfl, fun s u h => by simp at h; subst h; rfl⟩
theorem info_str : (Tryd.prog.info? 9).map (fun i => (i.zero, i.size, i.bytes)) = some (some (.string ⟨#[]⟩), 1, 16) := by kernel_rfl
theorem str_cell {w : World} {base g n c : Nat} {T : TypeId} {l : List ByteArray} (h : Own strE w base T (.slice (some ⟨g, 0, none⟩) n c) l) {j : Nat} {x : ByteArray} (hj : l[j]? = some x) : w.cell? ⟨g, j, none⟩ = some (.string x) := by
  have := h.cell j 0 x _ hj rfl
  simpa [strE] using this
theorem str_rd {w : World} {a : Option Addr} {n : Nat} {l : List ByteArray} (h : Rd strE w a n l) {j : Nat} {x : ByteArray} (hj : l[j]? = some x) : ∃ b off, a = some ⟨b, off, none⟩ ∧ b < w.heap.size ∧ w.cell? ⟨b, off + j, none⟩ = some (.string x) := by
  obtain ⟨b, off, ha, hb, hc⟩ := h.2.2 j x hj
  have := hc 0 _ rfl
  exact ⟨b, off, ha, hb, by simpa [strE] using this⟩
/-- A literal of texts. -/
theorem str_lit (w : World) (l : List ByteArray) (cs : Array Value) (hcs : cs.toList = l.map Value.string) (n : Nat) (hn : l.length = n) (base : Nat) (hb : base ≤ w.heap.size) (hm : n ≤ 1000000) :
    Own strE (w.alloc (.cells cs 9)) base 9 (.slice (some ⟨w.heap.size, 0, none⟩) n n) l := by
  have hr0 : ∀ l : List ByteArray, rowOf strE l = l.map Value.string := by
    intro l
    induction l with
    | nil => rfl
    | cons a l ih => rw [rowOf_cons, ih]; rfl
  have hr : rowOf strE l = cs.toList := by rw [hcs, hr0]
  unfold Own
  rw [hr, hn]
  refine World.ownsRow_lit w cs n hb (by simp only [maxLen]; omega) ?_
  have : cs.toList.length = n := by rw [hcs, List.length_map, hn]
  rw [← Array.length_toList, this]
  simp [strE]
theorem app_str (w : World) {ops : Array Oper} {rest : List Oper} {o : Oper} {a : Act} {Q : Exit → Act → World → Prop} (hgd : o.guard = none) (s x : Operand)
    (ho : o.op = .call { callee := .builtin .append, args := #[s, x], argTypes := #[61, 61] }) (base : Nat)
    (v : Value) (l : List ByteArray) (hs : a.eval s = v) (hown : Own strE w base 9 v l) (el : ByteArray) (cs : Array Value) (hcs : cs.toList = [.string el])
    (H : Nat) (hH : w.heap.size = H) (hx : a.eval x = .slice (some ⟨H, 0, none⟩) 1 1) (hsm : l.length ≤ 1000000) (hbase : base ≤ w.heap.size)
    (h : ∀ v' w', Own strE w' base 9 v' (l ++ [el]) → Frm (fun i => some i = v.ownBlock) (w.alloc (.cells cs 9)) w' → Frm (fun i => some i = v.ownBlock) w w' → (v'.ownBlock = v.ownBlock ∨ ∃ g, v'.ownBlock = some g ∧ w.heap.size < g ∧ g < w'.heap.size) →
      v' ≠ .slice none 0 0 → wpList Tryd.prog ops Q rest (a.put o.dst v') w') : wpList Tryd.prog ops Q (o :: rest) a (w.alloc (.cells cs 9)) := by
  obtain ⟨i, hi, hz, h1, h2⟩ := info_parts info_str
  exact wpl_app1 strE w hgd s x 61 ho base 9 i _ 16 Tryd.underlying61 hi hz h1 h2 rfl (by decide) (by omega) v l hs hown el cs hcs H hH hx hsm hbase h

def hasT (l : List ByteArray) (s : ByteArray) : Bool := l.any fun x => decide (x = s)
theorem hasT_take {l : List ByteArray} {s x : ByteArray} {k : Nat} (hk : l[k]? = some x) (hb : hasT (l.take k) s = false) : hasT (l.take (k + 1)) s = decide (x = s) := by
  unfold hasT at *
  rw [List.take_add_one, hk, List.any_append, hb]
  simp
theorem hasT_mono {l : List ByteArray} {s : ByteArray} {k : Nat} (h : hasT (l.take k) s = true) : hasT l s = true := by
  unfold hasT at *
  rw [List.any_eq_true] at *
  obtain ⟨x, hx, hh⟩ := h
  exact ⟨x, List.mem_of_mem_take hx, hh⟩
theorem str_ne {x s : ByteArray} (h : ¬ x = s) : (x.toList == s.toList) = false := by
  rw [str_beq]; exact decide_eq_false (fun e => h (ByteArray.ext (Array.toList_inj.1 e)))
theorem str_yes {x s : ByteArray} (h : x = s) : (x.toList == s.toList) = true := by rw [h]; simp
end Go.Proofs.YtpgcfeplcibhoaaDoor
