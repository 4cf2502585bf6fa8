/- Slices of texts: their cells, HasText. -/
import Derived.Test.YtnmcdecdgcnmbaaRows2
import Derived.Test.YtnmcdecdgcnmbaaBs
set_option linter.unusedVariables false
namespace Go.Proofs.Ytnmcdecdgcnmbaa
open Go.RowKit

def strE : Enc ByteArray := ⟨fun s => [.string s], 1, fun _ => rfl, fun s u h => by simp at h; subst h; rfl⟩
theorem info_str : (Try.prog.info? 9).map (fun i => (i.zero, i.size, i.bytes)) = some (some (.string ⟨#[]⟩), 1, 16) := by kernel_rfl
theorem str_cell {w : World} {base g n c : Nat} {T : TypeId} {l : List ByteArray} (h : Own strE w base T (.slice (some ⟨g, 0, none⟩) n c) l) {j : Nat} {x : ByteArray} (hj : l[j]? = some x) : w.cell? ⟨g, j, none⟩ = some (.string x) := by
  have := h.cell j 0 x _ hj rfl
  simpa [strE] using this
theorem str_rd {w : World} {a : Option Addr} {n : Nat} {l : List ByteArray} (h : Rd strE w a n l) {j : Nat} {x : ByteArray} (hj : l[j]? = some x) : ∃ b off, a = some ⟨b, off, none⟩ ∧ b < w.heap.size ∧ w.cell? ⟨b, off + j, none⟩ = some (.string x) := by
  obtain ⟨b, off, ha, hb, hc⟩ := h.2.2 j x hj
  have := hc 0 _ rfl
  exact ⟨b, off, ha, hb, by simpa [strE] using this⟩
/-- A literal of texts. -/
theorem str_lit (w : World) (l : List ByteArray) (cs : Array Value) (hcs : cs.toList = l.map Value.string) (n : Nat) (hn : l.length = n) (base : Nat) (hb : base ≤ w.heap.size) (hm : n ≤ 1000000) :
    Own strE (w.alloc (.cells cs 9)) base 9 (.slice (some ⟨w.heap.size, 0, none⟩) n n) l := by
  have hr0 : ∀ l : List ByteArray, rowOf strE l = l.map Value.string := by
    intro l
    induction l with
    | nil => rfl
    | cons a l ih => rw [rowOf_cons, ih]; rfl
  have hr : rowOf strE l = cs.toList := by rw [hcs, hr0]
  unfold Own
  rw [hr, hn]
  refine World.ownsRow_lit w cs n hb (by simp only [maxLen]; omega) ?_
  have : cs.toList.length = n := by rw [hcs, List.length_map, hn]
  rw [← Array.length_toList, this]
  simp [strE]
theorem app_str (w : World) {ops : Array Oper} {rest : List Oper} {o : Oper} {a : Act} {Q : Exit → Act → World → Prop} (hgd : o.guard = none) (s x : Operand)
    (ho : o.op = .call { callee := .builtin .append, args := #[s, x], argTypes := #[25, 25] }) (base : Nat)
    (v : Value) (l : List ByteArray) (hs : a.eval s = v) (hown : Own strE w base 9 v l) (el : ByteArray) (cs : Array Value) (hcs : cs.toList = [.string el])
    (H : Nat) (hH : w.heap.size = H) (hx : a.eval x = .slice (some ⟨H, 0, none⟩) 1 1) (hsm : l.length ≤ 1000000) (hbase : base ≤ w.heap.size)
    (h : ∀ v' w', Own strE w' base 9 v' (l ++ [el]) → Frm (fun i => some i = v.ownBlock) (w.alloc (.cells cs 9)) w' → Frm (fun i => some i = v.ownBlock) w w' → (v'.ownBlock = v.ownBlock ∨ ∃ g, v'.ownBlock = some g ∧ w.heap.size < g ∧ g < w'.heap.size) →
      v' ≠ .slice none 0 0 → wpList Try.prog ops Q rest (a.put o.dst v') w') : wpList Try.prog ops Q (o :: rest) a (w.alloc (.cells cs 9)) := by
  obtain ⟨i, hi, hz, h1, h2⟩ := info_parts info_str
  exact wpl_app1 strE w hgd s x 25 ho base 9 i _ 16 Try.underlying25 hi hz h1 h2 rfl (by decide) (by omega) v l hs hown el cs hcs H hH hx hsm hbase h

def hasT (l : List ByteArray) (s : ByteArray) : Bool := l.any fun x => decide (x = s)
theorem hasT_take {l : List ByteArray} {s x : ByteArray} {k : Nat} (hk : l[k]? = some x) (hb : hasT (l.take k) s = false) : hasT (l.take (k + 1)) s = decide (x = s) := by
  unfold hasT at *
  rw [List.take_add_one, hk, List.any_append, hb]
  simp
theorem hasT_mono {l : List ByteArray} {s : ByteArray} {k : Nat} (h : hasT (l.take k) s = true) : hasT l s = true := by
  unfold hasT at *
  rw [List.any_eq_true] at *
  obtain ⟨x, hx, hh⟩ := h
  exact ⟨x, List.mem_of_mem_take hx, hh⟩
theorem str_ne {x s : ByteArray} (h : ¬ x = s) : (x.toList == s.toList) = false := by
  rw [str_beq]; exact decide_eq_false (fun e => h (ByteArray.ext (Array.toList_inj.1 e)))
theorem str_yes {x s : ByteArray} (h : x = s) : (x.toList == s.toList) = true := by rw [h]; simp
set_option maxHeartbeats 400000 in
theorem hasText_any (a : Option Addr) (n c : Nat) (l : List ByteArray) (s : ByteArray) (w : World) (h : Rd strE w a n l) :
    Calls Try.prog 30 #[.slice a n c, .string s] w fun e w' => e = .returned (.bool (hasT l s)) ∧ w = w' := by
  have hl := h.1
  have hn := h.2.1
  have Hh := Lib.hid h
  have Hl := Lib.hid hl
  clear h hl
  go_enter Try.func30, Try.ntmps30
  go_wp2_with fail
  go_loop [4, 5] (fun r i => ∃ k : Nat, k ≤ n ∧ r = .bool false ∧ i = .int .i64 k ∧ hasT (l.take k) s = false) (fun _ i => n - (intOf i).toNat)
  case atStart => exact ⟨0, by omega, rfl, rfl, rfl⟩
  case round =>
    obtain ⟨k, hk, rfl, rfl, hno⟩ := hrel
    by_cases hlt : k < n
    · obtain ⟨x, hx⟩ := get_of_lt (l := l) (j := k) (by rw [Hl.out]; exact hlt)
      obtain ⟨b, off, rfl, hb, hc⟩ := str_rd Hh.out hx
      have hit := hasT_take hx hno
      by_cases hq : x = s
      · have hst := str_yes hq
        have hv : hasT l s = true := hasT_mono (k := k + 1) (by rw [hit]; exact decide_eq_true hq)
        have Hno := Lib.hid hno
        have Hit := Lib.hid hit
        have Hv := Lib.hid hv
        have Hq := Lib.hid hq
        have Hx := Lib.hid hx
        clear hno hit hv hq hx
        go_wp2_with fail
        go_ret
        exact ⟨ret_bool Hv.out.symm, rfl⟩
      · have hst := str_ne hq
        rw [decide_eq_false hq] at hit
        have Hno := Lib.hid hno
        have Hit := Lib.hid hit
        have Hq := Lib.hid hq
        have Hx := Lib.hid hx
        clear hno hit hq hx
        go_wp2_with fail
        go_round
        case rel => exact ⟨k + 1, by omega, rfl, by go_num, Hit.out⟩
        case measure => simp [intOf]; omega
    · obtain rfl : k = n := by omega
      rw [List.take_of_length_le (by rw [Hl.out]; exact Nat.le_refl _)] at hno
      have Hno := Lib.hid hno
      clear hno
      go_wp2_with fail
      go_ret
      exact ⟨ret_bool Hno.out.symm, rfl⟩
end Go.Proofs.Ytnmcdecdgcnmbaa
