/- Slices of ints: parts, and the first so many of them. -/
import Derived.Test.YtbeilgkogbcjjaaDoorRewHeads
import Derived.Test.YtbeilgkogbcjjaaDoorIntsL
import Derived.Test.YtbeilgkogbcjjaaDoorAppR
import Derived.Outline
set_option linter.unusedVariables false
namespace Go.Proofs.YtbeilgkogbcjjaaDoor
open Go.RowKit

def intE : Enc Int := ⟨fun z => [.int .i64 z], 1, fun _ => rfl, fun s u h => by simp at h; subst h; rfl⟩
theorem info_int : (Tryd.prog.info? 3).map (fun i => (i.zero, i.size, i.bytes)) = some (some (.int .i64 0), 1, 8) := by kernel_rfl
theorem IntsL.rd {w : World} {a : Option Addr} {n : Nat} {xs : List Int} (h : IntsL w a n xs) : Rd intE w a n xs :=
  ⟨h.len, h.most, fun j x hj => by
    obtain ⟨b, off, ha, hb, hc⟩ := h.cells j x hj
    refine ⟨b, off, ha, hb, fun i u hu => ?_⟩
    have hi : i = 0 := by have := get_lt hu; have : i < 1 := this; omega
    subst hi
    have : u = .int .i64 x := by simpa [intE] using hu.symm
    subst this
    simpa [intE] using hc⟩
theorem IntsL.ofRd {w : World} {a : Option Addr} {n : Nat} {xs : List Int} (h : Rd intE w a n xs) (hb : ∀ x ∈ xs, -9223372036854775808 ≤ x ∧ x ≤ 9223372036854775807) : IntsL w a n xs :=
  ⟨h.1, h.2.1, hb, fun j x hj => by
    obtain ⟨b, off, ha, hb, hc⟩ := h.2.2 j x hj
    refine ⟨b, off, ha, hb, ?_⟩
    have := hc 0 (.int .i64 x) (by simp [intE])
    simpa [intE] using this⟩
theorem IntsL.take {w : World} {a : Option Addr} {n m : Nat} {xs : List Int} (h : IntsL w a n xs) (hm : m ≤ n) : IntsL w a m (xs.take m) :=
  IntsL.ofRd (h.rd.take hm) (fun x hx => h.bd x (List.mem_of_mem_take hx))
theorem run_sl_fromI (a : Option Addr) (n c k : Nat) (hk : k ≤ n) (hn : n ≤ c) (w : World) :
    (Instr.slice 22 (.slice a n c) (some (.int .i64 (k : Int))) none none).run Tryd.prog w = .ok (.slice (if c = k then a else a.map (·.add (k * 1))) (n - k) (c - k)) w := by
  have h1 : (0 : Int) ≤ (k : Int) ∧ (k : Int) ≤ (n : Int) := by omega
  simp [Instr.slice, Instr.sliceBounds, Instr.sliceBound, asIntOf, run_underlying Tryd.underlying22, h1, hk, Tryd.sizeOf3]
theorem IntsL.from {w : World} {a : Option Addr} {n c k : Nat} {l : List Int} (h : IntsL w a n l) (hk : k ≤ n) (hn : n ≤ c) : IntsL w (if c = k then a else a.map (·.add (k * 1))) (n - k) (l.drop k) := by
  refine ⟨by rw [List.length_drop, h.len], by have := h.most; omega, fun x hx => h.bd x (List.mem_of_mem_drop hx), fun j x hj => ?_⟩
  rw [List.getElem?_drop] at hj
  have hlt := get_lt hj
  rw [h.len] at hlt
  obtain ⟨b, off, rfl, hb, hc⟩ := h.cells (k + j) x hj
  rw [if_neg (by omega)]
  refine ⟨b, off + k, by simp [Addr.add], hb, ?_⟩
  rwa [show off + k + j = off + (k + j) from by omega]
theorem slice_fromI (a : Option Addr) (n c k : Nat) (hk : k ≤ n) (hn : n ≤ c) : ∃ a', (∀ w, (Instr.slice 22 (.slice a n c) (some (.int .i64 (k : Int))) none none).run Tryd.prog w = .ok (.slice a' (n - k) (c - k)) w) ∧
    (∀ w l, IntsL w a n l → IntsL w a' (n - k) (l.drop k)) ∧ ((∀ x, a = some x → x.spot = none) → ∀ x, a' = some x → x.spot = none) :=
  ⟨_, fun w => run_sl_fromI a n c k hk hn w, fun w l h => h.from hk hn, fun hs x hx => by
    split at hx
    · exact hs x hx
    · rw [Option.map_eq_some_iff] at hx
      obtain ⟨y, hy, rfl⟩ := hx
      have := hs y hy
      obtain ⟨b, o, sp⟩ := y
      subst this
      rw [Addr.add_lit]⟩
theorem run_append_zero (w : World) (base : Nat) (t ty e : TypeId) (i : TypeInfo) (size : Nat) (ht : Tryd.prog.underlying t = some (.slice e)) (hi : Tryd.prog.info? e = some i)
    (v : Value) (n : Nat) (xs : List Value) (hown : w.ownsRow base e size v n xs) (a : Option Addr) (c : Nat) : (Builtin.append_ #[t, t] ty #[v, .slice a 0 c]).run Tryd.prog w = .ok v w := by
  rcases hown.2 with ⟨rfl, rfl⟩ | ⟨g, cap, cur, rfl, _, _, hnc, _⟩
  · cases a <;> simp [Builtin.append_, run_underlying ht, sizeOf, typeInfo, hi, Builtin.lenOf, Builtin.firstCells, loadCells, loadCellsFrom]
  · cases a <;> simp [Builtin.append_, run_underlying ht, sizeOf, typeInfo, hi, Builtin.lenOf, Builtin.firstCells, hnc, storeCells, loadCells, loadCellsFrom]
theorem wpl_app0 {P : Program} {w : World} {ops : Array Oper} {rest : List Oper} {o : Oper} {a : Act} {Q : Exit → Act → World → Prop} (hgd : o.guard = none) (s x : Operand) (t : TypeId)
    (ho : o.op = .call { callee := .builtin .append, args := #[s, x], argTypes := #[t, t] }) (v u : Value) (hs : a.eval s = v) (hx : a.eval x = u)
    (hrun : ∀ w, (Builtin.append_ #[t, t] o.type #[v, u]).run P w = .ok v w) (h : wpList P ops Q rest (a.put o.dst v) w) : wpList P ops Q (o :: rest) a w := by
  refine wpList_plain hgd fun K hK => ?_
  unfold Oper.wp
  simp [execOp, ho, resolve, invoke, builtin, hs, hx, hrun, Result.andThen]
  exact hK _ _ h
set_option maxHeartbeats 1000000 in
theorem ints_any (a : Option Addr) (n c m : Nat) (xs : List Int) (w : World) (h : IntsL w a n xs) (hc : n ≤ c) (hc2 : c ≤ 9223372036854775807) (hm : m ≤ 1000) :
    Calls Tryd.prog 28 #[.slice a n c, .int .i64 m] w fun e w' => ∃ a' c', e = .returned (.slice a' (xs.take m).length c') ∧ IntsL w' a' (xs.take m).length (xs.take m) ∧ Frm noB w w' := by
  obtain ⟨i, hi, hz, hz1, hz2⟩ := info_parts info_int
  by_cases hn0 : n = 0
  · subst hn0
    have hx0 : xs = [] := List.eq_nil_of_length_eq_zero h.len
    subst hx0
    have hmin : min (0 : Int) (m : Int) = 0 := by omega
    have hap := fun w => run_append_zero w w.heap.size 22 22 3 i 1 Tryd.underlying22 hi (.slice none 0 0) 0 [] (World.ownsRow_nil _ _ _ _) a c
    have i2 : (0 : Int) ≤ (c : Int) := by omega
    have Hh := Lib.hid h
    have Hap := Lib.hid hap
    clear h hap
    clear hi hz hz1 hz2
    go_enter Tryd.func28, Tryd.ntmps28
    go_wp2_with (at_builtin; refine wpl_app0 (by rfl) _ _ _ (by rfl) (.slice none 0 0) (.slice a 0 c) (by rfl) (by rfl) Hap.out ?_)
    go_ret
    exact ⟨none, 0, by simp, ⟨by simp, by simp, by simp, by simp⟩, Frm.refl _ _⟩
  have hsp : ∀ x, a = some x → x.spot = none := fun x hx => by
    obtain ⟨y, hy⟩ := get_of_lt (l := xs) (j := 0) (by rw [h.len]; omega)
    obtain ⟨b, off, rfl, _⟩ := h.cells 0 y hy
    simp at hx; subst hx; rfl
  obtain ⟨k, hk⟩ : ∃ k, k = min n m := ⟨_, rfl⟩
  have hmin : min (n : Int) (m : Int) = (k : Int) := by omega
  have hkn : k ≤ n := by omega
  have i1 : (0 : Int) ≤ (k : Int) := by omega
  have i2 : (k : Int) ≤ (c : Int) := by omega
  have i3 : k ≤ c := by omega
  have htk := h.take hkn
  have hxt : xs.take k = xs.take m := by
    rcases Nat.le_total n m with h1 | h1
    · rw [List.take_of_length_le (by rw [h.len]; omega), List.take_of_length_le (by rw [h.len]; omega)]
    · rw [show k = m from by omega]
  have hmm : ([] : List Int).length + k ≤ 1000000 := by simp; omega
  have hrd := htk.rd
  rw [hxt] at hrd htk
  have Hh := Lib.hid h
  have Hk := Lib.hid hk
  have Htk := Lib.hid htk
  have Hrd := Lib.hid hrd
  have Hxt := Lib.hid hxt
  have Hsp := Lib.hid hsp
  have Hmm := Lib.hid hmm
  clear h hk htk hrd hxt hsp hmm
  go_enter Tryd.func28, Tryd.ntmps28
  go_wp2_with (at_builtin; refine wpl_appR intE _ (by rfl) _ _ _ (by rfl) w.heap.size 3 i _ 8 Tryd.underlying22 hi hz hz1 hz2 rfl (by decide) (by omega) (.slice none 0 0) [] (by rfl) (Own.nil _ _ _ _) a k c (xs.take m) (by rfl) Hrd.out Hsp.out Hmm.out (Nat.le_refl _) ?_)
  intro v1 w1 ho1 hf1 _
  have hf2 : Frm noB w w1 := hf1.mono (fun i _ hh => by simp [Value.ownBlock] at hh)
  obtain ⟨a', c', rfl, hr⟩ := ho1.rd
  have hri := IntsL.ofRd hr (fun x hx => Hh.out.bd x (List.mem_of_mem_take hx))
  have Ho1 := Lib.hid ho1
  have Hf2 := Lib.hid hf2
  have Hr := Lib.hid hr
  have Hri := Lib.hid hri
  clear ho1 hf2 hr hri
  clear hf1 hi hz hz1 hz2
  go_wp2_with fail
  go_ret
  exact ⟨_, _, rfl, Hri.out, Hf2.out⟩
theorem rule_res (tmps : Array Value) (w : World) (B : Nat) (cs : Array Value) (T : TypeId) (h : tmps[2]?.getD undef = .pointer (some ⟨B, 0, none⟩)) (hB : Blk w B cs T) (hs : cs.size = 19) :
    (results Tryd.f10 tmps).run Tryd.prog w = .ok (.agg cs) w := by
  have hl := run_loadVar_mid (P := Tryd.prog) w B 0 35 cs.toList _ (fun j v hv => by rw [Nat.zero_add, hB.cell]; simpa using hv) Tryd.underlying35 rfl (by rw [Array.length_toList, hs]; exact info_rule)
  simp only [Array.toArray_toList] at hl
  simp [results, Tryd.results10, asAddr, h, hl]
end Go.Proofs.YtbeilgkogbcjjaaDoor
