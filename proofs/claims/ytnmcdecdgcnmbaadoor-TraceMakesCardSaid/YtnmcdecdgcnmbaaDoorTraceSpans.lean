/- Spans of both sides, Note and Same of the reference. -/
import Derived.Test.YtnmcdecdgcnmbaaDoorTraceLog
import Derived.Test.YtnmcdecdgcnmbaaDoorTraceRef
import Derived.Test.YtnmcdecdgcnmbaaDoorSpanClone
set_option linter.unusedVariables false
namespace Go.Proofs.YtnmcdecdgcnmbaaDoor
open Go.RowKit

theorem LogIs.own {w : World} {b : Nat} {L : List Spn} {O : Nat → Prop} (h : LogIs w b L O) (r : Int) (hr : (Lit.int .i64 r).wf = true) :
    ∃ mo v, (∃ c0, w.cell? ⟨b, 0, none⟩ = some c0) ∧ w.cell? ⟨b, 1, none⟩ = some (.map mo) ∧ b < w.heap.size ∧ Own spnE w 0 37 v (ownL L r) ∧
      ∀ w', Frm noB w w' → (Instr.lookup 31 (.map mo) (.int .i64 r) false).run Tryd.prog w' = .ok v w' := by
  have hk := Maps.keyOf_int_mk Tryd.underlying3 hr
  rcases h with ⟨h1, h2, h3, h4⟩ | ⟨m1, m2, rows, h⟩
  · subst h1
    exact ⟨none, .slice none 0 0, ⟨_, h2.cell 0⟩, h2.cell 1, h2.lt, Own.nil _ _ _ _, fun w' _ => Maps.look_nil false keyI Tryd.underlying31 (zeroSl w') hk⟩
  · obtain ⟨sz, hs⟩ := h.spans
    refine ⟨some m2, rows r, ⟨_, h.blk.cell 0⟩, h.blk.cell 1, h.blk.lt, h.row r, fun w' hf => ?_⟩
    have := (hs.frm hf (fun h => h)).look (t := 31) keyI Tryd.underlying31 (zeroSl w') hk
    rw [spansF_getD h.none] at this
    exact this
theorem ownL_len (L : List Spn) (r : Int) : (ownL L r).length ≤ L.length := List.length_filter_le _ _
set_option maxHeartbeats 400000 in
theorem spans_any (b : Nat) (L : List Spn) (O : Nat → Prop) (r : Int) (w : World) (h : LogIs w b L O) (hL : L.length ≤ 1000) (hr : (Lit.int .i64 r).wf = true) :
    Calls Tryd.prog 14 #[.pointer (some ⟨b, 0, none⟩), .int .i64 r] w fun e w' => ∃ v, e = .returned v ∧ Own spnE w' w.heap.size 37 v (ownL L r) ∧ Frm noB w w' := by
  obtain ⟨mo, v, ⟨c0, hc0⟩, hc1, hlt, hown, hlk⟩ := h.own r hr
  have hl0 := hlk w (Frm.refl _ _)
  have hol := ownL_len L r
  have Hh := Lib.hid h
  have Hown := Lib.hid hown
  have Hlk := Lib.hid hlk
  have Hol := Lib.hid hol
  clear h hown hlk hol
  go_enter Tryd.func14, Tryd.ntmps14
  go_wp2_with fail
  refine (clone_spn v (ownL L r) _ 0 (by have := Hol.out; omega) Hown.out).mono ?_
  rintro e w1 ⟨v', rfl, ho, hf⟩
  have Ho := Lib.hid ho
  have Hf := Lib.hid hf
  clear ho hf
  go_wp2_with fail
  go_ret
  exact ⟨v', rfl, Ho.out, Hf.out⟩

def RefNote (base : Nat) (v : Value) (L : List Spn) (s : Spn) (w : World) (e : Ending) (w' : World) : Prop :=
  ∃ v', e = .returned (.tuple #[v', .int .i64 (noteE L s)]) ∧ Own spnE w' base 37 v' (noteL L s) ∧ Frm (fun i => some i = v.ownBlock) w w' ∧ (v'.ownBlock = v.ownBlock ∨ ∃ g, v'.ownBlock = some g ∧ w.heap.size ≤ g)
theorem readT_A {l : List UInt8} : (readA l == 0) = !readT l := by
  unfold readA readT
  cases h : readL l with
  | none => rfl
  | some p =>
    obtain ⟨r, t⟩ := p
    have := readL_pos h
    cases t
    · rfl
    · simp only [Bool.not_true, beq_eq_false_iff_ne, ne_eq]; omega
theorem isIn_take {L : List Spn} {s : Spn} {k : Nat} {x : Spn} (hk : L[k]? = some x) (hb : isIn (L.take k) s = false) : isIn (L.take (k + 1)) s = decide (x.name = s.name) := by
  unfold isIn at *
  rw [List.take_add_one, hk, List.any_append, hb]
  simp only [Option.toList, List.any_cons, List.any_nil, Bool.or_false, Bool.false_or]
  by_cases h : x.name = s.name
  · rw [decide_eq_true h]
    unfold nameK; rw [h]; exact WideAt.sameKey_self trivial
  · rw [decide_eq_false h]
    cases hs : (nameK s).sameKey (nameK x)
    · rfl
    · have := WideAt.sameKey_eq hs
      unfold nameK at this
      simp only [Lit.string.injEq] at this
      exact absurd (ByteArray.ext (Array.toList_inj.1 this.symm)) h
theorem isIn_mono {L : List Spn} {s : Spn} {k : Nat} (h : isIn (L.take k) s = true) : isIn L s = true := by
  unfold isIn at *
  rw [List.any_eq_true] at *
  obtain ⟨x, hx, hh⟩ := h
  exact ⟨x, List.mem_of_mem_take hx, hh⟩

end Go.Proofs.YtnmcdecdgcnmbaaDoor
