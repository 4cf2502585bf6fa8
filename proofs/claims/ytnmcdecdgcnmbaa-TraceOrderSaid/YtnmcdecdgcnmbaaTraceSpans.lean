/- Spans of both sides, Note and Same of the reference. -/
import Derived.Test.YtnmcdecdgcnmbaaTraceLog
import Derived.Test.YtnmcdecdgcnmbaaTraceRef
import Derived.Test.YtnmcdecdgcnmbaaSpanClone
set_option linter.unusedVariables false
namespace Go.Proofs.Ytnmcdecdgcnmbaa
open Go.RowKit

theorem LogIs.own {w : World} {b : Nat} {L : List Spn} {O : Nat → Prop} (h : LogIs w b L O) (r : Int) (hr : (Lit.int .i64 r).wf = true) :
    ∃ mo v, (∃ c0, w.cell? ⟨b, 0, none⟩ = some c0) ∧ w.cell? ⟨b, 1, none⟩ = some (.map mo) ∧ b < w.heap.size ∧ Own spnE w 0 35 v (ownL L r) ∧
      ∀ w', Frm noB w w' → (Instr.lookup 27 (.map mo) (.int .i64 r) false).run Try.prog w' = .ok v w' := by
  have hk := Maps.keyOf_int_mk Try.underlying3 hr
  rcases h with ⟨h1, h2, h3, h4⟩ | ⟨m1, m2, rows, h⟩
  · subst h1
    exact ⟨none, .slice none 0 0, ⟨_, h2.cell 0⟩, h2.cell 1, h2.lt, Own.nil _ _ _ _, fun w' _ => Maps.look_nil false keyI Try.underlying27 (zeroSl w') hk⟩
  · obtain ⟨sz, hs⟩ := h.spans
    refine ⟨some m2, rows r, ⟨_, h.blk.cell 0⟩, h.blk.cell 1, h.blk.lt, h.row r, fun w' hf => ?_⟩
    have := (hs.frm hf (fun h => h)).look (t := 27) keyI Try.underlying27 (zeroSl w') hk
    rw [spansF_getD h.none] at this
    exact this
theorem ownL_len (L : List Spn) (r : Int) : (ownL L r).length ≤ L.length := List.length_filter_le _ _
set_option maxHeartbeats 400000 in
theorem spans_any (b : Nat) (L : List Spn) (O : Nat → Prop) (r : Int) (w : World) (h : LogIs w b L O) (hL : L.length ≤ 1000) (hr : (Lit.int .i64 r).wf = true) :
    Calls Try.prog 18 #[.pointer (some ⟨b, 0, none⟩), .int .i64 r] w fun e w' => ∃ v, e = .returned v ∧ Own spnE w' w.heap.size 35 v (ownL L r) ∧ Frm noB w w' := by
  obtain ⟨mo, v, ⟨c0, hc0⟩, hc1, hlt, hown, hlk⟩ := h.own r hr
  have hl0 := hlk w (Frm.refl _ _)
  have hol := ownL_len L r
  have Hh := Lib.hid h
  have Hown := Lib.hid hown
  have Hlk := Lib.hid hlk
  have Hol := Lib.hid hol
  clear h hown hlk hol
  go_enter Try.func18, Try.ntmps18
  go_wp2_with fail
  refine (clone_spn v (ownL L r) _ 0 (by have := Hol.out; omega) Hown.out).mono ?_
  rintro e w1 ⟨v', rfl, ho, hf⟩
  have Ho := Lib.hid ho
  have Hf := Lib.hid hf
  clear ho hf
  go_wp2_with fail
  go_ret
  exact ⟨v', rfl, Ho.out, Hf.out⟩

def RefNote (base : Nat) (v : Value) (L : List Spn) (s : Spn) (w : World) (e : Ending) (w' : World) : Prop :=
  ∃ v', e = .returned (.tuple #[v', .int .i64 (noteE L s)]) ∧ Own spnE w' base 35 v' (noteL L s) ∧ Frm (fun i => some i = v.ownBlock) w w' ∧ (v'.ownBlock = v.ownBlock ∨ ∃ g, v'.ownBlock = some g ∧ w.heap.size ≤ g)
theorem readT_A {l : List UInt8} : (readA l == 0) = !readT l := by
  unfold readA readT
  cases h : readL l with
  | none => rfl
  | some p =>
    obtain ⟨r, t⟩ := p
    have := readL_pos h
    cases t
    · rfl
    · simp only [Bool.not_true, beq_eq_false_iff_ne, ne_eq]; omega
theorem isIn_take {L : List Spn} {s : Spn} {k : Nat} {x : Spn} (hk : L[k]? = some x) (hb : isIn (L.take k) s = false) : isIn (L.take (k + 1)) s = decide (x.name = s.name) := by
  unfold isIn at *
  rw [List.take_add_one, hk, List.any_append, hb]
  simp only [Option.toList, List.any_cons, List.any_nil, Bool.or_false, Bool.false_or]
  by_cases h : x.name = s.name
  · rw [decide_eq_true h]
    unfold nameK; rw [h]; exact WideAt.sameKey_self trivial
  · rw [decide_eq_false h]
    cases hs : (nameK s).sameKey (nameK x)
    · rfl
    · have := WideAt.sameKey_eq hs
      unfold nameK at this
      simp only [Lit.string.injEq] at this
      exact absurd (ByteArray.ext (Array.toList_inj.1 this.symm)) h
theorem isIn_mono {L : List Spn} {s : Spn} {k : Nat} (h : isIn (L.take k) s = true) : isIn L s = true := by
  unfold isIn at *
  rw [List.any_eq_true] at *
  obtain ⟨x, hx, hh⟩ := h
  exact ⟨x, List.mem_of_mem_take hx, hh⟩

set_option maxHeartbeats 1000000 in
theorem ref_note (base : Nat) (v : Value) (L : List Spn) (nm : ByteArray) (s1 s2 s3 s5 : Int) (s4 : Bool) (w : World) (h : Own spnE w base 35 v L) (hL : L.length ≤ 1000) (hs : nm.size ≤ 1000000) (hb : base ≤ w.heap.size) :
    Calls Try.prog 11 #[v, .agg #[.string nm, .int .i64 s1, .int .i64 s2, .int .i64 s3, .bool s4, .int .i64 s5]] w (RefNote base v L ⟨nm, s1, s2, s3, s4, s5⟩ w) := by
  obtain ⟨a, c, rfl, hl, hg⟩ := h.shape
  have hra := readT_A (l := nm.data.toList)
  have hbx := Blk.made w #[.string nm, .int .i64 s1, .int .i64 s2, .int .i64 s3, .bool s4, .int .i64 s5] 35
  cases ht : readT nm.data.toList
  · have he : noteE L ⟨nm, s1, s2, s3, s4, s5⟩ = 7 ∧ noteL L ⟨nm, s1, s2, s3, s4, s5⟩ = L := by unfold noteE noteL; simp only; rw [ht]; exact ⟨rfl, rfl⟩
    rw [ht] at hra
    simp only [Bool.not_false] at hra
    have Hh := Lib.hid h
    have He := Lib.hid he
    have Ht := Lib.hid ht
    have Hg := Lib.hid hg
    have Hbx := Lib.hid hbx
    clear h he ht hg hbx
    go_enter Try.func11, Try.ntmps11
    go_wp2_with fail
    refine (ref_attempt nm _ hs).mono ?_
    rintro e w1 ⟨rfl, hf⟩
    have Hf := Lib.hid hf
    clear hf
    go_wp2_with fail
    go_ret2
    exact ⟨_, by rw [He.out.1]; rfl, by rw [He.out.2]; exact Hh.out.keep (((Frm.refl _ w).alloc _).trans Hf.out), (((Frm.refl noB w).alloc _).trans Hf.out).mono (fun _ _ h => h.elim), .inl rfl⟩
  · rw [ht] at hra
    simp only [Bool.not_true] at hra
    obtain ⟨n, hn⟩ : ∃ n, n = L.length := ⟨_, rfl⟩
    rw [← hn] at hl hg h hL ⊢
    have Hh := Lib.hid h
    have Ht := Lib.hid ht
    have Hg := Lib.hid hg
    have Hbx := Lib.hid hbx
    have Hn := Lib.hid hn
    clear h ht hg hbx hn
    go_enter Try.func11, Try.ntmps11
    go_wp2_with fail
    refine (ref_attempt nm _ hs).mono ?_
    rintro e w1 ⟨rfl, hf⟩
    have Hf := Lib.hid (((Frm.refl noB w).alloc (.cells #[.string nm, .int .i64 s1, .int .i64 s2, .int .i64 s3, .bool s4, .int .i64 s5] 35)).trans hf)
    have Hbx1 := Lib.hid (Hbx.out.frm hf (fun h => h))
    clear hf
    go_wp2_with fail
    go_loopw [4, 5, 6] (fun r1 r2 i wr => ∃ k : Nat, k ≤ n ∧ r1 = .slice none 0 0 ∧ r2 = .int .i64 0 ∧ i = .int .i64 k ∧ isIn (L.take k) ⟨nm, s1, s2, s3, s4, s5⟩ = false ∧ Frm noB w wr ∧ Blk wr w.heap.size #[.string nm, .int .i64 s1, .int .i64 s2, .int .i64 s3, .bool s4, .int .i64 s5] 35) (fun _ _ i _ => n - (intOf i).toNat)
    case atStart => exact ⟨0, by omega, rfl, rfl, rfl, rfl, Hf.out, Hbx1.out⟩
    case round =>
      obtain ⟨k, hk, rfl, rfl, rfl, hno, hfr, hbr⟩ := hrel
      have x0 := hbr.cell 0
      have x1 := hbr.cell 1
      have x2 := hbr.cell 2
      have x3 := hbr.cell 3
      have x4 := hbr.cell 4
      have x5 := hbr.cell 5
      have hlb := hbr.lt
      simp at x0 x1 x2 x3 x4 x5
      by_cases hlt : k < n
      · obtain ⟨x, hx⟩ := get_of_lt (l := L) (j := k) (by rw [← Hn.out]; exact hlt)
        obtain ⟨g, rfl, hg1, hg2⟩ := Hg.out (by omega)
        obtain ⟨c0, _⟩ := spn_cells (Hh.out.keep hfr) hx
        have hit := isIn_take (s := ⟨nm, s1, s2, s3, s4, s5⟩) hx hno
        simp only at hit
        by_cases hq : x.name = nm
        · have hst : (x.name.toList == nm.toList) = true := by rw [str_beq, hq]; exact decide_eq_true rfl
          have hi : isIn L ⟨nm, s1, s2, s3, s4, s5⟩ = true := isIn_mono (k := k + 1) (by rw [hit, decide_eq_true hq])
          have he : noteE L ⟨nm, s1, s2, s3, s4, s5⟩ = 5 ∧ noteL L ⟨nm, s1, s2, s3, s4, s5⟩ = L := by unfold noteE noteL; simp only; rw [Ht.out, hi]; exact ⟨rfl, rfl⟩
          have Hno := Lib.hid hno
          have Hfr := Lib.hid hfr
          have Hbr := Lib.hid hbr
          have Hit := Lib.hid hit
          have Hi := Lib.hid hi
          have He := Lib.hid he
          have Hq := Lib.hid hq
          have Hx := Lib.hid hx
          clear hno hfr hbr hit hi he hq hx
          go_wp2_with fail
          go_quiet (fail)
          go_wp2_with fail
          go_ret2
          exact ⟨_, by rw [He.out.1]; rfl, by rw [He.out.2]; exact Hh.out.keep (Frm.drewN Hfr.out _), (Frm.drewN Hfr.out _).mono (fun _ _ h => h.elim), .inl rfl⟩
        · have hst : (x.name.toList == nm.toList) = false := by rw [str_beq]; exact decide_eq_false (fun e => hq (ByteArray.ext (Array.toList_inj.1 e)))
          rw [decide_eq_false hq] at hit
          have Hno := Lib.hid hno
          have Hfr := Lib.hid hfr
          have Hbr := Lib.hid hbr
          have Hit := Lib.hid hit
          have Hq := Lib.hid hq
          have Hx := Lib.hid hx
          clear hno hfr hbr hit hq hx
          go_wp2_with fail
          go_quiet (fail)
          go_wp2_with fail
          go_roundw
          case rel => exact ⟨k + 1, by omega, rfl, rfl, by go_num, Hit.out, Frm.drewN Hfr.out _, Hbr.out.frm (Frm.drewN (Frm.refl noB _) _) (fun h => h)⟩
          case measure => simp [intOf]; omega
      · obtain rfl : k = n := by omega
        have hi : isIn L ⟨nm, s1, s2, s3, s4, s5⟩ = false := by rw [List.take_of_length_le (by rw [← Hn.out]; exact Nat.le_refl _)] at hno; exact hno
        have he := noteE_new (s := ⟨nm, s1, s2, s3, s4, s5⟩) Ht.out hi
        have hsm : L.length ≤ 1000000 := by rw [← Hn.out]; omega
        have hbr2 : base ≤ wr.heap.size := Nat.le_trans hb hfr.size
        have hown : Own spnE wr base 35 (.slice a k c) L := by have h := Hh.out.keep hfr; exact h
        have hn2 := Hn.out
        have Hno := Lib.hid hno
        have Hfr := Lib.hid hfr
        have Hbr := Lib.hid hbr
        have Hi := Lib.hid hi
        have He := Lib.hid he
        have Hown := Lib.hid hown
        have Hn2 := Lib.hid hn2
        clear hno hfr hbr hi he hown hn2
        go_wp2_with (at_builtin; refine app_spn wr (by rfl) _ _ (by rfl) base _ L (by rfl) Hown.out ⟨nm, s1, s2, s3, s4, s5⟩ _ (by rfl) wr.heap.size rfl (by rfl) hsm hbr2 ?_)
        intro v' w2 ho hf1 hf2 hat hne
        have Ho := Lib.hid ho
        have Hf2 := Lib.hid ((Hfr.out.mono (fun _ _ h => h.elim)).trans hf2)
        have Hat := Lib.hid hat
        have hsz := Hfr.out.size
        clear ho hf1 hf2 hat hne
        go_wp2_with fail
        go_ret2
        exact ⟨v', by rw [He.out.1]; rfl, by rw [He.out.2]; exact Ho.out, Hf2.out, by
          rcases Hat.out with h | ⟨g, h1, h2, _⟩
          · exact .inl h
          · exact .inr ⟨g, h1, by omega⟩⟩
end Go.Proofs.Ytnmcdecdgcnmbaa
