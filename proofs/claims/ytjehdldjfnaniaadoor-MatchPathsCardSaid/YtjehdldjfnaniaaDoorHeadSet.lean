/- set of the reference. -/
import Derived.Test.YtjehdldjfnaniaaDoorHeadCheck
import Derived.Outline
set_option linter.unusedVariables false
namespace Go.Proofs.YtjehdldjfnaniaaDoor
open Go.RowKit

def putL (l : List Hd) (h : Hd) : List Hd := l.map fun x => if x.name = h.name then h else x
def setL (l : List Hd) (h : Hd) : List Hd := if hasN l h.name then putL l h else if l.length < 8 then l ++ [h] else l
theorem putL_len (l : List Hd) (h : Hd) : (putL l h).length = l.length := by simp [putL]
theorem setL_len (l : List Hd) (h : Hd) : (setL l h).length ≤ l.length + 1 ∧ (l.length ≤ 8 → (setL l h).length ≤ 8) := by
  unfold setL
  split
  · rw [putL_len]; omega
  · split
    · simp; omega
    · omega
theorem putL_snoc {l : List Hd} {k : Nat} {x : Hd} (hx : l[k]? = some x) (h : Hd) : putL (l.take (k + 1)) h = putL (l.take k) h ++ [if x.name = h.name then h else x] := by
  unfold putL
  rw [List.take_add_one, hx, List.map_append]; rfl

theorem putL_none {l : List Hd} {h : Hd} (hh : hasN l h.name = false) : putL l h = l := by
  unfold putL
  conv => rhs; rw [← List.map_id l]
  refine List.map_congr_left fun x hx => ?_
  rw [if_neg]; rfl
  intro e
  have := (hasN_iff l h.name).2 ⟨x, hx, e⟩
  rw [this] at hh; simp at hh

set_option maxHeartbeats 2000000 in
theorem set_any (v : Value) (l : List Hd) (h : Hd) (base : Nat) (w : World) (hl : Own hdE w base 36 v l) (hs : l.length ≤ 1000) :
    Calls Tryd.prog 29 #[v, .agg #[.string h.name, .string h.val]] w fun e w' => ∃ v', e = .returned v' ∧ Own hdE w' w.heap.size 36 v' (setL l h) ∧ Frm noB w w' := by
  obtain ⟨nm, vl⟩ := h
  simp only
  have hrow := hl.keep ((Frm.refl noB w).alloc (.cells #[.string nm, .string vl] 36))
  have hbx := Blk.made w #[.string nm, .string vl] 36
  obtain ⟨a, c, rfl, hl1, hg⟩ := hl.shape
  obtain ⟨n, hn⟩ : ∃ n, n = l.length := ⟨_, rfl⟩
  rw [← hn] at hl1 hg hl hrow hs ⊢
  have Hl := Lib.hid hl
  have Hrow := Lib.hid hrow
  have Hbx := Lib.hid hbx
  have Hn := Lib.hid hn
  have Hg := Lib.hid hg
  clear hl hrow hbx hn hg
  go_enter Tryd.func29, Tryd.ntmps29
  go_wp2_with fail
  go_loopw [5, 6, 7] (fun o b i wr => ∃ k : Nat, k ≤ n ∧ i = .int .i64 k ∧ b = .bool (hasN (l.take k) nm) ∧ Own hdE wr (w.heap.size + 1) 36 o (putL (l.take k) ⟨nm, vl⟩) ∧ Frm noB (w.alloc (.cells #[.string nm, .string vl] 36)) wr) (fun _ _ i _ => n - (intOf i).toNat)
  case atStart => exact ⟨0, by omega, rfl, rfl, Own.nil _ _ _ _, Frm.refl _ _⟩
  case round =>
    obtain ⟨k, hk, rfl, rfl, ho, hf⟩ := hrel
    by_cases hlt : k < n
    · obtain ⟨x, hx⟩ := get_of_lt (l := l) (j := k) (by rw [← Hn.out]; exact hlt)
      obtain ⟨g, rfl, _, _⟩ := Hg.out (by omega)
      have hrow1 := Hrow.out.keep hf
      obtain ⟨c0, c1⟩ := hd_cells hrow1 hx
      have hgl := World.block_lt_of_cell? wr ⟨g, k * 2, none⟩ c0
      have hb1 := Hbx.out.frm hf (fun h => h)
      have b0 := (hb1.cell 0).trans (show _ = some (Value.string nm) from rfl)
      have b1 := (hb1.cell 1).trans (show _ = some (Value.string vl) from rfl)
      have bl := hb1.lt
      have hps := putL_snoc hx ⟨nm, vl⟩
      have hhs := hasN_snoc hx nm
      have hol : (putL (l.take k) ⟨nm, vl⟩).length ≤ 1000000 := by rw [putL_len, List.length_take]; omega
      have hwz : w.heap.size + 1 ≤ wr.heap.size := by have := hf.size; simp at this; omega
      generalize hasN (l.take k) nm = hb at *
      by_cases hq : x.name = nm
      · have hst := str_yes hq
        rw [if_pos hq] at hps
        rw [decide_eq_true hq, Bool.or_true] at hhs
        have Ho := Lib.hid ho
        have Hf := Lib.hid hf
        have Hrow1 := Lib.hid hrow1
        have Hb1 := Lib.hid hb1
        have Hps := Lib.hid hps
        have Hhs := Lib.hid hhs
        have Hx := Lib.hid hx
        have Hq := Lib.hid hq
        have Hol := Lib.hid hol
        have Hwz := Lib.hid hwz
        clear ho hf hrow1 hb1 hps hhs hx hq hol hwz
        go_wp2_with fail
        go_quiet (fail)
        go_wp2_with (at_builtin; refine app_hd _ (by rfl) _ _ (by rfl) (w.heap.size + 1) _ (putL (l.take k) ⟨nm, vl⟩) (by rfl) (Ho.out.keep ((Frm.refl noB _).drewN _)) ⟨nm, vl⟩ _ (by rfl) _ rfl (by rfl) Hol.out Hwz.out ?_)
        intro o2 w2 ho2 _ hf2 _ _
        have hf3 := Hf.out.new (((Frm.refl _ wr).drewN _).trans hf2) (fun i hi hh => by have := (Ho.out.lt i hh.symm).1; simp at hi; omega)
        have Ho2 := Lib.hid ho2
        have Hf3 := Lib.hid hf3
        clear ho2 hf3
        clear hf2
        go_wp2_with fail
        go_roundw
        case rel => exact ⟨k + 1, by omega, by go_num, by rw [Hhs.out], by rw [Hps.out]; exact Ho2.out, Hf3.out⟩
        case measure => simp [intOf]; omega
      · have hst := str_ne hq
        rw [if_neg hq] at hps
        rw [decide_eq_false hq, Bool.or_false] at hhs
        have Ho := Lib.hid ho
        have Hf := Lib.hid hf
        have Hrow1 := Lib.hid hrow1
        have Hb1 := Lib.hid hb1
        have Hps := Lib.hid hps
        have Hhs := Lib.hid hhs
        have Hx := Lib.hid hx
        have Hq := Lib.hid hq
        have Hol := Lib.hid hol
        have Hwz := Lib.hid hwz
        clear ho hf hrow1 hb1 hps hhs hx hq hol hwz
        go_wp2_with fail
        go_quiet (fail)
        go_wp2_with (at_builtin; refine app_hd _ (by rfl) _ _ (by rfl) (w.heap.size + 1) _ (putL (l.take k) ⟨nm, vl⟩) (by rfl) (Ho.out.keep ((Frm.refl noB _).drewN _)) x _ (by rfl) _ rfl (by rfl) Hol.out Hwz.out ?_)
        intro o2 w2 ho2 _ hf2 _ _
        have hf3 := Hf.out.new (((Frm.refl _ wr).drewN _).trans hf2) (fun i hi hh => by have := (Ho.out.lt i hh.symm).1; simp at hi; omega)
        have Ho2 := Lib.hid ho2
        have Hf3 := Lib.hid hf3
        clear ho2 hf3
        clear hf2
        go_wp2_with fail
        go_roundw
        case rel => exact ⟨k + 1, by omega, by go_num, by rw [Hhs.out], by rw [Hps.out]; exact Ho2.out, Hf3.out⟩
        case measure => simp [intOf]; omega
    · obtain rfl : k = n := by omega
      rw [List.take_of_length_le (by rw [← Hn.out]; omega)] at ho ⊢
      have hb1 := Hbx.out.frm hf (fun h => h)
      have b0 := (hb1.cell 0).trans (show _ = some (Value.string nm) from rfl)
      have b1 := (hb1.cell 1).trans (show _ = some (Value.string vl) from rfl)
      have bl := hb1.lt
      have hwz : w.heap.size + 1 ≤ wr.heap.size := by have := hf.size; simp at this; omega
      have hfw : Frm noB w wr := ((Frm.refl _ _).alloc _).trans hf
      have hpl : (putL l ⟨nm, vl⟩).length = k := by rw [putL_len, ← Hn.out]
      obtain ⟨oa, oc, rfl, hol, _⟩ := ho.shape
      rw [hpl] at ho ⊢
      have hol6 : (putL l ⟨nm, vl⟩).length ≤ 1000000 := by omega
      cases hhb : hasN l nm
      · by_cases h8 : k < 8
        · have hse : setL l ⟨nm, vl⟩ = l ++ [⟨nm, vl⟩] := by unfold setL; rw [if_neg (by simp only; rw [hhb]; simp), if_pos (by rw [← Hn.out]; exact h8)]
          have hpu : putL l ⟨nm, vl⟩ = l := putL_none hhb
          have h8b : decide ((k : Int) < 8) = true := decide_eq_true (by omega)
          have Hse := Lib.hid hse
          have Hf := Lib.hid hf
          have Hb1 := Lib.hid hb1
          have Hwz := Lib.hid hwz
          have Hfw := Lib.hid hfw
          have Hpl := Lib.hid hpl
          have Hpu := Lib.hid hpu
          have Hhb := Lib.hid hhb
          have Hol6 := Lib.hid hol6
          have Hol := Lib.hid hol
          clear hse hf hb1 hwz hfw hpl hpu hhb hol6 hol
          go_wp2_with (at_builtin; refine app_hd _ (by rfl) _ _ (by rfl) (w.heap.size + 1) _ (putL l ⟨nm, vl⟩) (by rfl) ho ⟨nm, vl⟩ _ (by rfl) _ rfl (by rfl) Hol6.out Hwz.out ?_)
          intro o2 w2 ho2 _ hf2 _ _
          have hf3 := Hfw.out.new hf2 (fun i hi hh => by have := (ho.lt i hh.symm).1; omega)
          have Ho2 := Lib.hid ho2
          have Hf3 := Lib.hid hf3
          clear ho2 hf3
          clear hf2 ho
          go_wp2_with fail
          go_ret
          exact ⟨_, rfl, by rw [Hse.out]; have h := Ho2.out.base (Nat.le_succ _); rw [Hpu.out] at h; exact h, Hf3.out⟩
        · have hse : setL l ⟨nm, vl⟩ = putL l ⟨nm, vl⟩ := by unfold setL; rw [if_neg (by simp only; rw [hhb]; simp), if_neg (by rw [← Hn.out]; exact h8), putL_none hhb]
          have h8b : decide ((k : Int) < 8) = false := decide_eq_false (by omega)
          have Ho := Lib.hid ho
          have Hse := Lib.hid hse
          have Hf := Lib.hid hf
          have Hb1 := Lib.hid hb1
          have Hwz := Lib.hid hwz
          have Hfw := Lib.hid hfw
          have Hpl := Lib.hid hpl
          have Hhb := Lib.hid hhb
          have Hol6 := Lib.hid hol6
          have Hol := Lib.hid hol
          clear ho hse hf hb1 hwz hfw hpl hhb hol6 hol
          go_wp2_with fail
          go_ret
          exact ⟨_, rfl, by rw [Hse.out]; have h := Ho.out.base (Nat.le_succ _); exact h, Hfw.out⟩
      · have hse : setL l ⟨nm, vl⟩ = putL l ⟨nm, vl⟩ := by unfold setL; rw [if_pos (by simpa using hhb)]
        have Ho := Lib.hid ho
        have Hse := Lib.hid hse
        have Hf := Lib.hid hf
        have Hb1 := Lib.hid hb1
        have Hwz := Lib.hid hwz
        have Hfw := Lib.hid hfw
        have Hpl := Lib.hid hpl
        have Hhb := Lib.hid hhb
        have Hol6 := Lib.hid hol6
        have Hol := Lib.hid hol
        clear ho hse hf hb1 hwz hfw hpl hhb hol6 hol
        go_wp2_with fail
        go_ret
        exact ⟨_, rfl, by rw [Hse.out]; have h := Ho.out.base (Nat.le_succ _); exact h, Hfw.out⟩
end Go.Proofs.YtjehdldjfnaniaaDoor
