/- within of the statements: is a name around another one? And taken: a collector behind spans. -/
import Derived.Test.YtpgcfeplcibhoaaDoorColRef
import Derived.Test.YtpgcfeplcibhoaaDoorColTake
import Derived.Test.YtpgcfeplcibhoaaDoorColNames
set_option linter.unusedVariables false
set_option linter.unusedSimpArgs false
namespace Go.Proofs.YtpgcfeplcibhoaaDoor
open Go.RowKit

def upsF (u : List UInt8) : List (List UInt8) := if u = [] then [] else u :: ups u
theorem ups_F (l : List UInt8) : ups l = upsF (upL l) := by
  unfold upsF
  by_cases h : upL l = []
  · rw [if_pos h, ups_nil h]
  · rw [if_neg h, ups_cons h]
theorem upsF_cons {u : List UInt8} (h : u ≠ []) : upsF u = u :: upsF (upL u) := by
  conv => lhs; unfold upsF
  rw [if_neg h, ups_F]
def lenV (v : Value) : Nat := match v with | .string x => x.size | _ => 0
attribute [irreducible] lenV
theorem lenV_bs (l : List UInt8) : lenV (.string (bs l)) = l.length := by unfold lenV; exact bs_size l
theorem bs_empty {u : List UInt8} (h : u = []) : (bs u).toList.isEmpty = true := by rw [bs_isEmpty, h]; rfl
theorem bs_full {u : List UInt8} (h : u ≠ []) : (bs u).toList.isEmpty = false := by
  rw [bs_isEmpty]
  cases u with
  | nil => exact absurd rfl h
  | cons => rfl
set_option maxHeartbeats 1000000 in
theorem within_any (s t : ByteArray) (w : World) (ht : t.size ≤ 1000000) :
    Calls Tryd.prog 29 #[.string s, .string t] w fun e w' => e = .returned (.bool (befL s.data.toList t.data.toList)) ∧ w = w' := by
  have hb0 : befL s.data.toList t.data.toList = (upsF (upL t.data.toList)).contains s.data.toList := by unfold befL; rw [ups_F]
  have hup0 := upL_le t.data.toList
  rw [ba_len] at hup0
  have Hb0 := Lib.hid hb0
  clear hb0
  go_enter Tryd.func29, Tryd.ntmps29
  go_wp2_with fail
  refine (rup_any t _ ht).mono ?_
  rintro e w' ⟨rfl, rfl⟩
  go_wp2_with fail
  obtain ⟨u0, hu0⟩ : ∃ u, u = upL t.data.toList := ⟨_, rfl⟩
  rw [← hu0] at hup0 ⊢
  have Hb0 := Lib.hid (show befL s.data.toList t.data.toList = (upsF u0).contains s.data.toList by rw [hu0]; exact Hb0.out)
  have Hup0 := Lib.hid (show u0.length ≤ 1000000 by omega)
  clear hu0 hup0
  go_loop [5] (fun x => ∃ u : List UInt8, x = .string (bs u) ∧ u.length ≤ 1000000 ∧ befL s.data.toList t.data.toList = (upsF u).contains s.data.toList) (fun x => lenV x)
  case atStart => exact ⟨u0, rfl, Hup0.out, Hb0.out⟩
  case round =>
    obtain ⟨u, rfl, hul, hb⟩ := hrel
    by_cases hu : u = []
    · have he := bs_empty hu
      have hb2 : befL s.data.toList t.data.toList = false := by rw [hb, hu]; rfl
      have Hb := Lib.hid hb
      have Hb2 := Lib.hid hb2
      have Hu := Lib.hid hu
      have Hul := Lib.hid hul
      clear hb hb2 hu hul
      go_wp2_with fail
      go_ret
      exact ⟨by rw [Hb2.out]; rfl, rfl⟩
    · have he := bs_full hu
      rw [upsF_cons hu, List.contains_cons] at hb
      by_cases hq : bs u = s
      · have hst := str_yes hq
        have hus : s.data.toList = u := by rw [← hq]; rfl
        have hb2 : befL s.data.toList t.data.toList = true := by rw [hb, hus]; simp
        have Hb := Lib.hid hb
        have Hb2 := Lib.hid hb2
        have Hu := Lib.hid hu
        have Hul := Lib.hid hul
        have Hq := Lib.hid hq
        have Hus := Lib.hid hus
        clear hb hb2 hu hul hq hus
        go_wp2_with fail
        go_ret
        exact ⟨by rw [Hb2.out]; rfl, rfl⟩
      · have hst := str_ne hq
        have hne : (s.data.toList == u) = false := by
          rw [beq_eq_false_iff_ne]
          intro e
          exact hq (by rw [← e]; rfl)
        rw [hne, Bool.false_or] at hb
        have hlt := upL_le u
        have hsz : (bs u).size ≤ 1000000 := by rw [bs_size]; exact hul
        have hl2 : (upL u).length < u.length := by
          by_cases h0 : upL u = []
          · rw [h0]
            cases u with
            | nil => exact absurd rfl hu
            | cons => simp
          · exact upL_len h0
        have Hb := Lib.hid hb
        have Hu := Lib.hid hu
        have Hul := Lib.hid hul
        have Hq := Lib.hid hq
        have Hne := Lib.hid hne
        have Hlt := Lib.hid hlt
        have Hl2 := Lib.hid hl2
        clear hb hu hul hq hne hlt hl2
        go_wp2_with (go_at_call 27; refine (rup_any (bs u) _ hsz).mono ?_; rintro e w' ⟨rfl, rfl⟩)
        go_round
        case rel => exact ⟨upL u, rfl, by have := Hlt.out; have := Hul.out; omega, Hb.out⟩
        case measure => rw [lenV_bs, lenV_bs]; exact Hl2.out
set_option maxRecDepth 100000 in
set_option maxHeartbeats 1000000 in
theorem taken_any (base : Nat) (v : Value) (L : List Spn) (w : World) (h : Own spnE w base 30 v L) (hL : L.length ≤ 1000) (hN : ∀ s ∈ L, s.name.size ≤ 1000) :
    Calls Tryd.prog 22 #[v] w fun e w' => ∃ b O, e = .returned (.pointer (some ⟨b, 0, none⟩)) ∧ ColIs w' b (L.foldl takeL []) L.length O ∧ Frm noB w w' ∧ ∀ i, O i → w.heap.size ≤ i := by
  obtain ⟨n, hn⟩ : ∃ n, n = L.length := ⟨_, rfl⟩
  obtain ⟨a, c, hv, _, hg⟩ := h.shape
  rw [← hn] at hv hg hL ⊢
  subst hv
  have Hn := Lib.hid hn
  have Hg := Lib.hid hg
  have Hh := Lib.hid h
  have HN := Lib.hid hN
  clear hn hg h hN
  go_enter Tryd.func22, Tryd.ntmps22
  go_wp2_with fail
  refine (cnew_any _).mono ?_
  rintro e w1 ⟨b, O0, rfl, hc0, hf0, ho0⟩
  have Hc0 := Lib.hid hc0
  have Hf0 := Lib.hid hf0
  have Ho0 := Lib.hid ho0
  clear hc0 hf0 ho0
  go_wp2_with fail
  go_loopw [4] (fun i wr => ∃ (k : Nat) (O : Nat → Prop), k ≤ n ∧ i = .int .i64 k ∧ ColIs wr b ((L.take k).foldl takeL []) k O ∧ Frm noB w wr ∧ ∀ i, O i → w.heap.size ≤ i) (fun i _ => n - (intOf i).toNat)
  case atStart => exact ⟨0, O0, by omega, rfl, Hc0.out, Hf0.out, Ho0.out⟩
  case round =>
    obtain ⟨k, O, hk, rfl, hc, hf, ho⟩ := hrel
    by_cases hlt : k < n
    · obtain ⟨x, hx⟩ := get_of_lt (l := L) (j := k) (by rw [← Hn.out]; exact hlt)
      obtain ⟨g, rfl, hg1, hg2⟩ := Hg.out (by omega)
      have hxs := HN.out x (List.mem_of_getElem? hx)
      obtain ⟨c0, c1, c2, c3, c4, c5⟩ := spn_cells (Hh.out.keep hf) hx
      have hgw : g < wr.heap.size := Nat.lt_of_lt_of_le hg2 hf.size
      have hsn : (L.take (k + 1)).foldl takeL [] = takeL ((L.take k).foldl takeL []) x := by rw [List.take_add_one, hx, List.foldl_append]; rfl
      have hlen : ((L.take k).foldl takeL []).length ≤ 100000 := by
        have : ∀ (l M : List Spn), (l.foldl takeL M).length ≤ M.length + l.length := fun l => by
          induction l with
          | nil => intro M; simp
          | cons y l ih =>
            intro M
            have h1 := ih (takeL M y)
            have h2 : (takeL M y).length ≤ M.length + 1 := by unfold takeL; split <;> simp
            simp only [List.foldl_cons, List.length_cons]; omega
        have h1 := this (L.take k) []
        rw [List.length_take] at h1
        simp only [List.length_nil] at h1; omega
      obtain ⟨x0, x1, x2, x3, x4, x5⟩ := x
      simp only at c0 c1 c2 c3 c4 c5 hxs
      have htake := ctake_any b k _ O ⟨x0, x1, x2, x3, x4, x5⟩ wr hc (by omega) hlen (by show x0.size ≤ _; omega)
      rw [← hsn] at htake
      have Hc := Lib.hid hc
      have Hf := Lib.hid hf
      have Ho := Lib.hid ho
      have Hx := Lib.hid hx
      have Hsn := Lib.hid hsn
      have Hlen := Lib.hid hlen
      have Hxs := Lib.hid hxs
      have Htake := Lib.hid htake
      clear hc hf ho hx hsn hlen hxs htake
      go_wp2_with (go_at_call 13; refine Htake.out.mono ?_; rintro e w2 ⟨rfl, O', hc2, hf2, ho2⟩; have Hc2 := Lib.hid hc2; have Hf2 := Lib.hid (Hf.out.new hf2 (fun i hi e => by have := Ho.out i e; omega)); have Ho2 := Lib.hid (show ∀ i, O' i → w.heap.size ≤ i from fun i hi => by rcases ho2 i hi with e | e; exact Ho.out i e; exact Nat.le_trans Hf.out.size e); clear hc2 hf2 ho2)
      go_roundw
      case rel => exact ⟨k + 1, O', by omega, by go_num, Hc2.out, Hf2.out, Ho2.out⟩
      case measure => simp [intOf]; omega
    · obtain rfl : k = n := by omega
      have hall : (L.take k) = L := List.take_of_length_le (by rw [← Hn.out]; exact Nat.le_refl _)
      rw [hall] at hc
      have Hc := Lib.hid hc
      have Hf := Lib.hid hf
      have Ho := Lib.hid ho
      have Hall := Lib.hid hall
      clear hc hf ho hall
      go_wp2_with fail
      go_ret
      exact ⟨b, O, rfl, Hc.out, Hf.out, Ho.out⟩
end Go.Proofs.YtpgcfeplcibhoaaDoor
