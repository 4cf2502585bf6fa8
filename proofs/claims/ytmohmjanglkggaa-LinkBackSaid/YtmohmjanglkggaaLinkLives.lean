/- Link.End; the document's example. -/
import Derived.Test.YtmohmjanglkggaaLinkSend
import Derived.Test.YtmohmjanglkggaaSameInts
set_option linter.unusedVariables false
namespace Go.Proofs.Ytmohmjanglkggaa
open Go.RowKit

def endK (fs : List Flt) : Nat → Int
  | 0 => 0
  | k + 1 => max (endK fs k) (fs.getD k flt0).til
theorem endK_succ (fs : List Flt) (k : Nat) : endK fs (k + 1) = max (endK fs k) (fs.getD k flt0).til := rfl

set_option maxHeartbeats 1000000 in
theorem end_some (b base g cap n : Nat) (hop : Int) (fs : List Flt) (cs : List Int) (w : World) (h : Lnk w b base (.slice (some ⟨g, 0, none⟩) n cap) hop fs cs) (hn : fs.length = n) :
    Calls Try.prog 19 #[.pointer (some ⟨b, 0, none⟩)] w fun e w' => e = .returned (.int .i64 (endK fs fs.length)) ∧ Frm noB w w' := by
  have hb1 := h.blk.cell 1
  simp only [linkCells] at hb1
  simp at hb1
  have hn40 : n ≤ 40 := by have := h.few; omega
  have H := Lib.hid h
  have Hn := Lib.hid hn
  clear h hn
  go_enter Try.func19, Try.ntmps19
  go_wp2_with fail
  go_loopw [3, 11] (fun t i wr => ∃ k : Nat, k ≤ n ∧ i = .int .i64 k ∧ t = .int .i64 (endK fs k) ∧ Frm noB w wr) (fun _ i _ => n - (intOf i).toNat)
  case atStart => exact ⟨0, by omega, rfl, rfl, Frm.refl _ _⟩
  case round =>
    obtain ⟨k, hk, rfl, rfl, hf⟩ := hrel
    have Hf := Lib.hid hf
    clear hf
    by_cases hlt : k < n
    · obtain ⟨f, hfk⟩ := get_of_lt (l := fs) (j := k) (by rw [Hn.out]; exact hlt)
      have hfd : fs.getD k flt0 = f := by simp [List.getD, hfk]
      obtain ⟨e0, e1, e2, e3, e4, e5⟩ := fltCells_get fs k f hfk
      have hown := (H.out.frm Hf.out (fun h => h) (fun _ _ _ _ h => h)).own
      rw [Hn.out] at hown
      have c0 := (hown.cellAt (k * 6) (by omega)).trans e0
      have c1 := (hown.cellAt (k * 6 + 1) (by omega)).trans e1
      have c2 := (hown.cellAt (k * 6 + 2) (by omega)).trans e2
      have c3 := (hown.cellAt (k * 6 + 3) (by omega)).trans e3
      have c4 := (hown.cellAt (k * 6 + 4) (by omega)).trans e4
      have c5 := (hown.cellAt (k * 6 + 5) (by omega)).trans e5
      have hes := endK_succ fs k
      rw [hfd] at hes
      have Hes := Lib.hid hes
      clear hfk hfd e0 e1 e2 e3 e4 e5 hown hes
      generalize endK fs k = m at *
      by_cases hmx : m ≤ f.til
      · have he : Hid (endK fs (k + 1) = f.til) := Lib.hid (by rw [Hes.out]; omega)
        go_wp2
        all_goals
          go_roundw
          case rel => exact ⟨k + 1, by omega, by go_num, by rw [he.out]; congr 1; split <;> omega, Hf.out.alloc _⟩
          case measure => simp [intOf]; omega
      · have he : Hid (endK fs (k + 1) = m) := Lib.hid (by rw [Hes.out]; omega)
        go_wp2
        all_goals
          go_roundw
          case rel => exact ⟨k + 1, by omega, by go_num, by rw [he.out]; congr 1; split <;> omega, Hf.out.alloc _⟩
          case measure => simp [intOf]; omega
    · obtain rfl : k = n := by omega
      go_wp2
      go_ret
      exact ⟨by rw [Hn.out]; rfl, Hf.out⟩

theorem end_nil (b base : Nat) (a : Option Addr) (cap : Nat) (hop : Int) (cs : List Int) (w : World) (h : Lnk w b base (.slice a 0 cap) hop [] cs) :
    Calls Try.prog 19 #[.pointer (some ⟨b, 0, none⟩)] w fun e w' => e = .returned (.int .i64 (endK [] 0)) ∧ Frm noB w w' := by
  have hb1 := h.blk.cell 1
  simp only [linkCells] at hb1
  simp at hb1
  clear h
  go_enter Try.func19, Try.ntmps19
  go_wp2_with fail
  refine wp_loop_once ?_
  go_wp2
  go_ret
  exact ⟨rfl, Frm.refl _ _⟩

theorem end_any (b base : Nat) (v : Value) (hop : Int) (fs : List Flt) (cs : List Int) (w : World) (h : Lnk w b base v hop fs cs) :
    Calls Try.prog 19 #[.pointer (some ⟨b, 0, none⟩)] w fun e w' => e = .returned (.int .i64 (endK fs fs.length)) ∧ Frm noB w w' := by
  rcases h.own.2 with ⟨hv, h0⟩ | ⟨g, cap, cur, hv, h1, h2, h3, h4, h5, h6⟩
  · have : fs = [] := List.eq_nil_of_length_eq_zero h0
    subst this; subst hv
    exact end_nil b base none 0 hop cs w h
  · subst hv
    by_cases hn : fs.length = 0
    · have hf : fs = [] := List.eq_nil_of_length_eq_zero hn
      subst hf
      exact end_nil b base (some ⟨g, 0, none⟩) cap hop cs w h
    · exact end_some b base g cap fs.length hop fs cs w h rfl

def exF : List Flt := [⟨1, 5, 9, 0, 101, 2⟩]
def exC (k : Nat) : List Int := (k : Int) :: List.replicate 39 0
theorem ex1 : resS (goS 4 0 101 2 exF (exC 0) 1) = [6] ∧ cntL 4 0 101 exF (exC 0) 1 = exC 0 := by decide
theorem ex2 : resS (goS 5 0 101 2 exF (exC 0) 1) = [7] ∧ cntL 5 0 101 exF (exC 0) 1 = exC 1 := by decide
theorem ex3 : resS (goS 6 0 101 2 exF (exC 1) 1) = [] ∧ cntL 6 0 101 exF (exC 1) 1 = exC 2 := by decide
theorem ex4 : resS (goS 7 0 101 2 exF (exC 2) 1) = [9] ∧ cntL 7 0 101 exF (exC 2) 1 = exC 3 := by decide
theorem ex5 : resS (goS 9 0 101 2 exF (exC 3) 1) = [11] ∧ cntL 9 0 101 exF (exC 3) 1 = exC 3 := by decide
theorem ex6 : endK exF 1 = 9 := by decide
theorem exb : ∀ k : Fin 4, ∀ c ∈ exC k.val, 0 ≤ c ∧ c ≤ 1000000 := by decide

/-- Send, its answer and what is counted as numbers. -/
def Sent1 (w : World) (b base : Nat) (v : Value) (hop : Int) (fs : List Flt) (r : List Int) (cs : List Int) (e : Ending) (w' : World) : Prop :=
  ∃ (x : Value), e = .returned x ∧ w'.ownsRow w.heap.size 3 1 x r.length (i64s r) ∧ Lnk w' b base v hop fs cs ∧ Frm (oneB b) w w'
theorem ex_send (b base : Nat) (v : Value) (now : Int) (k k' : Nat) (r : List Int) (w : World) (hk : k < 4) (h : Lnk w b base v 2 exF (exC k)) (hn : 0 ≤ now ∧ now ≤ 100000)
    (hx : resS (goS now 0 101 2 exF (exC k) 1) = r ∧ cntL now 0 101 exF (exC k) 1 = exC k') :
    Calls Try.prog 14 #[.pointer (some ⟨b, 0, none⟩), .int .i64 now, .int .i64 0, .int .i64 101] w (Sent1 w b base v 2 exF r (exC k')) := by
  refine (send_any b base v 2 now 0 101 exF (exC k) w h hn (by decide) (exb ⟨k, hk⟩)).mono ?_
  rintro e w' ⟨x, rfl, h1, h2, h3⟩
  rw [show exF.length = 1 from rfl, hx.1] at h1
  rw [show exF.length = 1 from rfl, hx.2] at h2
  exact ⟨x, rfl, h1, h2, h3⟩

set_option maxHeartbeats 2000000 in
theorem lives_any (w : World) : Calls Try.prog 15 #[] w fun e w' => e = .returned (.bool true) ∧ Frm noB w w' := by
  have hnew := fun (w : World) => World.ownsRow_lit (base := w.heap.size) (e := 41) (size := 6) w #[.int .i64 1, .int .i64 5, .int .i64 9, .int .i64 0, .int .i64 101, .int .i64 2] 1 (Nat.le_refl _) (by decide) rfl
  have Hnew := Lib.hid hnew
  clear hnew
  go_enter Try.func15, Try.ntmps15
  go_wp2_with fail
  refine (new_link 2 w.heap.size 1 _ exF _ rfl (by decide) (Hnew.out w) ?_).mono ?_
  · intro f hf
    simp [exF] at hf
    subst hf
    constructor <;> decide
  rintro e w1 ⟨b, v, rfl, hb, hl, hf⟩
  have Hf0 := Lib.hid (((Frm.refl noB w).alloc (.cells #[.int .i64 1, .int .i64 5, .int .i64 9, .int .i64 0, .int .i64 101, .int .i64 2] 41)).trans hf)
  have HL0 : Hid (Lnk w1 b (w.heap.size + 1) v 2 exF (exC 0)) := Lib.hid (by rw [World.size_alloc] at hl; exact hl)
  have hbl : b < w1.heap.size := hl.blk.lt
  have hbw : w.heap.size + 1 ≤ b := by rw [World.size_alloc] at hb; exact hb
  clear hl hf hb
  go_wp2_with fail
  refine (ex_send b (w.heap.size + 1) v 4 0 0 [6] _ (by decide) HL0.out (by decide) ex1).mono ?_
  rintro e w2 ⟨x1, rfl, ho, hl, hf⟩
  have HL1 := Lib.hid hl
  have Ho1 := Lib.hid ho
  have Hf1 := Lib.hid (Hf0.out.new hf (fun i hi h => by simp only [oneB] at h; omega))
  have hs1 := hf.size
  clear ho hl hf
  go_wp2_with fail
  refine (ex_send b (w.heap.size + 1) v 5 0 1 [7] _ (by decide) HL1.out (by decide) ex2).mono ?_
  rintro e w3 ⟨x2, rfl, ho, hl, hf⟩
  have HL2 := Lib.hid hl
  have Ho2 := Lib.hid ho
  have Ho1' := Lib.hid (ownsRow_frm Ho1.out hf (by simp only [oneB]; intro i hi; omega))
  clear Ho1
  have Ho1 := Ho1'
  clear Ho1'
  have Hf2 := Lib.hid (Hf1.out.new hf (fun i hi h => by simp only [oneB] at h; omega))
  have hs2 := hf.size
  clear ho hl hf
  go_wp2_with fail
  refine (ex_send b (w.heap.size + 1) v 6 1 2 [] _ (by decide) HL2.out (by decide) ex3).mono ?_
  rintro e w4 ⟨x3, rfl, ho, hl, hf⟩
  have HL3 := Lib.hid hl
  have Ho3 := Lib.hid ho
  have Ho1' := Lib.hid (ownsRow_frm Ho1.out hf (by simp only [oneB]; intro i hi; omega))
  have Ho2' := Lib.hid (ownsRow_frm Ho2.out hf (by simp only [oneB]; intro i hi; omega))
  clear Ho1
  have Ho1 := Ho1'
  clear Ho1'
  clear Ho2
  have Ho2 := Ho2'
  clear Ho2'
  have Hf3 := Lib.hid (Hf2.out.new hf (fun i hi h => by simp only [oneB] at h; omega))
  have hs3 := hf.size
  clear ho hl hf
  go_wp2_with fail
  refine (ex_send b (w.heap.size + 1) v 7 2 3 [9] _ (by decide) HL3.out (by decide) ex4).mono ?_
  rintro e w5 ⟨x4, rfl, ho, hl, hf⟩
  have HL4 := Lib.hid hl
  have Ho4 := Lib.hid ho
  have Ho1' := Lib.hid (ownsRow_frm Ho1.out hf (by simp only [oneB]; intro i hi; omega))
  have Ho2' := Lib.hid (ownsRow_frm Ho2.out hf (by simp only [oneB]; intro i hi; omega))
  have Ho3' := Lib.hid (ownsRow_frm Ho3.out hf (by simp only [oneB]; intro i hi; omega))
  clear Ho1
  have Ho1 := Ho1'
  clear Ho1'
  clear Ho2
  have Ho2 := Ho2'
  clear Ho2'
  clear Ho3
  have Ho3 := Ho3'
  clear Ho3'
  have Hf4 := Lib.hid (Hf3.out.new hf (fun i hi h => by simp only [oneB] at h; omega))
  have hs4 := hf.size
  clear ho hl hf
  go_wp2_with fail
  refine (ex_send b (w.heap.size + 1) v 9 3 3 [11] _ (by decide) HL4.out (by decide) ex5).mono ?_
  rintro e w6 ⟨x5, rfl, ho, hl, hf⟩
  have HL5 := Lib.hid hl
  have Ho5 := Lib.hid ho
  have Ho1' := Lib.hid (ownsRow_frm Ho1.out hf (by simp only [oneB]; intro i hi; omega))
  have Ho2' := Lib.hid (ownsRow_frm Ho2.out hf (by simp only [oneB]; intro i hi; omega))
  have Ho3' := Lib.hid (ownsRow_frm Ho3.out hf (by simp only [oneB]; intro i hi; omega))
  have Ho4' := Lib.hid (ownsRow_frm Ho4.out hf (by simp only [oneB]; intro i hi; omega))
  clear Ho1
  have Ho1 := Ho1'
  clear Ho1'
  clear Ho2
  have Ho2 := Ho2'
  clear Ho2'
  clear Ho3
  have Ho3 := Ho3'
  clear Ho3'
  clear Ho4
  have Ho4 := Ho4'
  clear Ho4'
  have Hf5 := Lib.hid (Hf4.out.new hf (fun i hi h => by simp only [oneB] at h; omega))
  have hs5 := hf.size
  clear ho hl hf
  obtain ⟨a3, c3, hx3, _, _⟩ := ownsRow_ints Ho3.out
  subst hx3
  clear Ho3
  go_wp2_with fail
  refine (sameInts_own (Ho1.out.alloc _) (show (w6.alloc (.cells #[.int .i64 6] 3)).ownsRow w6.heap.size 3 1 (.slice (some ⟨w6.heap.size, 0, none⟩) 1 1) 1 (i64s [6]) from World.ownsRow_lit w6 #[.int .i64 6] 1 (Nat.le_refl _) (by decide) rfl)).mono ?_
  rintro e w7 ⟨rfl, hf⟩
  rw [show sameL [6] [6] = true from by decide]
  have Ho2' := Lib.hid (ownsRow_frm (Ho2.out.alloc (.cells #[.int .i64 6] 3)) hf (fun _ _ h => h))
  clear Ho2
  have Ho2 := Ho2'
  clear Ho2'
  have Ho4' := Lib.hid (ownsRow_frm (Ho4.out.alloc (.cells #[.int .i64 6] 3)) hf (fun _ _ h => h))
  clear Ho4
  have Ho4 := Ho4'
  clear Ho4'
  have Ho5' := Lib.hid (ownsRow_frm (Ho5.out.alloc (.cells #[.int .i64 6] 3)) hf (fun _ _ h => h))
  clear Ho5
  have Ho5 := Ho5'
  clear Ho5'
  have HL6 := Lib.hid (HL5.out.frm (((Frm.refl noB w6).alloc (.cells #[.int .i64 6] 3)).trans hf) (fun h => h) (fun _ _ _ _ h => h))
  have Hf6 := Lib.hid ((Hf5.out.alloc (.cells #[.int .i64 6] 3)).trans hf)
  clear hf
  go_wp2_with fail
  refine (sameInts_own (Ho2.out.alloc _) (show (w7.alloc (.cells #[.int .i64 7] 3)).ownsRow w7.heap.size 3 1 (.slice (some ⟨w7.heap.size, 0, none⟩) 1 1) 1 (i64s [7]) from World.ownsRow_lit w7 #[.int .i64 7] 1 (Nat.le_refl _) (by decide) rfl)).mono ?_
  rintro e w8 ⟨rfl, hf⟩
  rw [show sameL [7] [7] = true from by decide]
  have Ho4' := Lib.hid (ownsRow_frm (Ho4.out.alloc (.cells #[.int .i64 7] 3)) hf (fun _ _ h => h))
  clear Ho4
  have Ho4 := Ho4'
  clear Ho4'
  have Ho5' := Lib.hid (ownsRow_frm (Ho5.out.alloc (.cells #[.int .i64 7] 3)) hf (fun _ _ h => h))
  clear Ho5
  have Ho5 := Ho5'
  clear Ho5'
  have HL7 := Lib.hid (HL6.out.frm (((Frm.refl noB w7).alloc (.cells #[.int .i64 7] 3)).trans hf) (fun h => h) (fun _ _ _ _ h => h))
  have Hf7 := Lib.hid ((Hf6.out.alloc (.cells #[.int .i64 7] 3)).trans hf)
  clear hf
  go_wp2_with fail
  refine (sameInts_own (Ho4.out.alloc _) (show (w8.alloc (.cells #[.int .i64 9] 3)).ownsRow w8.heap.size 3 1 (.slice (some ⟨w8.heap.size, 0, none⟩) 1 1) 1 (i64s [9]) from World.ownsRow_lit w8 #[.int .i64 9] 1 (Nat.le_refl _) (by decide) rfl)).mono ?_
  rintro e w9 ⟨rfl, hf⟩
  rw [show sameL [9] [9] = true from by decide]
  have Ho5' := Lib.hid (ownsRow_frm (Ho5.out.alloc (.cells #[.int .i64 9] 3)) hf (fun _ _ h => h))
  clear Ho5
  have Ho5 := Ho5'
  clear Ho5'
  have HL8 := Lib.hid (HL7.out.frm (((Frm.refl noB w8).alloc (.cells #[.int .i64 9] 3)).trans hf) (fun h => h) (fun _ _ _ _ h => h))
  have Hf8 := Lib.hid ((Hf7.out.alloc (.cells #[.int .i64 9] 3)).trans hf)
  clear hf
  go_wp2_with fail
  refine (sameInts_own (Ho5.out.alloc _) (show (w9.alloc (.cells #[.int .i64 11] 3)).ownsRow w9.heap.size 3 1 (.slice (some ⟨w9.heap.size, 0, none⟩) 1 1) 1 (i64s [11]) from World.ownsRow_lit w9 #[.int .i64 11] 1 (Nat.le_refl _) (by decide) rfl)).mono ?_
  rintro e w10 ⟨rfl, hf⟩
  rw [show sameL [11] [11] = true from by decide]
  have HL9 := Lib.hid (HL8.out.frm (((Frm.refl noB w9).alloc (.cells #[.int .i64 11] 3)).trans hf) (fun h => h) (fun _ _ _ _ h => h))
  have Hf9 := Lib.hid ((Hf8.out.alloc (.cells #[.int .i64 11] 3)).trans hf)
  clear hf
  go_wp2_with fail
  refine (end_any b (w.heap.size + 1) v 2 exF (exC 3) _ HL9.out).mono ?_
  rintro e w11 ⟨rfl, hf⟩
  have Hf10 := Lib.hid (Hf9.out.trans hf)
  clear hf
  rw [show endK exF exF.length = 9 from ex6]
  go_wp2
  go_ret
  exact ⟨rfl, Hf10.out⟩
end Go.Proofs.Ytmohmjanglkggaa
