/- A tail that the call has made; the document's example. -/
import Derived.Test.YtdamhohoeobfgaaDoorTailOver
import Derived.Test.YtdamhohoeobfgaaDoorSampleOf
import Derived.Test.YtdamhohoeobfgaaDoorTraceName
import Derived.Test.YtdamhohoeobfgaaDoorShelf
set_option linter.unusedVariables false
set_option linter.unusedSimpArgs false
namespace Go.Proofs.YtdamhohoeobfgaaDoor
open Go.RowKit

theorem decDigits_dig (n : Nat) : Lib.decDigits n = digN n := by
  induction n using Nat.strongRecOn with
  | _ n ih =>
    rw [Lib.decDigits, digN]
    split
    · rfl
    · rename_i h; rw [ih (n / 10) (by omega)]
theorem itoa_any (i : Nat) (hi : i < 100) (w : World) : Calls Tryd.prog 28 #[.int .i64 (i : Int)] w fun e w' => e = .returned (.string (bs (decL (i : Int)))) ∧ Frm noB w w' :=
  (Tryd.strconv_Itoa_small i hi w).mono fun e w' ⟨h1, h2⟩ => ⟨by rw [h1, decDigits_dig]; unfold decL; rw [if_neg (by omega)]; rfl, by rw [h2]; exact Frm.refl _ _⟩
theorem shead_any (r : Int) (h0 : 0 ≤ r) (h1 : r < 100) (p : Int) (w : World) : Calls Tryd.prog 11 #[.int .i64 r, .int .i64 p] w fun e w' => e = .returned (.bool (headB r p)) ∧ Frm noB w w' := by
  obtain ⟨i, rfl⟩ : ∃ i : Nat, r = (i : Int) := ⟨r.toNat, by omega⟩
  exact shead_of i p w (by omega) (by omega) (fun w => itoa_any i (by omega) w)
theorem reqOk_small (r : Int) (h0 : 0 ≤ r) (h1 : r < 100) : reqOk r := WalkArith.wf_i64 (by omega)

structure TL (w0 w : World) (b : Nat) (m p s : Int) (L : List Spn) (k : Nat) (O : Nat → Prop) : Prop where
  tail : TailAt w b m p s L k O
  new : ∀ i, O i → w0.heap.size ≤ i
  frm : Frm noB w0 w
theorem TL.keep {w0 w w' : World} {b : Nat} {m p s : Int} {L : List Spn} {k : Nat} {O : Nat → Prop} (h : TL w0 w b m p s L k O) (f : Frm noB w w') : TL w0 w' b m p s L k O := ⟨h.tail.keep f, h.new, h.frm.trans f⟩
theorem TL.frmS {w0 w w' : World} {b : Nat} {m p s : Int} {L : List Spn} {k : Nat} {O S : Nat → Prop} (h : TL w0 w b m p s L k O) (f : Frm S w w') (hs : ∀ i, O i → ¬ S i) (hn : ∀ i, S i → w0.heap.size ≤ i) : TL w0 w' b m p s L k O :=
  ⟨h.tail.frm f hs, h.new, h.frm.new f (fun i hi hS => by have := hn i hS; omega)⟩
theorem TL.start (m p s : Int) (w : World) : Calls Tryd.prog 23 #[.int .i64 m, .int .i64 p, .int .i64 s] w fun e w' => ∃ b O, e = .returned (.pointer (some ⟨b, 0, none⟩)) ∧ TL w w' b m p s [] 0 O :=
  (tnew_any m p s w).mono fun e w' ⟨b, O, h1, h2, h3, h4⟩ => ⟨b, O, h1, ⟨h2, h4, h3⟩⟩
section
variable {w0 w : World} {b mm : Nat} {m p s : Int} {L : List Spn} {k : Nat} {O : Nat → Prop}
theorem TL.add (h : TL w0 w b (mm : Int) p s L k O) (x : Spn) (hk : k ≤ 100000) (hs : x.name.size ≤ 1000000) (hmm : 1 ≤ mm) (hm : mm ≤ 100000) :
    Calls Tryd.prog 20 #[.pointer (some ⟨b, 0, none⟩), spnV x] w fun e w' => ∃ v O', e = .returned v ∧ Own spnE w' 0 39 v (goneL mm L x) ∧
      TL w0 w' b (mm : Int) p s (addL mm L x) (k + 2) O' ∧ (∀ i, v.ownBlock = some i → ¬ O' i) ∧ Frm O w w' ∧ ∀ i, O' i → O i ∨ w.heap.size ≤ i :=
  (tadd_any b mm p s L k O x w h.tail hk hs hmm hm).mono fun e w' ⟨v, O', h1, h2, h3, h4, h5, h6⟩ => ⟨v, O', h1, h2, ⟨h3, fun i hi => by
      rcases h6 i hi with h7 | h7
      · exact h.new i h7
      · have := h.frm.size; omega, h.frm.new h5 (fun i hi hO => by have := h.new i hO; omega)⟩, h4, h5, h6⟩
theorem TL.over (h : TL w0 w b m p s L k O) (r took : Int) (well : Bool) (hk : k ≤ 100000) (h0 : 0 ≤ r) (h1 : r < 100) :
    Calls Tryd.prog 17 #[.pointer (some ⟨b, 0, none⟩), .int .i64 r, .bool well, .int .i64 took] w fun e w' => ∃ v O', e = .returned v ∧ Own spnE w' 0 39 v (overL well took s p L r) ∧
      TL w0 w' b m p s (othersL L r) k O' ∧ (∀ i, v.ownBlock = some i → ¬ O' i) ∧ Frm O w w' ∧ ∀ i, O' i → O i :=
  (tover_any b m p s L k O r took well w h.tail hk (reqOk_small r h0 h1) (fun w => shead_any r h0 h1 p w)).mono fun e w' ⟨v, O', h1, h2, h3, h4, h5, h6⟩ =>
    ⟨v, O', h1, h2, ⟨h3, fun i hi => h.new i (h6 i hi), h.frm.new h5 (fun i hi hO => by have := h.new i hO; omega)⟩, h4, h5, h6⟩
theorem TL.len (h : TL w0 w b m p s L k O) : Calls Tryd.prog 21 #[.pointer (some ⟨b, 0, none⟩)] w fun e w' => e = .returned (.int .i64 ((reqsL L).length : Nat)) ∧ w = w' := tlen_any b m p s L k O w h.tail
end

def ex71 : Spn := ⟨⟨#[55, 58, 49]⟩, 0, 0, 0, false, 0⟩
def ex72 : Spn := ⟨⟨#[55, 58, 50]⟩, 0, 0, 0, false, 0⟩
def ex81 : Spn := ⟨⟨#[56, 58, 49]⟩, 0, 0, 0, false, 0⟩
theorem rq71 : rq ex71 = 7 := by
  show reqL [55, 58, 49] = 7
  unfold reqL
  rw [show ([55, 58, 49] : List UInt8) = [55] ++ 58 :: [49] from rfl, readL_colon (r := 7) (readL_dec (d := [55]) (by decide)) (by decide)]
theorem rq72 : rq ex72 = 7 := by
  show reqL [55, 58, 50] = 7
  unfold reqL
  rw [show ([55, 58, 50] : List UInt8) = [55] ++ 58 :: [50] from rfl, readL_colon (r := 7) (readL_dec (d := [55]) (by decide)) (by decide)]
theorem rq81 : rq ex81 = 8 := by
  show reqL [56, 58, 49] = 8
  unfold reqL
  rw [show ([56, 58, 49] : List UInt8) = [56] ++ 58 :: [49] from rfl, readL_colon (r := 8) (readL_dec (d := [56]) (by decide)) (by decide)]
theorem ex_reqs1 : reqsL [ex71] = [7] := by
  have := reqsL_snoc [] ex71
  simpa [reqsL_nil, rq71] using this
theorem ex_reqs2 : reqsL [ex71, ex72] = [7] := by
  have := reqsL_snoc [ex71] ex72
  rw [ex_reqs1, rq72] at this
  simpa using this
theorem ex_reqs3 : reqsL [ex81] = [8] := by
  have := reqsL_snoc [] ex81
  simpa [reqsL_nil, rq81] using this
theorem ex_a : goneL 1 [] ex71 = [] ∧ addL 1 [] ex71 = [ex71] := by
  have : fullB 1 [] ex71 = false := by unfold fullB; rw [reqsL_nil]; rfl
  unfold goneL addL; rw [this]; exact ⟨rfl, rfl⟩
theorem ex_b : goneL 1 [ex71] ex72 = [] ∧ addL 1 [ex71] ex72 = [ex71, ex72] := by
  have : fullB 1 [ex71] ex72 = false := by unfold fullB; rw [ex_reqs1, rq72]; rfl
  unfold goneL addL; rw [this]; exact ⟨rfl, rfl⟩
theorem ex_c : goneL 1 [ex71, ex72] ex81 = [ex71, ex72] ∧ addL 1 [ex71, ex72] ex81 = [ex81] := by
  have : fullB 1 [ex71, ex72] ex81 = true := by unfold fullB; rw [ex_reqs2, rq81]; rfl
  unfold goneL addL; rw [this, ex_reqs2]
  refine ⟨?_, ?_⟩
  · unfold ofL; simp [rq71, rq72]
  · unfold othersL; simp [rq71, rq72]
theorem ex_d : overL true 9 10 0 [ex81] 8 = [] ∧ othersL [ex81] 8 = [] := by
  refine ⟨?_, by unfold othersL; simp [rq81]⟩
  have hh : headB 8 0 = false := by unfold headB; rw [decide_eq_false_iff_not]; omega
  unfold overL keepB; rw [hh]; rfl
end Go.Proofs.YtdamhohoeobfgaaDoor
