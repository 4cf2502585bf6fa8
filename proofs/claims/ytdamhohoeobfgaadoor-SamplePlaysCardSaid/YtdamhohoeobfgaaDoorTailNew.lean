/- New and Len of a tail. -/
import Derived.Test.YtdamhohoeobfgaaDoorTailM
set_option linter.unusedVariables false
set_option linter.unusedSimpArgs false
namespace Go.Proofs.YtdamhohoeobfgaaDoor
open Go.RowKit

/-- Block b is a tail that holds the spans L; k: how often it was used, at most. -/
def TailAt (w : World) (b : Nat) (m p s : Int) (L : List Spn) (k : Nat) (O : Nat → Prop) : Prop :=
  ∃ mp G R rv mk, TailM w b m p s mp G R rv mk k O ∧ G.map Grp.plain = grpL L
theorem TailAt.frm {w w' : World} {b : Nat} {m p s : Int} {L : List Spn} {k : Nat} {O S : Nat → Prop} (h : TailAt w b m p s L k O) (f : Frm S w w') (hs : ∀ i, O i → ¬ S i) : TailAt w' b m p s L k O := by
  obtain ⟨mp, G, R, rv, mk, h1, h2⟩ := h
  exact ⟨mp, G, R, rv, mk, h1.frm f hs, h2⟩
theorem TailAt.keep {w w' : World} {b : Nat} {m p s : Int} {L : List Spn} {k : Nat} {O : Nat → Prop} (h : TailAt w b m p s L k O) (f : Frm noB w w') : TailAt w' b m p s L k O := h.frm f (fun _ _ h => h)
theorem TailAt.lt {w : World} {b : Nat} {m p s : Int} {L : List Spn} {k : Nat} {O : Nat → Prop} (h : TailAt w b m p s L k O) : ∀ i, O i → i < w.heap.size := by
  obtain ⟨mp, G, R, rv, mk, h1, h2⟩ := h
  exact h1.lt
theorem TailAt.mono {w : World} {b : Nat} {m p s : Int} {L : List Spn} {k k' : Nat} {O : Nat → Prop} (h : TailAt w b m p s L k O) (hk : k ≤ k') : TailAt w b m p s L k' O := by
  obtain ⟨mp, G, R, rv, mk, h1, h2⟩ := h
  exact ⟨mp, G, R, rv, mk, h1.mono hk, h2⟩

set_option maxHeartbeats 1000000 in
theorem tnew_any (m p s : Int) (w : World) :
    Calls Tryd.prog 23 #[.int .i64 m, .int .i64 p, .int .i64 s] w fun e w' => ∃ b O, e = .returned (.pointer (some ⟨b, 0, none⟩)) ∧ TailAt w' b m p s [] 0 O ∧ Frm noB w w' ∧ ∀ i, O i → w.heap.size ≤ i := by
  have hmm := @run_makeMap Tryd.prog
  go_enter Tryd.func23, Tryd.ntmps23
  go_wp2_with fail
  go_ret
  have hB := Blk.made (w.alloc (.map #[] 0)) (tailC m p s w.heap.size (.slice none 0 0) 0) 63
  rw [World.size_alloc] at hB
  have hm := (VMap.made w Tryd.prog 3).frm ((Frm.refl noB _).alloc (.cells (tailC m p s w.heap.size (.slice none 0 0) 0) 63)) (fun h => h)
  have hsz : ((w.alloc (.map #[] 0)).alloc (.cells (tailC m p s w.heap.size (.slice none 0 0) 0) 63)).heap.size = w.heap.size + 2 := by simp
  refine ⟨w.heap.size + 1, fun i => i = w.heap.size ∨ i = w.heap.size + 1, ?_, ⟨w.heap.size, [], [], .slice none 0 0, 0, ⟨hB, hm.congr (fun l _ => by unfold tailF; split <;> rfl), fun g hg => (by cases hg), App.nil _ _ _, .inr rfl, .inl rfl, fun i hi => by simp [Value.ownBlock] at hi, fun g hg => (by cases hg), ?_, List.Pairwise.nil, List.nodup_nil, fun g hg => (by cases hg), fun g hg => (by cases hg), fun g hg => (by cases hg), rfl, Nat.le_refl _, Nat.le_refl _, Nat.le_refl _⟩, rfl⟩, ((Frm.refl noB w).alloc _).alloc _, ?_⟩
  · rfl
  · intro i hi
    refine Nat.lt_of_lt_of_eq ?_ hsz.symm
    rcases hi with rfl | rfl <;> omega
  · intro i hi
    rcases hi with rfl | rfl <;> omega
set_option maxHeartbeats 1000000 in
theorem tlen_any (b : Nat) (m p s : Int) (L : List Spn) (k : Nat) (O : Nat → Prop) (w : World) (h : TailAt w b m p s L k O) :
    Calls Tryd.prog 21 #[.pointer (some ⟨b, 0, none⟩)] w fun e w' => e = .returned (.int .i64 ((reqsL L).length : Nat)) ∧ w = w' := by
  obtain ⟨mp, G, R, rv, mk, h, hp⟩ := h
  have hl := h.size
  have e : G.length = (reqsL L).length := by rw [← grpL_len, ← hp, List.length_map]
  rw [e] at hl
  have c3 := (h.blk.cell 3).trans (show _ = some (Value.map (some mp)) from rfl)
  have hbl := h.blk.lt
  generalize (reqsL L).length = n at *
  have Hh := Lib.hid h
  have Hp := Lib.hid hp
  have He := Lib.hid e
  clear h hp e
  go_enter Tryd.func21, Tryd.ntmps21
  go_wp2_with fail
  go_ret
  exact ⟨rfl, rfl⟩
end Go.Proofs.YtdamhohoeobfgaaDoor
