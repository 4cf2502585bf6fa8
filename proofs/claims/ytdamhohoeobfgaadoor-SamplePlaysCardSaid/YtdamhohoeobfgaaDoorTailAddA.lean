/- Add: a span that comes. -/
import Derived.Test.YtdamhohoeobfgaaDoorTailAddN
set_option linter.unusedVariables false
namespace Go.Proofs.YtdamhohoeobfgaaDoor
open Go.RowKit

theorem grpL_req (L : List Spn) : (grpL L).map (·.1) = reqsL L := by
  unfold grpL
  rw [List.map_map]
  exact List.map_id _
theorem plain_req {G : List Grp} {L : List Spn} (h : G.map Grp.plain = grpL L) : G.map (·.req) = reqsL L := by
  rw [← grpL_req, ← h, List.map_map]; rfl
theorem plain_len {G : List Grp} {L : List Spn} (h : G.map Grp.plain = grpL L) : G.length = (reqsL L).length := by
  rw [← plain_req h, List.length_map]
theorem plain_of {G : List Grp} {L : List Spn} (h : G.map Grp.plain = grpL L) {g : Grp} (hg : g ∈ G) : g.l = ofL L g.req := by
  have : g.plain ∈ grpL L := by rw [← h]; exact List.mem_map_of_mem hg
  unfold grpL at this
  obtain ⟨r, hr, e⟩ := List.mem_map.1 this
  unfold Grp.plain at e
  rw [Prod.mk.injEq] at e
  rw [← e.2, e.1]
theorem plain_without {G : List Grp} {L : List Spn} (h : G.map Grp.plain = grpL L) (r : Int) : (G.filter fun g => !(g.req == r)).map Grp.plain = grpL (othersL L r) := by
  rw [grpL_others, ← h, List.filter_map]
  rfl
theorem tadd_any (b mm : Nat) (p s : Int) (L : List Spn) (k : Nat) (O : Nat → Prop) (x : Spn) (w : World) (h : TailAt w b (mm : Int) p s L k O) (hk : k ≤ 100000) (hs : x.name.size ≤ 1000000) (hmm : 1 ≤ mm) (hm : mm ≤ 100000) :
    Calls Tryd.prog 20 #[.pointer (some ⟨b, 0, none⟩), spnV x] w fun e w' => ∃ v O', e = .returned v ∧ Own spnE w' 0 39 v (goneL mm L x) ∧
      TailAt w' b (mm : Int) p s (addL mm L x) (k + 2) O' ∧ (∀ i, v.ownBlock = some i → ¬ O' i) ∧ Frm O w w' ∧ ∀ i, O' i → O i ∨ w.heap.size ≤ i := by
  obtain ⟨mp, G, R, rv, mk, h1, h2⟩ := h
  obtain ⟨nm, s1, s2, s3, s4, s5⟩ := x
  simp only at hs
  have hrq : rq ⟨nm, s1, s2, s3, s4, s5⟩ = reqL nm.data.toList := rfl
  cases hf : fndG G (reqL nm.data.toList) with
  | some g =>
    obtain ⟨hg, hgr⟩ := fndG_mem hf
    have hmem : rq ⟨nm, s1, s2, s3, s4, s5⟩ ∈ reqsL L := by rw [hrq, ← hgr, ← plain_req h2]; exact List.mem_map_of_mem (f := (·.req)) hg
    have hful : fullB mm L ⟨nm, s1, s2, s3, s4, s5⟩ = false := by
      unfold fullB
      rw [List.contains_iff_mem.2 hmem]; rfl
    refine (tadd_held b mm p s mp G R rv mk k O nm s1 s2 s3 s5 s4 g w h1 hf hk hs).mono ?_
    rintro e w' ⟨rfl, v', O', hT, hF, hS⟩
    refine ⟨_, O', rfl, ?_, ⟨mp, _, R, rv, mk, hT.mono (by omega), ?_⟩, fun i hi => by simp [Value.ownBlock] at hi, hF, hS⟩
    · unfold goneL; rw [hful]; exact Own.nil _ _ _ _
    · unfold addL
      rw [hful, if_neg (by decide), grpL_old L _ hmem, putG_plain, h2, hgr]; rfl
  | none =>
    have hnm : rq ⟨nm, s1, s2, s3, s4, s5⟩ ∉ reqsL L := by rw [hrq, ← plain_req h2]; exact fndG_none.1 hf
    have hful : fullB mm L ⟨nm, s1, s2, s3, s4, s5⟩ = decide (mm ≤ (reqsL L).length) := by
      unfold fullB
      rw [show (reqsL L).contains (rq ⟨nm, s1, s2, s3, s4, s5⟩) = false from by rw [← Bool.not_eq_true, List.contains_iff_mem]; exact hnm]; rfl
    refine (tadd_new b 0 p s mp G R rv mk k mm _ O nm s1 s2 s3 s5 s4 (fullB mm L ⟨nm, s1, s2, s3, s4, s5⟩) w h1 hf hk hs (plain_len h2) hmm hm hful).mono ?_
    rintro e w' ⟨v, G', gl, hb, gv, R', rv', O', rfl, hG, hT, hO, hoff, hF, hS⟩
    refine ⟨v, O', rfl, ?_, ⟨mp, _, R', rv', _, hT, ?_⟩, hoff, hF, hS⟩
    · rcases hG with ⟨hf0, rfl, rfl⟩ | ⟨g, hf1, rfl, rfl⟩
      · unfold goneL; rw [hf0]; exact hO
      · unfold goneL
        rw [if_pos hf1, ← plain_req h2, List.map_cons, List.headD_cons, ← plain_of h2 List.mem_cons_self]
        exact hO
    · rw [List.map_append]
      rcases hG with ⟨hf0, rfl, rfl⟩ | ⟨g, hf1, rfl, rfl⟩
      · unfold addL
        rw [hf0, if_neg (by decide), grpL_new L _ hnm, h2]; rfl
      · unfold addL
        have hd : (reqsL L).headD 0 = g.req := by rw [← plain_req h2]; rfl
        rw [if_pos hf1, hd]
        have hno : rq ⟨nm, s1, s2, s3, s4, s5⟩ ∉ reqsL (othersL L g.req) := by
          rw [reqsL_others]
          intro hi
          exact hnm (List.mem_filter.1 hi).1
        rw [grpL_new _ _ hno, ← plain_without h2, filter_head h1.nd]; rfl
end Go.Proofs.YtdamhohoeobfgaaDoor
