/- Add: a request that is held. -/
import Derived.Test.YtdamhohoeobfgaaDoorTailOld
import Derived.Deep.RegionLaw
import Derived.Deep.RegionHeld3
import Derived.Deep.DeepCutAuto
set_option linter.unusedVariables false
set_option linter.unusedSimpArgs false
namespace Go.Proofs.YtdamhohoeobfgaaDoor
open Go.RowKit

def boxS (s : Spn) : Array Value := #[.string s.name, .int .i64 s.serv, .int .i64 s.frm, .int .i64 s.til, .bool s.well, .int .i64 s.kids]
theorem reqL_ok (l : List UInt8) : reqOk (reqL l) := by
  have h : 0 ≤ reqL l ∧ reqL l ≤ 2147483647 := by
    unfold reqL
    cases h : readL l with
    | none => simp
    | some p => obtain ⟨v, t⟩ := p; have := readL_pos h; simp only; omega
  exact WalkArith.wf_i64 (by omega)
set_option maxRecDepth 100000 in
set_option maxHeartbeats 4000000 in
theorem tadd_held (b : Nat) (m p s : Int) (mp : Nat) (G : List Grp) (R : List (Int × Nat)) (rv : Value) (mk k : Nat) (O : Nat → Prop) (nm : ByteArray) (s1 s2 s3 s5 : Int) (s4 : Bool) (g : Grp) (w : World) (h : TailM w b m p s mp G R rv mk k O)
    (hg : fndG G (reqL nm.data.toList) = some g) (hk : k ≤ 100000) (hs : nm.size ≤ 1000000) :
    Calls Tryd.prog 20 #[.pointer (some ⟨b, 0, none⟩), .agg #[.string nm, .int .i64 s1, .int .i64 s2, .int .i64 s3, .bool s4, .int .i64 s5]] w fun e w' => e = .returned (.slice none 0 0) ∧
      ∃ v' O', TailM w' b m p s mp (putG G g.req v' ⟨nm, s1, s2, s3, s4, s5⟩) R rv mk (k + 1) O' ∧ Frm O w w' ∧ ∀ i, O' i → O i ∨ w.heap.size ≤ i := by
  obtain ⟨hgG, hgr⟩ := fndG_mem hg
  have hf0 := (Frm.refl noB w).alloc (.cells (boxS ⟨nm, s1, s2, s3, s4, s5⟩) 39)
  have hM0 := h.keep hf0
  have hlk := hM0.look (reqL nm.data.toList) (reqL_ok _)
  rw [hg] at hlk
  simp only [Option.map_some, Option.getD_some, Option.isSome_some, hptr, boxS] at hlk
  have b3 := (h.blk.cell 3).trans (show _ = some (Value.map (some mp)) from rfl)
  have bl := h.blk.lt
  have hlen := (h.held g hgG).2.2.1
  have g1 := ((h.held g hgG).1.cell 1).trans (show _ = some g.v from rfl)
  have gl := (h.held g hgG).1.lt
  obtain ⟨gb, hgb⟩ : ∃ q, q = g.hb := ⟨_, rfl⟩
  obtain ⟨gv, hgv⟩ : ∃ q, q = g.v := ⟨_, rfl⟩
  obtain ⟨gi, hgi⟩ : ∃ q, q = g.l := ⟨_, rfl⟩
  rw [← hgb, ← hgv] at g1
  rw [← hgb] at gl hlk
  have hown := (h.held g hgG).2.1
  rw [← hgv, ← hgi] at hown
  have hsm : gi.length ≤ 1000000 := by rw [hgi]; omega
  have hbx := Blk.made w (boxS ⟨nm, s1, s2, s3, s4, s5⟩) 39
  have hf0b : Frm noB w (w.alloc (.cells (boxS ⟨nm, s1, s2, s3, s4, s5⟩) 39)) := hf0
  simp only [boxS] at hbx hf0b
  have Hh := Lib.hid h
  have Hg := Lib.hid hg
  have HgG := Lib.hid hgG
  have Hgr := Lib.hid hgr
  have HM0 := Lib.hid hM0
  have Hlen := Lib.hid hlen
  have Hgb := Lib.hid hgb
  have Hgv := Lib.hid hgv
  have Hgi := Lib.hid hgi
  have Hown := Lib.hid hown
  have Hsm := Lib.hid hsm
  have Hbx := Lib.hid hbx
  have Hf0b := Lib.hid hf0b
  have Hf0 := Lib.hid hf0
  clear h hg hgG hgr hM0 hlen hgb hgv hgi hown hsm hbx hf0b hf0
  go_enter Tryd.func20, Tryd.ntmps20
  go_wp2_with fail
  refine (req_any nm _ hs).mono ?_
  rintro e w' ⟨rfl, rfl⟩
  go_wp2_with fail
  generalize hwB : World.alloc w _ = wB at *
  have x0 : wB.cell? ⟨w.heap.size, 0, none⟩ = some (.string nm) := Hbx.out.cell 0
  have x1 : wB.cell? ⟨w.heap.size, 1, none⟩ = some (.int .i64 s1) := Hbx.out.cell 1
  have x2 : wB.cell? ⟨w.heap.size, 2, none⟩ = some (.int .i64 s2) := Hbx.out.cell 2
  have x3 : wB.cell? ⟨w.heap.size, 3, none⟩ = some (.int .i64 s3) := Hbx.out.cell 3
  have x4 : wB.cell? ⟨w.heap.size, 4, none⟩ = some (.bool s4) := Hbx.out.cell 4
  have x5 : wB.cell? ⟨w.heap.size, 5, none⟩ = some (.int .i64 s5) := Hbx.out.cell 5
  have xl := Hbx.out.lt
  have y1 := cell_frm Hf0b.out (fun h => h) g1
  have yl : gb < wB.heap.size := Nat.lt_of_lt_of_le gl Hf0b.out.size
  have ho := Hown.out.keep Hf0b.out
  have hbm := Blk.made wB.drew #[.string nm, .int .i64 s1, .int .i64 s2, .int .i64 s3, .bool s4, .int .i64 s5] 39
  have hgf := (Hh.out.held g HgG.out).1.frm Hf0b.out (fun h => h)
  have hne : ∀ i, gv.ownBlock = some i → i ≠ gb := by rw [Hgv.out, Hgb.out]; exact fun i hi => ((Hh.out.held_ne HgG.out).2.2.2 i hi).2.2.1
  have hbm2 := Blk.made wB #[.string nm, .int .i64 s1, .int .i64 s2, .int .i64 s3, .bool s4, .int .i64 s5] 39
  rw [← Hgb.out] at hgf
  clear b3 g1 gl bl hlk
  have Ho := Lib.hid ho
  have Hbm := Lib.hid hbm
  have Hgf := Lib.hid hgf
  have HwB := Lib.hid hwB
  have Hne := Lib.hid hne
  have Hbm2 := Lib.hid hbm2
  clear ho hbm hgf hwB hne hbm2
  go_region_law
    ((refine step_app_spn _ (by rfl) _ _ (by rfl) 0 gv gi (by rfl) (by first | exact Ho.out.keep (Frm.drew (Frm.alloc (Frm.refl noB wB) _)) | exact Ho.out.keep (Frm.alloc (Frm.drew (Frm.refl noB wB)) _)) ⟨nm, s1, s2, s3, s4, s5⟩ wB.heap.size (by rfl)
        #[.string nm, .int .i64 s1, .int .i64 s2, .int .i64 s3, .bool s4, .int .i64 s5] (by first | exact Hbm2.out | exact Hbm.out) (by rfl) Hsm.out (Nat.zero_le _) ?_
      intro v' w2 ho2 hf2 hat hne0
      have hf3 : Frm (fun i => some i = gv.ownBlock) wB w2 := Frm.trans (b := _) (by first | exact Frm.drew (Frm.alloc (Frm.refl _ wB) _) | exact Frm.alloc (Frm.drew (Frm.refl _ wB)) _) hf2
      have hgf2 := Hgf.out.frm hf3 (fun e => Hne.out gb e.symm rfl)
      have z1 := hgf2.cell 1
      dsimp only [heldC] at z1
      have z2 := hgf2.free 1
      have zl := hgf2.lt
      obtain ⟨va, vc, hv', hrd⟩ := ho2.rd
      obtain ⟨vn, hvn⟩ : ∃ n, n = (gi ++ [(⟨nm, s1, s2, s3, s4, s5⟩ : Spn)]).length := ⟨_, rfl⟩
      rw [← hvn] at hv'
      subst hv'
      clear hvn hrd))
  all_goals
    go_wp2_with fail
    go_ret
    obtain rfl := Hgv.out
    obtain rfl := Hgi.out
    have hO := Hh.out.put HgG.out (x := ⟨nm, s1, s2, s3, s4, s5⟩) (v' := .slice va vn vc) ((Hf0b.out.mono (fun _ _ h => h.elim)).trans hf3) ho2 (by
      rcases hat with h | h
      · exact .inl h
      · refine .inr ⟨_, h, ?_⟩
        have := Hf0b.out.size
        simp
        omega)
    rw [← Hgb.out] at hO
    obtain ⟨O', hO1, hO2, hO3⟩ := hO
    exact ⟨rfl, _, O', hO1, hO2, hO3⟩
end Go.Proofs.YtdamhohoeobfgaaDoor
