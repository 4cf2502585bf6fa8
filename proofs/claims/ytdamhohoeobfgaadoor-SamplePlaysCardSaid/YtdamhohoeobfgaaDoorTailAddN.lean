/- Add: a request that is not held. -/
import Derived.Test.YtdamhohoeobfgaaDoorTailAdd
set_option linter.unusedVariables false
set_option linter.unusedSimpArgs false
namespace Go.Proofs.YtdamhohoeobfgaaDoor
open Go.RowKit

/-- What had to go. -/
def GoneIs (full : Bool) (G G' : List Grp) (gl : List Spn) : Prop := (full = false ∧ G' = G ∧ gl = []) ∨ ∃ g, full = true ∧ G = g :: G' ∧ gl = g.l
structure AddMid (w wx : World) (b : Nat) (m p s : Int) (mp : Nat) (full : Bool) (G : List Grp) (mk k : Nat) (O : Nat → Prop) (x : Spn) (v : Value) (G' : List Grp) (R : List (Int × Nat)) (rv : Value) (gl : List Spn) (O' : Nat → Prop) : Prop where
  tail : TailM wx b m p s mp G' R rv mk k O'
  gone : GoneIs full G G' gl
  own : Own spnE wx 0 39 v gl
  off : ∀ i, v.ownBlock = some i → ¬ O' i
  sub : ∀ i, O' i → O i
  frm : Frm O w wx
  box : Blk wx w.heap.size (boxS x) 39

theorem step_app_pl (w : World) {ops : Array Oper} {o : Oper} {a : Act} {K : Act → World → Prop} {Q : Exit → Act → World → Prop} {X : Prop} (hgd : o.guard = none) (s x : Operand)
    (ho : o.op = .call { callee := .builtin .append, args := #[s, x], argTypes := #[61, 61] })
    (v : Value) (l : List (Int × Nat)) (hs : a.eval s = v) (hown : App plE w 66 v l) (el : Int × Nat) (B : Nat) (hx : a.eval x = .slice (some ⟨B, 0, none⟩) 1 1) (cs : Array Value) (hB : Blk w B cs 66) (hcs : cs.toList = plL el)
    (hsm : l.length ≤ 1000000)
    (h : ∀ v' w', App plE w' 66 v' (l ++ [el]) → Frm (fun i => some i = v.ownBlock) w w' → (v'.ownBlock = v.ownBlock ∨ ∃ q, v'.ownBlock = some q ∧ w.heap.size ≤ q) → K (a.put o.dst v') w') :
    if Region.wanted o (yielded ops a.tmps) = true then Oper.wp Tryd.prog o a w K Q else X := by
  have hw : Region.wanted o (yielded ops a.tmps) = true := by simp [Region.wanted, hgd]
  rw [if_pos hw]
  obtain ⟨i, hi, hz, h1, h2⟩ := info_parts info_pl
  obtain ⟨v', w', hrun, k1, k2, k3⟩ := run_app plE w 61 o.type 66 i _ 16 Tryd.underlying61 hi hz h1 h2 rfl (by decide) (by omega) v l hown el B 1 cs hB hcs hsm
  have := h v' w' k1 k2 k3
  unfold Oper.wp
  simp [execOp, ho, resolve, invoke, builtin, hs, hx, hrun, Result.andThen]
  exact this
set_option maxRecDepth 100000 in
set_option maxHeartbeats 4000000 in
theorem tadd_new (b : Nat) (m p s : Int) (mp : Nat) (G : List Grp) (R : List (Int × Nat)) (rv : Value) (mk k mm n : Nat) (O : Nat → Prop) (nm : ByteArray) (s1 s2 s3 s5 : Int) (s4 : Bool) (full : Bool) (w : World) (h : TailM w b (mm : Int) p s mp G R rv mk k O)
    (hg : fndG G (reqL nm.data.toList) = none) (hk : k ≤ 100000) (hs : nm.size ≤ 1000000) (hn : G.length = n) (hmm : 1 ≤ mm) (hm : mm ≤ 100000) (hfull : full = decide (mm ≤ n)) :
    Calls Tryd.prog 20 #[.pointer (some ⟨b, 0, none⟩), .agg #[.string nm, .int .i64 s1, .int .i64 s2, .int .i64 s3, .bool s4, .int .i64 s5]] w fun e w' => ∃ v G' gl hb gv R' rv' O', e = .returned v ∧ GoneIs full G G' gl ∧
      TailM w' b (mm : Int) p s mp (G' ++ [⟨reqL nm.data.toList, mk + 1, hb, gv, [⟨nm, s1, s2, s3, s4, s5⟩]⟩]) R' rv' (mk + 1) (k + 2) O' ∧ Own spnE w' 0 39 v gl ∧ (∀ i, v.ownBlock = some i → ¬ O' i) ∧ Frm O w w' ∧ ∀ i, O' i → O i ∨ w.heap.size ≤ i := by
  have hf0 := (Frm.refl noB w).alloc (.cells (boxS ⟨nm, s1, s2, s3, s4, s5⟩) 39)
  have hM0 := h.keep hf0
  have hlk := hM0.look (reqL nm.data.toList) (reqL_ok _)
  rw [hg] at hlk
  simp only [Option.map_none, Option.getD_none, Option.isSome_none, boxS] at hlk
  have hsz := fun q => (h.keep (hf0.drewN q)).size
  rw [hn] at hsz
  simp only [boxS] at hsz
  have hn5 : n ≤ 100000 := by have := h.glen; omega
  have b3 := (h.blk.cell 3).trans (show _ = some (Value.map (some mp)) from rfl)
  have b0 := (h.blk.cell 0).trans (show _ = some (Value.int .i64 (mm : Int)) from rfl)
  have bl := h.blk.lt
  have hbx := Blk.made w (boxS ⟨nm, s1, s2, s3, s4, s5⟩) 39
  have hf0b : Frm noB w (w.alloc (.cells (boxS ⟨nm, s1, s2, s3, s4, s5⟩) 39)) := hf0
  simp only [boxS] at hbx hf0b
  have Hh := Lib.hid h
  have Hg := Lib.hid hg
  have HM0 := Lib.hid hM0
  have Hbx := Lib.hid hbx
  have Hf0b := Lib.hid hf0b
  have Hf0 := Lib.hid hf0
  have Hn := Lib.hid hn
  have Hfull := Lib.hid hfull
  clear h hg hM0 hbx hf0b hf0 hn hfull
  go_enter Tryd.func20, Tryd.ntmps20
  go_wp2_with fail
  refine (req_any nm _ hs).mono ?_
  rintro e w' ⟨rfl, rfl⟩
  go_upto_region 7 with fail
  go_cut [49] (fun s49 wx => s49 = .bool full ∧ Frm noB (w.alloc (.cells (boxS ⟨nm, s1, s2, s3, s4, s5⟩) 39)) wx)
  case first =>
    rcases Nat.eq_zero_or_pos n with h0 | h0
    · subst h0
      have hf : full = false := by rw [Hfull.out, decide_eq_false_iff_not]; omega
      subst hf
      go_quiet (fail)
      go_wp2_with fail
      go_meet
      exact ⟨rfl, (Frm.refl noB _).drewN _⟩
    · have g1 : decide ((0 : Int) < (n : Int)) = true := by rw [decide_eq_true_iff]; omega
      have g1' : (0 : Int) < (n : Int) := by omega
      go_quiet (fail)
      go_wp2_with fail
      go_meet
      exact ⟨by rw [Hfull.out], (Frm.refl noB _).drewN _⟩
  case rest =>
    obtain ⟨rfl, hfx⟩ := hcut
    clear b3 b0 bl hsz hlk
    have hMc := HM0.out.keep hfx
    have hFc := Hf0.out.trans hfx
    have hBc := Hbx.out.frm hfx (fun h => h)
    generalize hwB : World.alloc w _ = wB at *
    go_upto_if 49 with fail
    go_cut [8] (fun s8 wx => ∃ G' R' rv' gl O', AddMid w wx b (mm : Int) p s mp full G mk k O ⟨nm, s1, s2, s3, s4, s5⟩ s8 G' R' rv' gl O')
    case first =>
      cases hfc : full
      · subst hfc
        have HMc := Lib.hid hMc
        have HFc := Lib.hid hFc
        have HBc := Lib.hid hBc
        clear hMc hFc hBc
        go_wp2_with fail
        go_meet
        exact ⟨G, R, rv, [], O, HMc.out, .inl ⟨rfl, rfl, rfl⟩, Own.nil _ _ _ _, fun i hi => by simp [Value.ownBlock] at hi, fun i hi => hi, HFc.out.mono (fun _ _ h => h.elim), HBc.out⟩
      · obtain ⟨g, G', hGG⟩ : ∃ g G', G = g :: G' := by
          cases G with
          | nil => 
            have := Hn.out
            have h2 := Hfull.out
            rw [hfc] at h2
            simp at this h2
            omega
          | cons a l => exact ⟨a, l, rfl⟩
        subst hGG
        subst hfc
        have hMs := fun (g' : Grp) (hg' : g' ∈ G') (i : Nat) (hi : g'.v.ownBlock = some i) (e : g.v.ownBlock = some i) => ((List.pairwise_cons.1 hMc.sep).1 g' hg').2 i e hi
        have hgO := (hMc.oheld g List.mem_cons_self).2
        have HFc := Lib.hid hFc
        have HBc := Lib.hid hBc
        have HMs := Lib.hid hMs
        have HgO := Lib.hid hgO
        clear hFc hBc hMs hgO
        go_wp2_with fail
        refine (oldest_any b (mm : Int) p s mp g G' R rv mk k O wc hMc).mono ?_
        rintro e w2 ⟨rfl, ⟨R', rv', hM2⟩, hF2, ho⟩
        have hl := hM2.less (v := g.v) ho HMs.out
        have hbO : ¬ O w.heap.size := fun hi => Nat.lt_irrefl _ (Hh.out.lt _ hi)
        have hAM : AddMid w w2 b (mm : Int) p s mp true (g :: G') mk k O ⟨nm, s1, s2, s3, s4, s5⟩ g.v G' R' rv' g.l (fun i => O i ∧ g.v.ownBlock ≠ some i) :=
          ⟨hl, .inr ⟨g, rfl, rfl, rfl⟩, ho, fun i hi h2 => h2.2 hi, fun i hi => hi.1, (HFc.out.mono (fun _ _ h => h.elim)).trans hF2, HBc.out.frm hF2 hbO⟩
        generalize g.v = gv at *
        have HAM := Lib.hid hAM
        have Hl := Lib.hid hl
        have HM2 := Lib.hid hM2
        have HF2 := Lib.hid hF2
        have Ho := Lib.hid ho
        clear hAM hl hM2 hF2 ho
        go_wp2_with fail
        go_meet
        exact ⟨_, _, _, _, _, HAM.out⟩
    case rest =>
      obtain ⟨G', R', rv', gl, O', hA⟩ := hcut
      clear hMc hFc hBc
      have hmk : mk ≤ 100000 := Nat.le_trans hA.tail.mkk hk
      have hM := hA.tail
      have hBx := hA.box
      have hmkd := hM.marked
      have b5 := (hM.blk.cell 5).trans (show _ = some (Value.int .i64 (mk : Int)) from rfl)
      have f5 := hM.blk.free 5
      have bl := hM.blk.lt
      have hbO : ¬ O' w.heap.size := fun hi => Nat.lt_irrefl _ (Hh.out.lt _ (hA.sub _ hi))
      have hF5 : Frm O' wc (wc.setCell ⟨b, 5, none⟩ (.int .i64 ((mk + 1 : Nat) : Int))) := (Frm.refl _ _).setCell (p := ⟨b, 5, none⟩) hM.ob _
      rw [show (((mk + 1 : Nat) : Int)) = (mk : Int) + 1 from by omega] at hmkd hF5
      have HA := Lib.hid hA
      have HM := Lib.hid hM
      have HBx := Lib.hid hBx
      have Hmkd := Lib.hid hmkd
      have HbO := Lib.hid hbO
      have HF5 := Lib.hid hF5
      clear hA hM hBx hmkd hbO hF5
      go_upto_region 10 with fail
      generalize hw5 : World.setCell wc _ _ = w5 at *
      have hM5 := Hmkd.out
      have hF5w := HF5.out
      have c3 := (hM5.blk.cell 3).trans (show _ = some (Value.map (some mp)) from rfl)
      have c5 := (hM5.blk.cell 5).trans (show _ = some (Value.int .i64 ((mk + 1 : Nat) : Int)) from rfl)
      have cl := hM5.blk.lt
      have hB5 := HBx.out.frm hF5w HbO.out
      have x0 : w5.cell? ⟨w.heap.size, 0, none⟩ = some (.string nm) := hB5.cell 0
      have x1 : w5.cell? ⟨w.heap.size, 1, none⟩ = some (.int .i64 s1) := hB5.cell 1
      have x2 : w5.cell? ⟨w.heap.size, 2, none⟩ = some (.int .i64 s2) := hB5.cell 2
      have x3 : w5.cell? ⟨w.heap.size, 3, none⟩ = some (.int .i64 s3) := hB5.cell 3
      have x4 : w5.cell? ⟨w.heap.size, 4, none⟩ = some (.bool s4) := hB5.cell 4
      have x5 : w5.cell? ⟨w.heap.size, 5, none⟩ = some (.int .i64 s5) := hB5.cell 5
      have xl := hB5.lt
      obtain ⟨m1, hm1⟩ : ∃ q : Nat, q = mk + 1 := ⟨_, rfl⟩
      rw [← hm1] at c5
      have hm1b : m1 ≤ 100001 := by omega
      have hS : ∀ W, Frm (fun i => i ≠ b ∧ i ≠ w.heap.size) w5 W → (W.cell? ⟨b, 3, none⟩ = some (.map (some mp)) ∧ W.cell? ⟨b, 5, none⟩ = some (.int .i64 (m1 : Int)) ∧ W.cell? ⟨w.heap.size, 0, none⟩ = some (.string nm) ∧ W.cell? ⟨w.heap.size, 1, none⟩ = some (.int .i64 s1) ∧ W.cell? ⟨w.heap.size, 2, none⟩ = some (.int .i64 s2) ∧
          W.cell? ⟨w.heap.size, 3, none⟩ = some (.int .i64 s3) ∧ W.cell? ⟨w.heap.size, 4, none⟩ = some (.bool s4) ∧ W.cell? ⟨w.heap.size, 5, none⟩ = some (.int .i64 s5)) := fun W hW =>
        ⟨cell_frm hW (fun h => h.1 rfl) c3, cell_frm hW (fun h => h.1 rfl) c5, cell_frm hW (fun h => h.2 rfl) x0, cell_frm hW (fun h => h.2 rfl) x1, cell_frm hW (fun h => h.2 rfl) x2, cell_frm hW (fun h => h.2 rfl) x3, cell_frm hW (fun h => h.2 rfl) x4, cell_frm hW (fun h => h.2 rfl) x5⟩
      obtain ⟨W2, hW2⟩ : ∃ W2, W2 = ((w5.alloc (.cells #[.string nm, .int .i64 s1, .int .i64 s2, .int .i64 s3, .bool s4, .int .i64 s5] 39)).alloc (.cells #[.int .i64 (m1 : Int), .slice (some ⟨w5.heap.size, 0, none⟩) 1 1] 69)).drew := ⟨_, rfl⟩
      have hF2 : Frm noB w5 W2 := by rw [hW2]; exact (((Frm.refl noB w5).alloc _).alloc _).drew
      have hkI := Maps.keyOf_int_mk Tryd.underlying3 (reqL_ok nm.data.toList)
      obtain ⟨w3, hrun, hv3, hf3⟩ := (hM5.map.frm hF2 (fun h => h)).store (t := 60) keyI Tryd.underlying60 (by simp only [maxLen]; omega) hkI (.pointer (some ⟨w5.heap.size + 1, 0, none⟩))
      have hno : fndG G' (reqL nm.data.toList) = none := by
        have h0 := fndG_none.1 Hg.out
        rw [fndG_none]
        rcases HA.out.gone with ⟨_, e, _⟩ | ⟨g, _, e, _⟩
        · rw [e]; exact h0
        · intro hi
          rw [e, List.map_cons] at h0
          exact h0 (List.mem_cons_of_mem _ hi)
      rw [show tailF G' (Lit.int .i64 (reqL nm.data.toList)) = none from by show (fndG G' _).map hptr = none; rw [hno]; rfl] at hv3
      simp only [Option.isSome_none, Bool.false_eq_true, if_false] at hv3
      have hb2 : Blk W2 (w5.heap.size + 1) #[.int .i64 (m1 : Int), .slice (some ⟨w5.heap.size, 0, none⟩) 1 1] 69 := by
        rw [hW2]
        have := Blk.made (w5.alloc (.cells #[.string nm, .int .i64 s1, .int .i64 s2, .int .i64 s3, .bool s4, .int .i64 s5] 39)) #[.int .i64 (m1 : Int), .slice (some ⟨w5.heap.size, 0, none⟩) 1 1] 69
        rw [World.size_alloc] at this
        exact this
      have ho2 : Own spnE W2 0 39 (.slice (some ⟨w5.heap.size, 0, none⟩) 1 1) [⟨nm, s1, s2, s3, s4, s5⟩] := by
        rw [hW2]
        exact (own_lit spnE w5 39 [(⟨nm, s1, s2, s3, s4, s5⟩ : Spn)] _ rfl 1 rfl 0 (Nat.zero_le _) (by omega)).keep (((Frm.refl noB _).alloc _).drew)
      rw [hW2] at hrun
      have hSk : ∀ W, Frm noB w5 W → Frm (fun i => i ≠ b ∧ i ≠ w.heap.size) w5 W := fun W h => h.mono (fun _ _ h => h.elim)
      have hS3 := hS w3 ((hSk _ hF2).trans (hf3.mono (fun i _ hi => by
        have hi' : i = mp := hi
        subst hi'
        exact ⟨hM5.map.ne hM5.blk, hM5.map.ne hB5⟩)))
      have hmp5 := hM5.row_ne
      have HM5 := Lib.hid hM5
      have HF5w := Lib.hid hF5w
      have HB5 := Lib.hid hB5
      have Hm1 := Lib.hid hm1
      have HS := Lib.hid hS
      have HSk := Lib.hid hSk
      have HW2 := Lib.hid hW2
      have HF2 := Lib.hid hF2
      have HkI := Lib.hid hkI
      have Hv3 := Lib.hid hv3
      have Hf3 := Lib.hid hf3
      have Hb2 := Lib.hid hb2
      have Ho2 := Lib.hid ho2
      have Hmp5 := Lib.hid hmp5
      have Hw5 := Lib.hid hw5
      have HS3 := Lib.hid hS3
      have Hno := Lib.hid hno
      clear hM5 hF5w hB5 hm1 hS hSk hW2 hF2 hkI hv3 hf3 hb2 ho2 hmp5 hw5 hS3 hno
      go_cut [71] (fun s71 wx => ∃ w1 hb gv, TailM w1 b (mm : Int) p s mp G' R' rv' m1 (k + 1) O' ∧ Blk w1 hb #[.int .i64 (m1 : Int), gv] 69 ∧ Own spnE w1 0 39 gv [⟨nm, s1, s2, s3, s4, s5⟩] ∧ (∀ i, (i = hb ∨ gv.ownBlock = some i) → w5.heap.size ≤ i) ∧
        VMap wx Tryd.prog 3 mp (k + 2) (G'.length + 1) (setF (tailF G') (.int .i64 (reqL nm.data.toList)) (some (.pointer (some ⟨hb, 0, none⟩)))) ∧ Frm (oneB mp) w1 wx ∧ Frm noB w5 w1)
      case first =>
        go_region_held3 (fun W => W.cell? ⟨b, 3, none⟩ = some (.map (some mp)) ∧ W.cell? ⟨b, 5, none⟩ = some (.int .i64 (m1 : Int)) ∧ W.cell? ⟨w.heap.size, 0, none⟩ = some (.string nm) ∧ W.cell? ⟨w.heap.size, 1, none⟩ = some (.int .i64 s1) ∧ W.cell? ⟨w.heap.size, 2, none⟩ = some (.int .i64 s2) ∧
            W.cell? ⟨w.heap.size, 3, none⟩ = some (.int .i64 s3) ∧ W.cell? ⟨w.heap.size, 4, none⟩ = some (.bool s4) ∧ W.cell? ⟨w.heap.size, 5, none⟩ = some (.int .i64 s5))
          (first | exact HS.out _ (HSk.out _ (Frm.drew (Frm.refl _ _))) | exact HS.out _ (HSk.out _ (Frm.drew (Frm.alloc (Frm.refl _ _) _))) | exact HS.out _ (HSk.out _ (Frm.drew (Frm.alloc (Frm.alloc (Frm.refl _ _) _) _))) | exact HS3.out)
          (fail)
        all_goals
          go_wp2_with fail
          go_meet
          refine ⟨W2, w5.heap.size + 1, _, ?_, Hb2.out, Ho2.out, ?_, Hv3.out, Hf3.out, HF2.out⟩
          · rw [Hm1.out]; exact HM5.out.keep HF2.out
          · intro i hi
            rcases hi with rfl | hi
            · exact Nat.le_succ _
            · simp only [Value.ownBlock, Option.some.injEq] at hi
              omega
      case rest =>
        obtain ⟨w1, hb, gv, hM1, hbb, hog, hnw, hvx, hfx1, hf51⟩ := hcut
        clear x0 x1 x2 x3 x4 x5 xl c3 c5 cl hrun
        have hbx1 := hM1.blk.frm hfx1 (fun e => Hmp5.out.1 e.symm)
        have c4 := (hbx1.cell 4).trans (show _ = some rv' from rfl)
        have c5 := (hbx1.cell 5).trans (show _ = some (Value.int .i64 (m1 : Int)) from rfl)
        have cl := hbx1.lt
        have hrow := hM1.row.frm hfx1 (fun i hi => (hM1.row_ne.2 i hi).2)
        have hbm := Blk.made wc #[.int .i64 (reqL nm.data.toList), .int .i64 (m1 : Int)] 66
        have hrl : R'.length ≤ 1000000 := by have := hM1.len; omega
        have hbne : ∀ i, rv'.ownBlock = some i → i ≠ b := fun i hi => (hM1.row_ne.2 i hi).1
        have HM1 := Lib.hid hM1
        have Hbb := Lib.hid hbb
        have Hog := Lib.hid hog
        have Hnw := Lib.hid hnw
        have Hvx := Lib.hid hvx
        have Hfx1 := Lib.hid hfx1
        have Hf51 := Lib.hid hf51
        have Hbx1 := Lib.hid hbx1
        have Hrow := Lib.hid hrow
        have Hbm := Lib.hid hbm
        have Hrl := Lib.hid hrl
        have Hbne := Lib.hid hbne
        clear hM1 hbb hog hnw hvx hfx1 hf51 hbx1 hrow hbm hrl hbne
        go_wp2_with fail
        go_region_law
          ((refine step_app_pl _ (by rfl) _ _ (by rfl) rv' R' (by rfl) (by first | exact Hrow.out.keep (Frm.drew (Frm.alloc (Frm.refl noB wc) _)) | exact Hrow.out.keep (Frm.alloc (Frm.drew (Frm.refl noB wc)) _)) (reqL nm.data.toList, m1) wc.heap.size (by rfl)
              #[.int .i64 (reqL nm.data.toList), .int .i64 (m1 : Int)] (by exact Hbm.out) (by rfl) Hrl.out ?_
            intro v' w6 ha6 hf6 hat
            have hf7 : Frm (fun i => some i = rv'.ownBlock) wc w6 := Frm.trans (b := _) (by first | exact Frm.drew (Frm.alloc (Frm.refl _ wc) _) | exact Frm.alloc (Frm.drew (Frm.refl _ wc)) _) hf6
            have hb6 := Hbx1.out.frm hf7 (fun e => Hbne.out b e.symm rfl)
            have z1 := hb6.cell 4
            dsimp only [tailC] at z1
            have z2 := hb6.free 4
            have zl := hb6.lt
            obtain ⟨va, vc, hv', _⟩ := ha6.shape
            obtain ⟨vn, hvn⟩ : ∃ n, n = (R' ++ [(reqL nm.data.toList, m1)]).length := ⟨_, rfl⟩
            rw [← hvn] at hv'
            subst hv'
            clear hvn))
        all_goals
          go_wp2_with fail
          go_ret
          have hA := HA.out
          have z5 := HF5w.out.size
          have z51 := Hf51.out.size
          have zA := hA.frm.size
          obtain ⟨O2, hT, hF, hS⟩ := HM1.out.grown (g := ⟨reqL nm.data.toList, m1, hb, gv, [⟨nm, s1, s2, s3, s4, s5⟩]⟩) (fndG_none.1 Hno.out) Hbb.out Hog.out
            (fun (hi : O' hb) => by have h1 := HM5.out.lt _ hi; have h2 := Hnw.out _ (.inl rfl); omega) (fun i h2 hi => by have h1 := HM5.out.lt _ hi; have h3 := Hnw.out _ (.inr h2); omega)
            (by simp) (reqL_ok _) rfl (fun x hx => by have := hA.tail.rmark x hx; have := Hm1.out; omega) Hvx.out Hfx1.out hf7 ha6
            (by
              rcases hat with h | ⟨q, h, hq⟩
              · exact .inl h
              · refine .inr ⟨q, h, ?_⟩
                simp at hq; omega)
          rw [Hm1.out] at hT
          refine ⟨_, G', gl, hb, gv, _, _, O2, rfl, hA.gone, hT, ((hA.own.frm HF5w.out hA.off).keep Hf51.out).frm hF hA.off, ?_, ?_, ?_⟩
          · intro i hi h2
            have hlt := (hA.own.lt i hi).2
            rcases hS i h2 with h3 | h3 | h3 | h3
            · exact hA.off i hi h3
            · have := Hnw.out i (.inl h3); omega
            · have := Hnw.out i (.inr h3); omega
            · omega
          · exact hA.frm.trans (((HF5w.out.trans (Hf51.out.mono (fun _ _ h => h.elim))).trans hF).mono (fun i _ hi => hA.sub i hi))
          · intro i h2
            rcases hS i h2 with h3 | h3 | h3 | h3
            · exact .inl (hA.sub i h3)
            · have := Hnw.out i (.inl h3); exact .inr (by omega)
            · have := Hnw.out i (.inr h3); exact .inr (by omega)
            · exact .inr (by omega)
end Go.Proofs.YtdamhohoeobfgaaDoor
