/- One head of the reference, made of a number. -/
import Derived.Test.YtjehdldjfnaniaaDoorHeadCheck
import Derived.Test.YtjehdldjfnaniaaDoorAround
import Derived.Test.YtjehdldjfnaniaaDoorDecimal
import Derived.Test.YtjehdldjfnaniaaDoorCat
import Derived.ChangeAlike
import Derived.RegionTactic
import Derived.Outline
set_option linter.unusedVariables false
namespace Go.Proofs.YtjehdldjfnaniaaDoor
open Go.RowKit

def nmT : List ByteArray := [⟨#[97]⟩, ⟨#[98]⟩, ⟨#[120, 45, 117, 115, 101, 114]⟩, ⟨#[118, 50]⟩, ⟨#[104, 111, 115, 116]⟩, ⟨#[113]⟩, ⟨#[99, 45, 51]⟩, ⟨#[116, 114, 97, 99, 101]⟩, ⟨#[122]⟩, ⟨#[121, 49]⟩]
def vlT : List ByteArray := [⟨#[]⟩, ⟨#[49]⟩, ⟨#[50]⟩, ⟨#[98, 101, 116, 97]⟩, ⟨#[97, 32, 98]⟩, ⟨#[120, 58, 49, 58, 121]⟩, ⟨#[126]⟩, ⟨#[52, 50]⟩]
def dots : List UInt8 := List.replicate 40 46
def oneH (q : Nat) : Hd := ⟨(nmT[q % 10]?).getD ⟨#[]⟩, if q % 37 = 5 then bs (decL q ++ dots) else (vlT[q / 10 % 8]?).getD ⟨#[]⟩⟩
theorem nm_at (i : Nat) (h : i < 10) : nmT[i]? = some ((nmT[i]?).getD ⟨#[]⟩) := by
  have : i < nmT.length := h
  rw [List.getElem?_eq_getElem this]; rfl
theorem vl_at (i : Nat) (h : i < 8) : vlT[i]? = some ((vlT[i]?).getD ⟨#[]⟩) := by
  have : i < vlT.length := h
  rw [List.getElem?_eq_getElem this]; rfl
theorem cells_at {l : List ByteArray} {i : Nat} {x : ByteArray} (h : l[i]? = some x) : ∀ h' : i < (l.map Value.string).length, (l.map Value.string)[i]'h' = .string x := by
  intro h'
  have h1 : (l.map Value.string)[i]? = some (.string x) := by rw [List.getElem?_map, h]; rfl
  rw [List.getElem?_eq_getElem h'] at h1
  simpa using h1

theorem blk_new (W : World) (cs : Array Value) (T : TypeId) {B : Nat} (h : W.heap.size = B) : Blk (W.alloc (.cells cs T)) B cs T := by subst h; exact Blk.made _ _ _

theorem wpl_add {w : World} {ops : Array Oper} {rest : List Oper} {o : Oper} {a : Act} {Q : Exit → Act → World → Prop} (hgd : o.guard = none) (x y : Operand)
    (ho : o.op = .binOp .add 9 x y 9) (vx vy v : Value) (hx : a.eval x = vx) (hy : a.eval y = vy) (hrun : (binOp .add 9 vx vy).run Tryd.prog w = .ok v w)
    (h : wpList Tryd.prog ops Q rest (a.put o.dst v) w) : wpList Tryd.prog ops Q (o :: rest) a w := by
  refine wpList_plain hgd fun K hK => ?_
  unfold Oper.wp
  simp [execOp, ho, hx, hy, hrun, eqGuard, Result.andThen]
  exact hK _ _ h
theorem one_res (tmps : Array Value) (w : World) (B : Nat) (v0 v1 : Value) (h : tmps[2]?.getD undef = .pointer (some ⟨B, 0, none⟩)) (c0 : w.cell? ⟨B, 0, none⟩ = some v0) (c1 : w.cell? ⟨B, 1, none⟩ = some v1) :
    (results Tryd.f15 tmps).run Tryd.prog w = .ok (.agg #[v0, v1]) w := by
  simp [results, Tryd.results15, go_sem, h, c0, c1]
set_option maxRecDepth 100000 in
set_option maxHeartbeats 4000000 in
theorem one_any (n : Int) (w : World) (h0 : -9223372036854775808 ≤ n) (h1 : n ≤ 9223372036854775807) :
    Calls Tryd.prog 15 #[.int .i64 n] w fun e w' => e = .returned (hdV (oneH (around n 100000))) ∧ Frm noB w w' := by
  have hq := around_lt n 100000 (by omega)
  have har := fun w => around_any n 100000 w h0 h1 (by omega) (by omega)
  generalize around n 100000 = q at *
  have Har := Lib.hid har
  clear har
  go_enter Tryd.func15, Tryd.ntmps15
  go_wp2_with fail
  with_reducible refine (Har.out _).mono ?_
  rintro e w' ⟨rfl, rfl⟩
  obtain ⟨i, hi, hi10⟩ : ∃ i : Nat, q % 10 = i ∧ i < 10 := ⟨_, rfl, Nat.mod_lt _ (by omega)⟩
  obtain ⟨j, hj, hj8⟩ : ∃ j : Nat, q / 10 % 8 = j ∧ j < 8 := ⟨_, rfl, Nat.mod_lt _ (by omega)⟩
  have hn := nm_at i hi10
  have hv := vl_at j hj8
  have hone : oneH q = ⟨(nmT[i]?).getD ⟨#[]⟩, if q % 37 = 5 then bs (decL q ++ dots) else (vlT[j]?).getD ⟨#[]⟩⟩ := by unfold oneH; rw [hi, hj]
  generalize (nmT[i]?).getD ⟨#[]⟩ = nmv at *
  generalize (vlT[j]?).getD ⟨#[]⟩ = vlv at *
  have hn1 := cells_at hn
  have hv1 := cells_at hv
  simp only [nmT, vlT, List.map_cons, List.map_nil] at hn1 hv1
  have e1 : (q : Int) % 10 = (i : Int) := by omega
  have e2 : (q : Int) / 10 % 8 = (j : Int) := by omega
  have Hi := Lib.hid hi
  have Hj := Lib.hid hj
  have Hn := Lib.hid hn
  have Hv := Lib.hid hv
  have Hone := Lib.hid hone
  clear hi hj hn hv hone
  go_upto_region 2 with fail
  go_cut [4] (fun s wx => ∃ B : Nat, s = .pointer (some ⟨B, 0, none⟩) ∧ Blk wx B #[.string nmv, .string vlv] 36 ∧ Blk wx w.heap.size #[.string ⟨#[]⟩, .string ⟨#[]⟩] 36 ∧ w.heap.size < B ∧ Frm noB w wx)
  case first =>
    go_region
    all_goals
      go_wp2_with fail
      go_meet
      refine ⟨_, rfl, ?_, ?_, ?_, ?_⟩
      · refine Blk.drew ?_
        with_reducible first | exact blk_new _ _ _ (by simp) | exact (blk_new _ _ _ (by simp)).alloc _ | exact ((blk_new _ _ _ (by simp)).alloc _).alloc _
      · refine Blk.drew ?_
        with_reducible exact (((blk_new _ _ _ rfl).alloc _).alloc _).alloc _
      · omega
      · exact ((((Frm.refl _ _).alloc _).alloc _).alloc _).alloc _ |>.drew
  case rest =>
    obtain ⟨B, rfl, hB, hR, hlt, hf⟩ := hcut
    have hBl := hB.lt
    have hRl := hR.lt
    have hq37 : (q : Int) % 37 = ((q % 37 : Nat) : Int) := by omega
    have hd := fun w => decimal_any (q : Int) w (by omega) (by omega)
    unfold DecIs at hd
    have hds : (bs (decL (q : Int))).size ≤ 20 := by rw [bs_size]; exact decL_len (by omega) (by omega)
    have hcat : bs (decL (q : Int)) ++ (⟨#[46, 46, 46, 46, 46, 46, 46, 46, 46, 46, 46, 46, 46, 46, 46, 46, 46, 46, 46, 46, 46, 46, 46, 46, 46, 46, 46, 46, 46, 46, 46, 46, 46, 46, 46, 46, 46, 46, 46, 46]⟩ : ByteArray) = bs (decL (q : Int) ++ dots) := bs_app _ dots
    have hadd := fun w => (run_cat (bs (decL (q : Int))) (⟨#[46, 46, 46, 46, 46, 46, 46, 46, 46, 46, 46, 46, 46, 46, 46, 46, 46, 46, 46, 46, 46, 46, 46, 46, 46, 46, 46, 46, 46, 46, 46, 46, 46, 46, 46, 46, 46, 46, 46, 46]⟩ : ByteArray) (by have : (⟨#[46, 46, 46, 46, 46, 46, 46, 46, 46, 46, 46, 46, 46, 46, 46, 46, 46, 46, 46, 46, 46, 46, 46, 46, 46, 46, 46, 46, 46, 46, 46, 46, 46, 46, 46, 46, 46, 46, 46, 46]⟩ : ByteArray).size = 40 := rfl; omega) w).trans (by rw [hcat])
    by_cases h5 : q % 37 = 5
    · have hb : ((q : Int) % 37 == 5) = true := by simp; omega
      have ho : oneH q = ⟨nmv, bs (decL (q : Int) ++ dots)⟩ := by rw [Hone.out, if_pos h5]
      clear hcat
      generalize bs (decL (q : Int)) = D at *
      generalize bs (decL (q : Int) ++ dots) = D2 at *
      have HB := Lib.hid hB
      have HR := Lib.hid hR
      have Hf := Lib.hid hf
      have Hq37 := Lib.hid hq37
      have Hd := Lib.hid hd
      have H5 := Lib.hid h5
      have Ho := Lib.hid ho
      have Hds := Lib.hid hds
      have Hn1 := Lib.hid hn1
      have Hv1 := Lib.hid hv1
      clear hB hR hf hq37 hd h5 ho hds hn1 hv1
      clear e1 e2 hi10 hj8
      go_wp2_with fail
      with_reducible refine (Hd.out _).mono ?_
      rintro e w2 ⟨rfl, hf2⟩
      have hB2 := HB.out.frm hf2 (fun h => h)
      have hR2 := HR.out.frm hf2 (fun h => h)
      have c1 := hB2.cell 1
      have z1 := hB2.free 1
      have hBl2 := hB2.lt
      have hRl2 := hR2.lt
      simp at c1
      have hB3 := hB2.set 1 (.string D2)
      have hR3 := hR2.set_ne (a := ⟨B, 1, none⟩) (by simp; omega) (.string D2)
      have b0 := (hB3.cell 0).trans (show _ = some (Value.string nmv) by simp)
      have b1 := (hB3.cell 1).trans (show _ = some (Value.string D2) by simp)
      have r0 := (hR3.cell 0).trans (show _ = some (Value.string ⟨#[]⟩) by simp)
      have r1 := (hR3.cell 1).trans (show _ = some (Value.string ⟨#[]⟩) by simp)
      have y0 := hR3.free 0
      have y1 := hR3.free 1
      have hR4 := (hR3.set 0 (.string nmv)).set 1 (.string D2)
      have p0 := (hR4.cell 0).trans (show _ = some (Value.string nmv) by simp)
      have p1 := (hR4.cell 1).trans (show _ = some (Value.string D2) by simp)
      have hf4 := ((((Hf.out.trans hf2).setNew (p := ⟨B, 1, none⟩) (Nat.le_of_lt hlt) (.string D2)).setNew (p := ⟨w.heap.size, 0, none⟩) (Nat.le_refl _) (.string nmv)).setNew (p := ⟨w.heap.size, 1, none⟩) (Nat.le_refl _) (.string D2))
      have HB2 := Lib.hid hB2
      have HR2 := Lib.hid hR2
      have HB3 := Lib.hid hB3
      have HR3 := Lib.hid hR3
      have HR4 := Lib.hid hR4
      have Hf4 := Lib.hid hf4
      have Hadd := Lib.hid hadd
      clear hB2 hR2 hB3 hR3 hR4 hf4 hadd
      clear hf2
      go_wp2_with (refine wpl_add (by rfl) _ _ (by rfl) _ _ _ (by rfl) (by rfl) (Hadd.out _) ?_)
      refine bodyPost_ret (one_res _ _ _ _ _ rfl p0 p1) rfl ⟨?_, Hf4.out⟩
      rw [Ho.out]; rfl
    · have hb : ((q : Int) % 37 == 5) = false := by simp; omega
      have ho : oneH q = ⟨nmv, vlv⟩ := by rw [Hone.out, if_neg h5]
      have b0 := (hB.cell 0).trans (show _ = some (Value.string nmv) by simp)
      have b1 := (hB.cell 1).trans (show _ = some (Value.string vlv) by simp)
      have r0 := (hR.cell 0).trans (show _ = some (Value.string ⟨#[]⟩) by simp)
      have r1 := (hR.cell 1).trans (show _ = some (Value.string ⟨#[]⟩) by simp)
      have y0 := hR.free 0
      have y1 := hR.free 1
      have hR4 := (hR.set 0 (.string nmv)).set 1 (.string vlv)
      have p0 := (hR4.cell 0).trans (show _ = some (Value.string nmv) by simp)
      have p1 := (hR4.cell 1).trans (show _ = some (Value.string vlv) by simp)
      have hf4 := (hf.setNew (p := ⟨w.heap.size, 0, none⟩) (Nat.le_refl _) (.string nmv)).setNew (p := ⟨w.heap.size, 1, none⟩) (Nat.le_refl _) (.string vlv)
      have HB := Lib.hid hB
      have HR := Lib.hid hR
      have Hf := Lib.hid hf
      have Hq37 := Lib.hid hq37
      have Hd := Lib.hid hd
      have Hcat := Lib.hid hcat
      have Hadd := Lib.hid hadd
      have H5 := Lib.hid h5
      have Ho := Lib.hid ho
      have HR4 := Lib.hid hR4
      have Hf4 := Lib.hid hf4
      have Hds := Lib.hid hds
      have Hn1 := Lib.hid hn1
      have Hv1 := Lib.hid hv1
      clear hB hR hf hq37 hd hcat hadd h5 ho hR4 hf4 hds hn1 hv1
      clear e1 e2 hi10 hj8
      go_wp2_with fail
      refine bodyPost_ret (one_res _ _ _ _ _ rfl p0 p1) rfl ⟨?_, Hf4.out⟩
      rw [Ho.out]; rfl
end Go.Proofs.YtjehdldjfnaniaaDoor
