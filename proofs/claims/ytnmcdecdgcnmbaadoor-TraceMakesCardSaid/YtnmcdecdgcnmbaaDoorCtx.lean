/- Layer 20: what a call carries. -/
import Derived.Test.YtnmcdecdgcnmbaaDoorStoreNew
import Derived.Test.YtnmcdecdgcnmbaaDoorDecimal
import Derived.Test.YtnmcdecdgcnmbaaDoorCat
import Derived.Test.YtnmcdecdgcnmbaaDoorShelf
import Derived.Test.YtnmcdecdgcnmbaaDoorTakeD
import Derived.Test.YtnmcdecdgcnmbaaDoorRows2
import Derived.Deep.CutBlock
import Derived.ChangeAlike
import Derived.RegionTactic
import Derived.Outline
set_option linter.unusedVariables false
set_option linter.unusedSimpArgs false
namespace Go.Proofs.YtnmcdecdgcnmbaaDoor
open Go.RowKit

theorem blk_new (W : World) (cs : Array Value) (T : TypeId) {B : Nat} (h : W.heap.size = B) : Blk (W.alloc (.cells cs T)) B cs T := by subst h; exact Blk.made _ _ _
theorem wpl_add {w : World} {ops : Array Oper} {rest : List Oper} {o : Oper} {a : Act} {Q : Exit → Act → World → Prop} (hgd : o.guard = none) (x y : Operand)
    (ho : o.op = .binOp .add 9 x y 9) (vx vy v : Value) (hx : a.eval x = vx) (hy : a.eval y = vy) (hrun : (binOp .add 9 vx vy).run Tryd.prog w = .ok v w)
    (h : wpList Tryd.prog ops Q rest (a.put o.dst v) w) : wpList Tryd.prog ops Q (o :: rest) a w := by
  refine wpList_plain hgd fun K hK => ?_
  unfold Oper.wp
  simp [execOp, ho, hx, hy, hrun, eqGuard, Result.andThen]
  exact hK _ _ h
theorem info_ctx : (Tryd.prog.info? 24).map (·.size) = some 9 := by kernel_rfl
theorem decDigits_dig (n : Nat) : Lib.decDigits n = digN n := by
  induction n using Nat.strongRecOn with
  | _ n ih =>
    rw [Lib.decDigits, digN]
    split
    · rfl
    · rw [ih (n / 10) (by omega)]
theorem itoa_any (i : Nat) (hi : i < 100) (w : World) : Calls Tryd.prog 16 #[.int .i64 (i : Int)] w fun e w' => e = .returned (.string (bs (digN i))) ∧ w = w' :=
  (Tryd.strconv_Itoa_small i hi w).mono fun e w' ⟨h1, h2⟩ => ⟨by rw [h1, decDigits_dig]; rfl, h2.symm⟩
theorem try_res (tmps : Array Value) (w : World) (B : Nat) (cs : Array Value) (T : TypeId) (h : tmps[6]?.getD undef = .pointer (some ⟨B, 0, none⟩)) (hB : Blk w B cs T) (hs : cs.size = 9) :
    (results Tryd.f5 tmps).run Tryd.prog w = .ok (.agg cs) w := by
  have hl := run_loadVar_mid (P := Tryd.prog) w B 0 24 cs.toList _ (fun j v hv => by rw [Nat.zero_add, hB.cell]; simpa using hv) Tryd.underlying24 rfl (by rw [Array.length_toList, hs]; exact info_ctx)
  simp only [Array.toArray_toList] at hl
  simp [results, Tryd.results5, asAddr, h, hl]
theorem kid_res (tmps : Array Value) (w : World) (B : Nat) (cs : Array Value) (T : TypeId) (h : tmps[8]?.getD undef = .pointer (some ⟨B, 0, none⟩)) (hB : Blk w B cs T) (hs : cs.size = 9) :
    (results Tryd.f7 tmps).run Tryd.prog w = .ok (.agg cs) w := by
  have hl := run_loadVar_mid (P := Tryd.prog) w B 0 24 cs.toList _ (fun j v hv => by rw [Nat.zero_add, hB.cell]; simpa using hv) Tryd.underlying24 rfl (by rw [Array.length_toList, hs]; exact info_ctx)
  simp only [Array.toArray_toList] at hl
  simp [results, Tryd.results7, asAddr, h, hl]
theorem copy_res (tmps : Array Value) (w : World) (B : Nat) (cs : Array Value) (T : TypeId) (h : tmps[2]?.getD undef = .pointer (some ⟨B, 0, none⟩)) (hB : Blk w B cs T) (hs : cs.size = 9) :
    (results Tryd.f8 tmps).run Tryd.prog w = .ok (.agg cs) w := by
  have hl := run_loadVar_mid (P := Tryd.prog) w B 0 24 cs.toList _ (fun j v hv => by rw [Nat.zero_add, hB.cell]; simpa using hv) Tryd.underlying24 rfl (by rw [Array.length_toList, hs]; exact info_ctx)
  simp only [Array.toArray_toList] at hl
  simp [results, Tryd.results8, asAddr, h, hl]
set_option maxRecDepth 100000 in
set_option maxHeartbeats 4000000 in
theorem try_any (rq : Int) (cl : ByteArray) (ty : Int) (im sh : Bool) (dl pu ve pr : Int) (n p : Int) (w : World) :
    Calls Tryd.prog 5 #[.agg #[.int .i64 rq, .string cl, .int .i64 ty, .bool im, .bool sh, .int .i64 dl, .int .i64 pu, .int .i64 ve, .int .i64 pr], .int .i64 n, .int .i64 p] w fun e w' => e = .returned (.agg #[.int .i64 rq, .string cl, .int .i64 n, .bool im, .bool sh, .int .i64 dl, .int .i64 p, .int .i64 ve, .int .i64 pr]) ∧ Frm noB w w' := by
  have hA := Blk.made w #[.int .i64 rq, .string cl, .int .i64 ty, .bool im, .bool sh, .int .i64 dl, .int .i64 pu, .int .i64 ve, .int .i64 pr] 24
  have hA2 := hA.alloc (.cells #[.int .i64 0, .string ⟨#[]⟩, .int .i64 0, .bool false, .bool false, .int .i64 0, .int .i64 0, .int .i64 0, .int .i64 0] 24)
  have hR := blk_new (w.alloc (.cells #[.int .i64 rq, .string cl, .int .i64 ty, .bool im, .bool sh, .int .i64 dl, .int .i64 pu, .int .i64 ve, .int .i64 pr] 24)) #[.int .i64 0, .string ⟨#[]⟩, .int .i64 0, .bool false, .bool false, .int .i64 0, .int .i64 0, .int .i64 0, .int .i64 0] 24 (B := w.heap.size + 1) (by simp)
  have hf := ((Frm.refl noB w).alloc (.cells #[.int .i64 rq, .string cl, .int .i64 ty, .bool im, .bool sh, .int .i64 dl, .int .i64 pu, .int .i64 ve, .int .i64 pr] 24)).alloc (.cells #[.int .i64 0, .string ⟨#[]⟩, .int .i64 0, .bool false, .bool false, .int .i64 0, .int .i64 0, .int .i64 0, .int .i64 0] 24)
  have hA3 := (hA2.set 2 (.int .i64 n)).set 6 (.int .i64 p)
  rw [show ((#[.int .i64 rq, .string cl, .int .i64 ty, .bool im, .bool sh, .int .i64 dl, .int .i64 pu, .int .i64 ve, .int .i64 pr] : Array Value).setIfInBounds 2 (.int .i64 n)).setIfInBounds 6 (.int .i64 p) = #[.int .i64 rq, .string cl, .int .i64 n, .bool im, .bool sh, .int .i64 dl, .int .i64 p, .int .i64 ve, .int .i64 pr] from rfl] at hA3
  have hR3 := (hR.set_ne (a := ⟨w.heap.size, 2, none⟩) (by simp) (.int .i64 n)).set_ne (a := ⟨w.heap.size, 6, none⟩) (by simp) (.int .i64 p)
  have hf3 := (hf.setNew (p := ⟨w.heap.size, 2, none⟩) (Nat.le_refl _) (.int .i64 n)).setNew (p := ⟨w.heap.size, 6, none⟩) (Nat.le_refl _) (.int .i64 p)
  have HA := Lib.hid hA
  have HA2 := Lib.hid hA2
  have HR := Lib.hid hR
  have Hf := Lib.hid hf
  have HA3 := Lib.hid hA3
  have HR3 := Lib.hid hR3
  have Hf3 := Lib.hid hf3
  clear hA hA2 hR hf hA3 hR3 hf3
  go_enter Tryd.func5, Tryd.ntmps5
  clear HA HA2 HR HA3 HR3
  go_wp2_with fail
  exact bodyPost_ret (v := .agg #[.int .i64 rq, .string cl, .int .i64 n, .bool im, .bool sh, .int .i64 dl, .int .i64 p, .int .i64 ve, .int .i64 pr]) (by simp [results, Tryd.results5, go_sem]) rfl ⟨rfl, ((Frm.refl noB w).alloc _).alloc _⟩
/-- An attempt's name. -/
def spanL (cl : ByteArray) (ty : Nat) : ByteArray := if 0 < ty then cl ++ ⟨#[58]⟩ ++ bs (digN ty) else cl
set_option maxRecDepth 100000 in
set_option maxHeartbeats 4000000 in
theorem cspan_any (rq : Int) (cl : ByteArray) (ty : Nat) (im sh : Bool) (dl pu ve pr : Int) (w : World) (hty : ty < 100) (hcl : cl.size ≤ 1000) :
    Calls Tryd.prog 9 #[.agg #[.int .i64 rq, .string cl, .int .i64 (ty : Int), .bool im, .bool sh, .int .i64 dl, .int .i64 pu, .int .i64 ve, .int .i64 pr]] w fun e w' => e = .returned (.string (spanL cl ty)) ∧ Frm noB w w' := by
  have hA := Blk.made w #[.int .i64 rq, .string cl, .int .i64 (ty : Int), .bool im, .bool sh, .int .i64 dl, .int .i64 pu, .int .i64 ve, .int .i64 pr] 24
  have hf := (Frm.refl noB w).alloc (.cells #[.int .i64 rq, .string cl, .int .i64 (ty : Int), .bool im, .bool sh, .int .i64 dl, .int .i64 pu, .int .i64 ve, .int .i64 pr] 24)
  have hit := fun w => itoa_any ty hty w
  have hdl : (bs (digN ty)).size ≤ 2 := by rw [bs_size]; exact digN_len_le 1 ty (by omega)
  have hsz : (⟨#[58]⟩ : ByteArray).size = 1 := rfl
  have h1 : (9223372036854775807 < cl.size + 1) = False := by simp; omega
  have h2 : (9223372036854775807 < cl.size + 1 + (bs (digN ty)).size) = False := by simp; omega
  have hdef : spanL cl ty = if 0 < ty then cl ++ ⟨#[58]⟩ ++ bs (digN ty) else cl := rfl
  generalize spanL cl ty = R at *
  generalize bs (digN ty) = D at *
  by_cases ht : 0 < ty
  · have hr : R = cl ++ ⟨#[58]⟩ ++ D := by rw [hdef, if_pos ht]
    have t1 : decide ((0 : Int) < (ty : Int)) = true := decide_eq_true (by omega)
    have c1 := (hA.cell 1).trans (show _ = some (Value.string cl) from rfl)
    have c2 := (hA.cell 2).trans (show _ = some (Value.int .i64 (ty : Int)) from rfl)
    have HA := Lib.hid hA
    have Hf := Lib.hid hf
    have Hit := Lib.hid hit
    have Hdl := Lib.hid hdl
    have Hsz := Lib.hid hsz
    have Hdef := Lib.hid hdef
    have Hr := Lib.hid hr
    have Ht := Lib.hid ht
    clear hA hf hit hdl hsz hdef hr ht
    go_enter Tryd.func9, Tryd.ntmps9
    go_upto_region 2 with fail
    generalize w.alloc (.cells #[.int .i64 rq, .string cl, .int .i64 (ty : Int), .bool im, .bool sh, .int .i64 dl, .int .i64 pu, .int .i64 ve, .int .i64 pr] 24) = W at *
    refine wp_region_noPanic ?_
    refine wp_region_held_drew (S := fun X => Blk X w.heap.size #[.int .i64 rq, .string cl, .int .i64 (ty : Int), .bool im, .bool sh, .int .i64 dl, .int .i64 pu, .int .i64 ve, .int .i64 pr] 24) (by kernel_rfl) ?_ (fun hHeld => ?_)
    · exact HA.out.frm (Frm.refl noB _).drew (fun h => h)
    obtain ⟨u0, hu0⟩ : ∃ Wq, Wq = W.drew := ⟨_, rfl⟩
    rw [← hu0] at hHeld ⊢
    have hgd : Frm noB W u0 := by rw [hu0]; exact (Frm.refl noB W).drew
    have HT0 := Lib.hid (hgd)
    have hz0 := hgd.size
    clear hu0 hgd
    refine takeD (i := 0) (some 6) (v := ?_) rfl rfl (by kernel_rfl) (by kernel_rfl) (by kernel_rfl) (fun _ _ _ h => h) (Or.inl ⟨by kernel_rfl, ?_⟩) (by assumption) ?_
    rotate_left
    · (intro w hSw; (try dsimp only at hSw); have hQ1 := (hSw.cell 1).trans (show _ = some (Value.string cl) from rfl); have hQ2 := (hSw.cell 2).trans (show _ = some (Value.int .i64 (ty : Int)) from rfl); go_simp; try (with_reducible rfl))
    (try dsimp only [Act.put]); try simp only [Act.put, List.setIfInBounds_toArray, List.set_cons_zero, List.set_cons_succ]
    refine takeD (i := 1) (some 7) (v := ?_) rfl rfl (by kernel_rfl) (by kernel_rfl) (by kernel_rfl) (fun _ _ _ h => h) (Or.inl ⟨by kernel_rfl, ?_⟩) (by assumption) ?_
    rotate_left
    · (intro w hSw; (try dsimp only at hSw); have hQ1 := (hSw.cell 1).trans (show _ = some (Value.string cl) from rfl); have hQ2 := (hSw.cell 2).trans (show _ = some (Value.int .i64 (ty : Int)) from rfl); go_simp; try (with_reducible rfl))
    (try dsimp only [Act.put]); try simp only [Act.put, List.setIfInBounds_toArray, List.set_cons_zero, List.set_cons_succ]
    refine takeD (i := 2) (some 8) (v := ?_) rfl rfl (by kernel_rfl) (by kernel_rfl) (by kernel_rfl) (fun _ _ _ h => h) (Or.inl ⟨by kernel_rfl, ?_⟩) (by assumption) ?_
    rotate_left
    · (intro w hSw; (try dsimp only at hSw); have hQ1 := (hSw.cell 1).trans (show _ = some (Value.string cl) from rfl); have hQ2 := (hSw.cell 2).trans (show _ = some (Value.int .i64 (ty : Int)) from rfl); go_simp; try (with_reducible rfl))
    (try dsimp only [Act.put]); try simp only [Act.put, List.setIfInBounds_toArray, List.set_cons_zero, List.set_cons_succ]
    refine takeD (i := 3) (some 9) (v := ?_) rfl rfl (by kernel_rfl) (by kernel_rfl) (by kernel_rfl) (fun _ _ _ h => h) (Or.inl ⟨by kernel_rfl, ?_⟩) (by assumption) ?_
    rotate_left
    · (intro w hSw; (try dsimp only at hSw); have hQ1 := (hSw.cell 1).trans (show _ = some (Value.string cl) from rfl); have hQ2 := (hSw.cell 2).trans (show _ = some (Value.int .i64 (ty : Int)) from rfl); go_simp; try (with_reducible rfl))
    (try dsimp only [Act.put]); try simp only [Act.put, List.setIfInBounds_toArray, List.set_cons_zero, List.set_cons_succ]
    refine takeD (i := 4) (some 10) (v := ?_) rfl rfl (by kernel_rfl) (by kernel_rfl) (by kernel_rfl) (fun _ _ _ h => h) (Or.inl ⟨by kernel_rfl, ?_⟩) (by assumption) ?_
    rotate_left
    · (intro w hSw; (try dsimp only at hSw); have hQ1 := (hSw.cell 1).trans (show _ = some (Value.string cl) from rfl); have hQ2 := (hSw.cell 2).trans (show _ = some (Value.int .i64 (ty : Int)) from rfl); go_simp; try (with_reducible rfl))
    (try dsimp only [Act.put]); try simp only [Act.put, List.setIfInBounds_toArray, List.set_cons_zero, List.set_cons_succ]
    refine wpAnyH_ready (rs := [5]) (by kernel_rfl) (by simp) ?_
    refine AllReadyH.cons rfl (fun K hK => ?_) ?_
    · go_simp
      refine (Hit.out _).mono ?_
      rintro e yy ⟨rfl, hyy⟩
      subst hyy
      go_wp2_with fail
      refine hK.out _ _ ?_ (fun hHeld => ?_)
      · exact HA.out.frm HT0.out (fun h => h)
      clear hK K
      (try dsimp only [Act.put]); try simp only [Act.put, List.setIfInBounds_toArray, List.set_cons_zero, List.set_cons_succ]
      refine takeD (i := 6) (some 12) (v := ?_) rfl rfl (by kernel_rfl) (by kernel_rfl) (by kernel_rfl) (fun _ _ _ h => h) (Or.inl ⟨by kernel_rfl, ?_⟩) (by assumption) ?_
      rotate_left
      · (intro w hSw; (try dsimp only at hSw); have hQ1 := (hSw.cell 1).trans (show _ = some (Value.string cl) from rfl); have hQ2 := (hSw.cell 2).trans (show _ = some (Value.int .i64 (ty : Int)) from rfl); go_simp; try (with_reducible rfl))
      (try dsimp only [Act.put]); try simp only [Act.put, List.setIfInBounds_toArray, List.set_cons_zero, List.set_cons_succ]
      refine takeD (i := 7) (some 2) (v := ?_) rfl rfl (by kernel_rfl) (by kernel_rfl) (by kernel_rfl) (fun _ _ _ h => h) (Or.inl ⟨by kernel_rfl, ?_⟩) (by assumption) ?_
      rotate_left
      · (intro w hSw; (try dsimp only at hSw); have hQ1 := (hSw.cell 1).trans (show _ = some (Value.string cl) from rfl); have hQ2 := (hSw.cell 2).trans (show _ = some (Value.int .i64 (ty : Int)) from rfl); go_simp; try (with_reducible rfl))
      (try dsimp only [Act.put]); try simp only [Act.put, List.setIfInBounds_toArray, List.set_cons_zero, List.set_cons_succ]
      refine wpAnyH_done (by kernel_rfl) ?_ _
      refine NoPanic.normal ?_
      go_wp2_with fail
      go_ret
      exact ⟨by rw [Hr.out]; rfl, Hf.out.trans HT0.out⟩
    exact AllReadyH.nil
  · have hr : R = cl := by rw [hdef, if_neg ht]
    have t1 : decide ((0 : Int) < (ty : Int)) = false := decide_eq_false (by omega)
    have HA := Lib.hid hA
    have Hf := Lib.hid hf
    have Hit := Lib.hid hit
    have Hdl := Lib.hid hdl
    have Hsz := Lib.hid hsz
    have Hdef := Lib.hid hdef
    have Hr := Lib.hid hr
    have Ht := Lib.hid ht
    clear hA hf hit hdl hsz hdef hr ht
    clear h1 h2
    go_enter Tryd.func9, Tryd.ntmps9
    go_wp2_with fail
    go_ret
    exact ⟨by rw [Hr.out]; rfl, Hf.out⟩
set_option maxRecDepth 100000 in
set_option maxHeartbeats 2000000 in
theorem split_4 (w : World) :
    Calls Tryd.prog 23 #[.int .i64 4, .int .i64 4] w fun e w' => e = .returned (.slice (some ⟨w.heap.size, 0, none⟩) 4 4) ∧ Blk w' w.heap.size #[.int .i64 1, .int .i64 1, .int .i64 1, .int .i64 1] 3 ∧ Frm noB w w' := by
  have hmk : (Instr.makeSlice 52 (.int .i64 4) (.int .i64 4)).run Tryd.prog w = .ok (.slice (some ⟨w.heap.size, 0, none⟩) 4 4) (w.alloc (.cells #[.int .i64 0, .int .i64 0, .int .i64 0, .int .i64 0] 3)) := by kernel_rfl
  have hB := Blk.made w #[.int .i64 0, .int .i64 0, .int .i64 0, .int .i64 0] 3
  have hf := (Frm.refl noB w).alloc (.cells #[.int .i64 0, .int .i64 0, .int .i64 0, .int .i64 0] 3)
  have HB := Lib.hid hB
  have Hf := Lib.hid hf
  clear hB hf
  go_enter Tryd.func23, Tryd.ntmps23
  go_wp2_with fail
  clear hmk
  go_loopw [13] (fun i wr => ((i = .int .i64 0 ∧ Blk wr w.heap.size #[.int .i64 0, .int .i64 0, .int .i64 0, .int .i64 0] 3) ∨ (i = .int .i64 1 ∧ Blk wr w.heap.size #[.int .i64 1, .int .i64 0, .int .i64 0, .int .i64 0] 3) ∨ (i = .int .i64 2 ∧ Blk wr w.heap.size #[.int .i64 1, .int .i64 1, .int .i64 0, .int .i64 0] 3) ∨ (i = .int .i64 3 ∧ Blk wr w.heap.size #[.int .i64 1, .int .i64 1, .int .i64 1, .int .i64 0] 3) ∨ (i = .int .i64 4 ∧ Blk wr w.heap.size #[.int .i64 1, .int .i64 1, .int .i64 1, .int .i64 1] 3)) ∧ Frm noB w wr) (fun i _ => 4 - (intOf i).toNat)
  case atStart => exact ⟨.inl ⟨rfl, HB.out⟩, Hf.out⟩
  case round =>
    obtain ⟨hc, hf⟩ := hrel
    rcases hc with ⟨rfl, hB⟩ | ⟨rfl, hB⟩ | ⟨rfl, hB⟩ | ⟨rfl, hB⟩ | ⟨rfl, hB⟩
    · have c0 := (hB.cell 0).trans (show _ = some (Value.int .i64 0) from rfl)
      have y0 := hB.free 0
      have l0 := hB.lt
      have hset := hB.set 0 (.int .i64 1)
      have hf2 := hf.setNew (p := ⟨w.heap.size, 0, none⟩) (Nat.le_refl _) (.int .i64 1)
      rw [show (#[.int .i64 0, .int .i64 0, .int .i64 0, .int .i64 0] : Array Value).setIfInBounds 0 (.int .i64 1) = #[.int .i64 1, .int .i64 0, .int .i64 0, .int .i64 0] from rfl] at hset
      have HB := Lib.hid hB
      have Hf := Lib.hid hf
      have Hset := Lib.hid hset
      have Hf2 := Lib.hid hf2
      clear hB hf hset hf2
      go_wp2_with fail
      go_roundw
      case rel => exact ⟨.inr (.inl ⟨rfl, Hset.out⟩), Hf2.out⟩
      case measure => simp [intOf]
    · have c0 := (hB.cell 1).trans (show _ = some (Value.int .i64 0) from rfl)
      have y0 := hB.free 1
      have l0 := hB.lt
      have hset := hB.set 1 (.int .i64 1)
      have hf2 := hf.setNew (p := ⟨w.heap.size, 1, none⟩) (Nat.le_refl _) (.int .i64 1)
      rw [show (#[.int .i64 1, .int .i64 0, .int .i64 0, .int .i64 0] : Array Value).setIfInBounds 1 (.int .i64 1) = #[.int .i64 1, .int .i64 1, .int .i64 0, .int .i64 0] from rfl] at hset
      have HB := Lib.hid hB
      have Hf := Lib.hid hf
      have Hset := Lib.hid hset
      have Hf2 := Lib.hid hf2
      clear hB hf hset hf2
      go_wp2_with fail
      go_roundw
      case rel => exact ⟨.inr (.inr (.inl ⟨rfl, Hset.out⟩)), Hf2.out⟩
      case measure => simp [intOf]
    · have c0 := (hB.cell 2).trans (show _ = some (Value.int .i64 0) from rfl)
      have y0 := hB.free 2
      have l0 := hB.lt
      have hset := hB.set 2 (.int .i64 1)
      have hf2 := hf.setNew (p := ⟨w.heap.size, 2, none⟩) (Nat.le_refl _) (.int .i64 1)
      rw [show (#[.int .i64 1, .int .i64 1, .int .i64 0, .int .i64 0] : Array Value).setIfInBounds 2 (.int .i64 1) = #[.int .i64 1, .int .i64 1, .int .i64 1, .int .i64 0] from rfl] at hset
      have HB := Lib.hid hB
      have Hf := Lib.hid hf
      have Hset := Lib.hid hset
      have Hf2 := Lib.hid hf2
      clear hB hf hset hf2
      go_wp2_with fail
      go_roundw
      case rel => exact ⟨.inr (.inr (.inr (.inl ⟨rfl, Hset.out⟩))), Hf2.out⟩
      case measure => simp [intOf]
    · have c0 := (hB.cell 3).trans (show _ = some (Value.int .i64 0) from rfl)
      have y0 := hB.free 3
      have l0 := hB.lt
      have hset := hB.set 3 (.int .i64 1)
      have hf2 := hf.setNew (p := ⟨w.heap.size, 3, none⟩) (Nat.le_refl _) (.int .i64 1)
      rw [show (#[.int .i64 1, .int .i64 1, .int .i64 1, .int .i64 0] : Array Value).setIfInBounds 3 (.int .i64 1) = #[.int .i64 1, .int .i64 1, .int .i64 1, .int .i64 1] from rfl] at hset
      have HB := Lib.hid hB
      have Hf := Lib.hid hf
      have Hset := Lib.hid hset
      have Hf2 := Lib.hid hf2
      clear hB hf hset hf2
      go_wp2_with fail
      go_roundw
      case rel => exact ⟨.inr (.inr (.inr (.inr (⟨rfl, Hset.out⟩)))), Hf2.out⟩
      case measure => simp [intOf]
    · skip
      have HB := Lib.hid hB
      have Hf := Lib.hid hf
      clear hB hf
      go_wp2_with fail
      go_ret
      exact ⟨rfl, HB.out, Hf.out⟩
set_option maxHeartbeats 2000000 in
theorem share_4 (k : Nat) (hk : k < 4) (w : World) :
    Calls Tryd.prog 17 #[.int .i64 4, .int .i64 4, .int .i64 (k : Int)] w fun e w' => e = .returned (.int .i64 1) ∧ Frm noB w w' := by
  have hsp := split_4 w
  have t0 : decide ((k : Int) < 0) = false := decide_eq_false (by omega)
  have t1 : decide ((4 : Int) ≤ (k : Int)) = false := decide_eq_false (by omega)
  have i1 : (0 : Int) ≤ (k : Int) := by omega
  have i2 : (k : Int) < 4 := by omega
  have hat : (#[.int .i64 1, .int .i64 1, .int .i64 1, .int .i64 1] : Array Value)[k]? = some (.int .i64 1) := by
    have hc : k = 0 ∨ k = 1 ∨ k = 2 ∨ k = 3 := by omega
    rcases hc with rfl | rfl | rfl | rfl <;> rfl
  have Hsp := Lib.hid hsp
  have Hat := Lib.hid hat
  clear hsp hat
  go_enter Tryd.func17, Tryd.ntmps17
  go_wp2_with fail
  refine Hsp.out.mono ?_
  rintro e y ⟨rfl, hB, hf⟩
  have c0 := (hB.cell k).trans Hat.out
  have HB := Lib.hid hB
  have Hf := Lib.hid hf
  clear hB hf
  go_wp2_with fail
  go_ret
  exact ⟨rfl, Hf.out⟩
set_option maxRecDepth 100000 in
set_option maxHeartbeats 4000000 in
theorem kid_4 (rq : Int) (cl : ByteArray) (ty : Nat) (im sh : Bool) (dl ve pr : Int) (k : Nat) (w : World) (hty : ty < 100) (hk : k < 4) (hcl : cl.size ≤ 1000) (hdl0 : -1000000 ≤ dl) (hdl1 : dl ≤ 1000000) :
    Calls Tryd.prog 7 #[.agg #[.int .i64 rq, .string cl, .int .i64 (ty : Int), .bool im, .bool sh, .int .i64 dl, .int .i64 4, .int .i64 ve, .int .i64 pr], .int .i64 (k : Int), .int .i64 4, .int .i64 1] w fun e w' => e = .returned (.agg #[.int .i64 rq, .string (spanL cl ty ++ ⟨#[47]⟩ ++ bs (digN k)), .int .i64 0, .bool im, .bool sh, .int .i64 (dl - 1), .int .i64 1, .int .i64 ve, .int .i64 pr]) ∧ Frm noB w w' := by
  have hsp := fun w => cspan_any rq cl ty im sh dl 4 ve pr w hty hcl
  have hit := fun w => itoa_any k (by omega) w
  have hsh := fun w => share_4 k hk w
  have hss : (spanL cl ty).size ≤ 1003 := by
    unfold spanL
    split
    · rw [ByteArray.size_append, ByteArray.size_append, bs_size]
      have := digN_len_le 1 ty (by omega)
      have : (⟨#[58]⟩ : ByteArray).size = 1 := rfl
      omega
    · omega
  have hdk : (bs (digN k)).size ≤ 2 := by rw [bs_size]; exact digN_len_le 1 k (by omega)
  have h47 : (⟨#[47]⟩ : ByteArray).size = 1 := rfl
  have hadd1 := fun w => run_cat (spanL cl ty) (⟨#[47]⟩ : ByteArray) (by omega) w
  have hadd2 := fun w => run_cat (spanL cl ty ++ (⟨#[47]⟩ : ByteArray)) (bs (digN k)) (by rw [ByteArray.size_append]; omega) w
  obtain ⟨cl2, hcl2⟩ : ∃ x, x = spanL cl ty ++ (⟨#[47]⟩ : ByteArray) ++ bs (digN k) := ⟨_, rfl⟩
  rw [← hcl2] at hadd2 ⊢
  generalize spanL cl ty = sp at *
  generalize bs (digN k) = dk at *
  have HA := Lib.hid (Blk.made w #[.int .i64 rq, .string cl, .int .i64 (ty : Int), .bool im, .bool sh, .int .i64 dl, .int .i64 4, .int .i64 ve, .int .i64 pr] 24)
  have HA' := Lib.hid (HA.out.alloc (.cells #[.int .i64 0, .string ⟨#[]⟩, .int .i64 0, .bool false, .bool false, .int .i64 0, .int .i64 0, .int .i64 0, .int .i64 0] 24))
  have HR := Lib.hid (blk_new (w.alloc (.cells #[.int .i64 rq, .string cl, .int .i64 (ty : Int), .bool im, .bool sh, .int .i64 dl, .int .i64 4, .int .i64 ve, .int .i64 pr] 24)) #[.int .i64 0, .string ⟨#[]⟩, .int .i64 0, .bool false, .bool false, .int .i64 0, .int .i64 0, .int .i64 0, .int .i64 0] 24 (B := w.heap.size + 1) (by simp))
  have HF := Lib.hid (((Frm.refl noB w).alloc (.cells #[.int .i64 rq, .string cl, .int .i64 (ty : Int), .bool im, .bool sh, .int .i64 dl, .int .i64 4, .int .i64 ve, .int .i64 pr] 24)).alloc (.cells #[.int .i64 0, .string ⟨#[]⟩, .int .i64 0, .bool false, .bool false, .int .i64 0, .int .i64 0, .int .i64 0, .int .i64 0] 24))
  have Hsp := Lib.hid hsp
  have Hit := Lib.hid hit
  have Hsh := Lib.hid hsh
  have Hss := Lib.hid hss
  have Hdk := Lib.hid hdk
  have H47 := Lib.hid h47
  have Hadd1 := Lib.hid hadd1
  have Hadd2 := Lib.hid hadd2
  have Hcl2 := Lib.hid hcl2
  clear hsp hit hsh hss hdk h47 hadd1 hadd2 hcl2
  go_enter Tryd.func7, Tryd.ntmps7
  go_upto_region 1 with fail
  go_wp2_with fail
  refine (Hsp.out _).mono ?_
  rintro e y1 ⟨rfl, hg1⟩
  have HA0 := Lib.hid (HA'.out.frm hg1 (fun h => h))
  have HR1 := Lib.hid (HR.out.frm hg1 (fun h => h))
  have HF1 := Lib.hid (HF.out.trans hg1)
  clear hg1
  have c0 := (HA0.out.cell 1).trans (show _ = some (Value.string cl) from rfl)
  have y0 := HA0.out.free 1
  have l0 := HA0.out.lt
  have hset := HA0.out.set 1 (.string cl2)
  rw [show (#[.int .i64 rq, .string cl, .int .i64 (ty : Int), .bool im, .bool sh, .int .i64 dl, .int .i64 4, .int .i64 ve, .int .i64 pr] : Array Value).setIfInBounds 1 (.string cl2) = #[.int .i64 rq, .string cl2, .int .i64 (ty : Int), .bool im, .bool sh, .int .i64 dl, .int .i64 4, .int .i64 ve, .int .i64 pr] from rfl] at hset
  have HA1 := Lib.hid hset
  go_wp2_with (refine wpl_add (by rfl) _ _ (by rfl) _ _ _ (by rfl) (by rfl) (Hadd1.out _) ?_)
  refine (Hit.out _).mono ?_
  rintro e y2 ⟨rfl, hyy⟩
  subst hyy
  go_upto_region 2 with (refine wpl_add (by rfl) _ _ (by rfl) _ _ _ (by rfl) (by rfl) (Hadd2.out _) ?_)
  have HR2 := Lib.hid (HR1.out.set_ne (a := ⟨w.heap.size, 1, none⟩) (by simp) (.string cl2))
  have HF2 := Lib.hid (HF1.out.setNew (p := ⟨w.heap.size, 1, none⟩) (Nat.le_refl _) (.string cl2))
  clear c0 y0 l0 hset
  generalize y1.setCell ⟨w.heap.size, 1, none⟩ (.string cl2) = W2 at *
  have c0 := (HA1.out.cell 2).trans (show _ = some (Value.int .i64 (ty : Int)) from rfl)
  have y0 := HA1.out.free 2
  have l0 := HA1.out.lt
  have hset := HA1.out.set 2 (.int .i64 0)
  rw [show (#[.int .i64 rq, .string cl2, .int .i64 (ty : Int), .bool im, .bool sh, .int .i64 dl, .int .i64 4, .int .i64 ve, .int .i64 pr] : Array Value).setIfInBounds 2 (.int .i64 0) = #[.int .i64 rq, .string cl2, .int .i64 0, .bool im, .bool sh, .int .i64 dl, .int .i64 4, .int .i64 ve, .int .i64 pr] from rfl] at hset
  have HA2 := Lib.hid hset
  go_upto_region 3 with fail
  have HR3 := Lib.hid (HR2.out.set_ne (a := ⟨w.heap.size, 2, none⟩) (by simp) (.int .i64 0))
  have HF3 := Lib.hid (HF2.out.setNew (p := ⟨w.heap.size, 2, none⟩) (Nat.le_refl _) (.int .i64 0))
  clear c0 y0 l0 hset
  generalize W2.setCell ⟨w.heap.size, 2, none⟩ (.int .i64 0) = W3 at *
  have c0 := (HA2.out.cell 5).trans (show _ = some (Value.int .i64 dl) from rfl)
  have y0 := HA2.out.free 5
  have l0 := HA2.out.lt
  have hset := HA2.out.set 5 (.int .i64 (dl - 1))
  rw [show (#[.int .i64 rq, .string cl2, .int .i64 0, .bool im, .bool sh, .int .i64 dl, .int .i64 4, .int .i64 ve, .int .i64 pr] : Array Value).setIfInBounds 5 (.int .i64 (dl - 1)) = #[.int .i64 rq, .string cl2, .int .i64 0, .bool im, .bool sh, .int .i64 (dl - 1), .int .i64 4, .int .i64 ve, .int .i64 pr] from rfl] at hset
  have HA3 := Lib.hid hset
  go_upto_region 4 with fail
  have HR4 := Lib.hid (HR3.out.set_ne (a := ⟨w.heap.size, 5, none⟩) (by simp) (.int .i64 (dl - 1)))
  have HF4 := Lib.hid (HF3.out.setNew (p := ⟨w.heap.size, 5, none⟩) (Nat.le_refl _) (.int .i64 (dl - 1)))
  clear c0 y0 l0 hset
  generalize W3.setCell ⟨w.heap.size, 5, none⟩ (.int .i64 (dl - 1)) = W4 at *
  have c0 := (HA3.out.cell 6).trans (show _ = some (Value.int .i64 4) from rfl)
  go_wp2_with fail
  refine (Hsh.out _).mono ?_
  rintro e y5 ⟨rfl, hg5⟩
  clear c0
  have HA3 := Lib.hid (HA3.out.frm hg5 (fun h => h))
  have HR5 := Lib.hid (HR4.out.frm hg5 (fun h => h))
  have HF5 := Lib.hid (HF4.out.trans hg5)
  clear hg5
  have c0 := (HA3.out.cell 6).trans (show _ = some (Value.int .i64 4) from rfl)
  have y0 := HA3.out.free 6
  have l0 := HA3.out.lt
  have hset := HA3.out.set 6 (.int .i64 1)
  rw [show (#[.int .i64 rq, .string cl2, .int .i64 0, .bool im, .bool sh, .int .i64 (dl - 1), .int .i64 4, .int .i64 ve, .int .i64 pr] : Array Value).setIfInBounds 6 (.int .i64 1) = #[.int .i64 rq, .string cl2, .int .i64 0, .bool im, .bool sh, .int .i64 (dl - 1), .int .i64 1, .int .i64 ve, .int .i64 pr] from rfl] at hset
  have HA4 := Lib.hid hset
  go_upto_region 5 with fail
  have HR6 := Lib.hid (HR5.out.set_ne (a := ⟨w.heap.size, 6, none⟩) (by simp) (.int .i64 1))
  have HF6 := Lib.hid (HF5.out.setNew (p := ⟨w.heap.size, 6, none⟩) (Nat.le_refl _) (.int .i64 1))
  clear c0 y0 l0 hset
  generalize y5.setCell ⟨w.heap.size, 6, none⟩ (.int .i64 1) = W6 at *
  have bL := HA4.out
  have bS := HR6.out
  go_wp2_with (first | (refine wpl_load_blk (by rfl) 24 _ (by rfl) _ (by rfl) _ _ (by exact bL) _ Tryd.underlying24 (by rfl) (by exact info_ctx) ?_) | (refine wpl_store_blk (by rfl) 24 _ _ (by rfl) _ (by rfl) _ _ (by exact bS) _ (by rfl) (by exact info_ctx) (by rfl) (by kernel_rfl) ?_; intro wz hRq hfq))
  exact bodyPost_ret (kid_res _ _ _ _ _ (by rfl) hRq (by rfl)) rfl ⟨rfl, HF6.out.new hfq (fun i hi e => by have e2 := (show _ = _ from e); omega)⟩
set_option maxRecDepth 100000 in
set_option maxHeartbeats 2000000 in
theorem split_0 (w : World) :
    Calls Tryd.prog 23 #[.int .i64 0, .int .i64 4] w fun e w' => e = .returned (.slice (some ⟨w.heap.size, 0, none⟩) 4 4) ∧ Blk w' w.heap.size #[.int .i64 0, .int .i64 0, .int .i64 0, .int .i64 0] 3 ∧ Frm noB w w' := by
  have hmk : (Instr.makeSlice 52 (.int .i64 4) (.int .i64 4)).run Tryd.prog w = .ok (.slice (some ⟨w.heap.size, 0, none⟩) 4 4) (w.alloc (.cells #[.int .i64 0, .int .i64 0, .int .i64 0, .int .i64 0] 3)) := by kernel_rfl
  have hB := Blk.made w #[.int .i64 0, .int .i64 0, .int .i64 0, .int .i64 0] 3
  have hf := (Frm.refl noB w).alloc (.cells #[.int .i64 0, .int .i64 0, .int .i64 0, .int .i64 0] 3)
  have HB := Lib.hid hB
  have Hf := Lib.hid hf
  clear hB hf
  go_enter Tryd.func23, Tryd.ntmps23
  go_wp2_with fail
  clear hmk
  go_loopw [13] (fun i wr => ((i = .int .i64 0 ∧ Blk wr w.heap.size #[.int .i64 0, .int .i64 0, .int .i64 0, .int .i64 0] 3) ∨ (i = .int .i64 1 ∧ Blk wr w.heap.size #[.int .i64 0, .int .i64 0, .int .i64 0, .int .i64 0] 3) ∨ (i = .int .i64 2 ∧ Blk wr w.heap.size #[.int .i64 0, .int .i64 0, .int .i64 0, .int .i64 0] 3) ∨ (i = .int .i64 3 ∧ Blk wr w.heap.size #[.int .i64 0, .int .i64 0, .int .i64 0, .int .i64 0] 3) ∨ (i = .int .i64 4 ∧ Blk wr w.heap.size #[.int .i64 0, .int .i64 0, .int .i64 0, .int .i64 0] 3)) ∧ Frm noB w wr) (fun i _ => 4 - (intOf i).toNat)
  case atStart => exact ⟨.inl ⟨rfl, HB.out⟩, Hf.out⟩
  case round =>
    obtain ⟨hc, hf⟩ := hrel
    rcases hc with ⟨rfl, hB⟩ | ⟨rfl, hB⟩ | ⟨rfl, hB⟩ | ⟨rfl, hB⟩ | ⟨rfl, hB⟩
    · have c0 := (hB.cell 0).trans (show _ = some (Value.int .i64 0) from rfl)
      have y0 := hB.free 0
      have l0 := hB.lt
      have hset := hB.set 0 (.int .i64 0)
      have hf2 := hf.setNew (p := ⟨w.heap.size, 0, none⟩) (Nat.le_refl _) (.int .i64 0)
      rw [show (#[.int .i64 0, .int .i64 0, .int .i64 0, .int .i64 0] : Array Value).setIfInBounds 0 (.int .i64 0) = #[.int .i64 0, .int .i64 0, .int .i64 0, .int .i64 0] from rfl] at hset
      have HB := Lib.hid hB
      have Hf := Lib.hid hf
      have Hset := Lib.hid hset
      have Hf2 := Lib.hid hf2
      clear hB hf hset hf2
      go_wp2_with fail
      go_roundw
      case rel => exact ⟨.inr (.inl ⟨rfl, Hset.out⟩), Hf2.out⟩
      case measure => simp [intOf]
    · have c0 := (hB.cell 1).trans (show _ = some (Value.int .i64 0) from rfl)
      have y0 := hB.free 1
      have l0 := hB.lt
      have hset := hB.set 1 (.int .i64 0)
      have hf2 := hf.setNew (p := ⟨w.heap.size, 1, none⟩) (Nat.le_refl _) (.int .i64 0)
      rw [show (#[.int .i64 0, .int .i64 0, .int .i64 0, .int .i64 0] : Array Value).setIfInBounds 1 (.int .i64 0) = #[.int .i64 0, .int .i64 0, .int .i64 0, .int .i64 0] from rfl] at hset
      have HB := Lib.hid hB
      have Hf := Lib.hid hf
      have Hset := Lib.hid hset
      have Hf2 := Lib.hid hf2
      clear hB hf hset hf2
      go_wp2_with fail
      go_roundw
      case rel => exact ⟨.inr (.inr (.inl ⟨rfl, Hset.out⟩)), Hf2.out⟩
      case measure => simp [intOf]
    · have c0 := (hB.cell 2).trans (show _ = some (Value.int .i64 0) from rfl)
      have y0 := hB.free 2
      have l0 := hB.lt
      have hset := hB.set 2 (.int .i64 0)
      have hf2 := hf.setNew (p := ⟨w.heap.size, 2, none⟩) (Nat.le_refl _) (.int .i64 0)
      rw [show (#[.int .i64 0, .int .i64 0, .int .i64 0, .int .i64 0] : Array Value).setIfInBounds 2 (.int .i64 0) = #[.int .i64 0, .int .i64 0, .int .i64 0, .int .i64 0] from rfl] at hset
      have HB := Lib.hid hB
      have Hf := Lib.hid hf
      have Hset := Lib.hid hset
      have Hf2 := Lib.hid hf2
      clear hB hf hset hf2
      go_wp2_with fail
      go_roundw
      case rel => exact ⟨.inr (.inr (.inr (.inl ⟨rfl, Hset.out⟩))), Hf2.out⟩
      case measure => simp [intOf]
    · have c0 := (hB.cell 3).trans (show _ = some (Value.int .i64 0) from rfl)
      have y0 := hB.free 3
      have l0 := hB.lt
      have hset := hB.set 3 (.int .i64 0)
      have hf2 := hf.setNew (p := ⟨w.heap.size, 3, none⟩) (Nat.le_refl _) (.int .i64 0)
      rw [show (#[.int .i64 0, .int .i64 0, .int .i64 0, .int .i64 0] : Array Value).setIfInBounds 3 (.int .i64 0) = #[.int .i64 0, .int .i64 0, .int .i64 0, .int .i64 0] from rfl] at hset
      have HB := Lib.hid hB
      have Hf := Lib.hid hf
      have Hset := Lib.hid hset
      have Hf2 := Lib.hid hf2
      clear hB hf hset hf2
      go_wp2_with fail
      go_roundw
      case rel => exact ⟨.inr (.inr (.inr (.inr (⟨rfl, Hset.out⟩)))), Hf2.out⟩
      case measure => simp [intOf]
    · skip
      have HB := Lib.hid hB
      have Hf := Lib.hid hf
      clear hB hf
      go_wp2_with fail
      go_ret
      exact ⟨rfl, HB.out, Hf.out⟩
set_option maxHeartbeats 2000000 in
theorem share_0 (k : Nat) (hk : k < 4) (w : World) :
    Calls Tryd.prog 17 #[.int .i64 0, .int .i64 4, .int .i64 (k : Int)] w fun e w' => e = .returned (.int .i64 0) ∧ Frm noB w w' := by
  have hsp := split_0 w
  have t0 : decide ((k : Int) < 0) = false := decide_eq_false (by omega)
  have t1 : decide ((4 : Int) ≤ (k : Int)) = false := decide_eq_false (by omega)
  have i1 : (0 : Int) ≤ (k : Int) := by omega
  have i2 : (k : Int) < 4 := by omega
  have hat : (#[.int .i64 0, .int .i64 0, .int .i64 0, .int .i64 0] : Array Value)[k]? = some (.int .i64 0) := by
    have hc : k = 0 ∨ k = 1 ∨ k = 2 ∨ k = 3 := by omega
    rcases hc with rfl | rfl | rfl | rfl <;> rfl
  have Hsp := Lib.hid hsp
  have Hat := Lib.hid hat
  clear hsp hat
  go_enter Tryd.func17, Tryd.ntmps17
  go_wp2_with fail
  refine Hsp.out.mono ?_
  rintro e y ⟨rfl, hB, hf⟩
  have c0 := (hB.cell k).trans Hat.out
  have HB := Lib.hid hB
  have Hf := Lib.hid hf
  clear hB hf
  go_wp2_with fail
  go_ret
  exact ⟨rfl, Hf.out⟩
set_option maxRecDepth 100000 in
set_option maxHeartbeats 4000000 in
theorem kid_0 (rq : Int) (cl : ByteArray) (ty : Nat) (im sh : Bool) (dl ve pr : Int) (k : Nat) (w : World) (hty : ty < 100) (hk : k < 4) (hcl : cl.size ≤ 1000) (hdl0 : -1000000 ≤ dl) (hdl1 : dl ≤ 1000000) :
    Calls Tryd.prog 7 #[.agg #[.int .i64 rq, .string cl, .int .i64 (ty : Int), .bool im, .bool sh, .int .i64 dl, .int .i64 0, .int .i64 ve, .int .i64 pr], .int .i64 (k : Int), .int .i64 4, .int .i64 1] w fun e w' => e = .returned (.agg #[.int .i64 rq, .string (spanL cl ty ++ ⟨#[47]⟩ ++ bs (digN k)), .int .i64 0, .bool im, .bool sh, .int .i64 (dl - 1), .int .i64 0, .int .i64 ve, .int .i64 pr]) ∧ Frm noB w w' := by
  have hsp := fun w => cspan_any rq cl ty im sh dl 0 ve pr w hty hcl
  have hit := fun w => itoa_any k (by omega) w
  have hsh := fun w => share_0 k hk w
  have hss : (spanL cl ty).size ≤ 1003 := by
    unfold spanL
    split
    · rw [ByteArray.size_append, ByteArray.size_append, bs_size]
      have := digN_len_le 1 ty (by omega)
      have : (⟨#[58]⟩ : ByteArray).size = 1 := rfl
      omega
    · omega
  have hdk : (bs (digN k)).size ≤ 2 := by rw [bs_size]; exact digN_len_le 1 k (by omega)
  have h47 : (⟨#[47]⟩ : ByteArray).size = 1 := rfl
  have hadd1 := fun w => run_cat (spanL cl ty) (⟨#[47]⟩ : ByteArray) (by omega) w
  have hadd2 := fun w => run_cat (spanL cl ty ++ (⟨#[47]⟩ : ByteArray)) (bs (digN k)) (by rw [ByteArray.size_append]; omega) w
  obtain ⟨cl2, hcl2⟩ : ∃ x, x = spanL cl ty ++ (⟨#[47]⟩ : ByteArray) ++ bs (digN k) := ⟨_, rfl⟩
  rw [← hcl2] at hadd2 ⊢
  generalize spanL cl ty = sp at *
  generalize bs (digN k) = dk at *
  have HA := Lib.hid (Blk.made w #[.int .i64 rq, .string cl, .int .i64 (ty : Int), .bool im, .bool sh, .int .i64 dl, .int .i64 0, .int .i64 ve, .int .i64 pr] 24)
  have HA' := Lib.hid (HA.out.alloc (.cells #[.int .i64 0, .string ⟨#[]⟩, .int .i64 0, .bool false, .bool false, .int .i64 0, .int .i64 0, .int .i64 0, .int .i64 0] 24))
  have HR := Lib.hid (blk_new (w.alloc (.cells #[.int .i64 rq, .string cl, .int .i64 (ty : Int), .bool im, .bool sh, .int .i64 dl, .int .i64 0, .int .i64 ve, .int .i64 pr] 24)) #[.int .i64 0, .string ⟨#[]⟩, .int .i64 0, .bool false, .bool false, .int .i64 0, .int .i64 0, .int .i64 0, .int .i64 0] 24 (B := w.heap.size + 1) (by simp))
  have HF := Lib.hid (((Frm.refl noB w).alloc (.cells #[.int .i64 rq, .string cl, .int .i64 (ty : Int), .bool im, .bool sh, .int .i64 dl, .int .i64 0, .int .i64 ve, .int .i64 pr] 24)).alloc (.cells #[.int .i64 0, .string ⟨#[]⟩, .int .i64 0, .bool false, .bool false, .int .i64 0, .int .i64 0, .int .i64 0, .int .i64 0] 24))
  have Hsp := Lib.hid hsp
  have Hit := Lib.hid hit
  have Hsh := Lib.hid hsh
  have Hss := Lib.hid hss
  have Hdk := Lib.hid hdk
  have H47 := Lib.hid h47
  have Hadd1 := Lib.hid hadd1
  have Hadd2 := Lib.hid hadd2
  have Hcl2 := Lib.hid hcl2
  clear hsp hit hsh hss hdk h47 hadd1 hadd2 hcl2
  go_enter Tryd.func7, Tryd.ntmps7
  go_upto_region 1 with fail
  go_wp2_with fail
  refine (Hsp.out _).mono ?_
  rintro e y1 ⟨rfl, hg1⟩
  have HA0 := Lib.hid (HA'.out.frm hg1 (fun h => h))
  have HR1 := Lib.hid (HR.out.frm hg1 (fun h => h))
  have HF1 := Lib.hid (HF.out.trans hg1)
  clear hg1
  have c0 := (HA0.out.cell 1).trans (show _ = some (Value.string cl) from rfl)
  have y0 := HA0.out.free 1
  have l0 := HA0.out.lt
  have hset := HA0.out.set 1 (.string cl2)
  rw [show (#[.int .i64 rq, .string cl, .int .i64 (ty : Int), .bool im, .bool sh, .int .i64 dl, .int .i64 0, .int .i64 ve, .int .i64 pr] : Array Value).setIfInBounds 1 (.string cl2) = #[.int .i64 rq, .string cl2, .int .i64 (ty : Int), .bool im, .bool sh, .int .i64 dl, .int .i64 0, .int .i64 ve, .int .i64 pr] from rfl] at hset
  have HA1 := Lib.hid hset
  go_wp2_with (refine wpl_add (by rfl) _ _ (by rfl) _ _ _ (by rfl) (by rfl) (Hadd1.out _) ?_)
  refine (Hit.out _).mono ?_
  rintro e y2 ⟨rfl, hyy⟩
  subst hyy
  go_upto_region 2 with (refine wpl_add (by rfl) _ _ (by rfl) _ _ _ (by rfl) (by rfl) (Hadd2.out _) ?_)
  have HR2 := Lib.hid (HR1.out.set_ne (a := ⟨w.heap.size, 1, none⟩) (by simp) (.string cl2))
  have HF2 := Lib.hid (HF1.out.setNew (p := ⟨w.heap.size, 1, none⟩) (Nat.le_refl _) (.string cl2))
  clear c0 y0 l0 hset
  generalize y1.setCell ⟨w.heap.size, 1, none⟩ (.string cl2) = W2 at *
  have c0 := (HA1.out.cell 2).trans (show _ = some (Value.int .i64 (ty : Int)) from rfl)
  have y0 := HA1.out.free 2
  have l0 := HA1.out.lt
  have hset := HA1.out.set 2 (.int .i64 0)
  rw [show (#[.int .i64 rq, .string cl2, .int .i64 (ty : Int), .bool im, .bool sh, .int .i64 dl, .int .i64 0, .int .i64 ve, .int .i64 pr] : Array Value).setIfInBounds 2 (.int .i64 0) = #[.int .i64 rq, .string cl2, .int .i64 0, .bool im, .bool sh, .int .i64 dl, .int .i64 0, .int .i64 ve, .int .i64 pr] from rfl] at hset
  have HA2 := Lib.hid hset
  go_upto_region 3 with fail
  have HR3 := Lib.hid (HR2.out.set_ne (a := ⟨w.heap.size, 2, none⟩) (by simp) (.int .i64 0))
  have HF3 := Lib.hid (HF2.out.setNew (p := ⟨w.heap.size, 2, none⟩) (Nat.le_refl _) (.int .i64 0))
  clear c0 y0 l0 hset
  generalize W2.setCell ⟨w.heap.size, 2, none⟩ (.int .i64 0) = W3 at *
  have c0 := (HA2.out.cell 5).trans (show _ = some (Value.int .i64 dl) from rfl)
  have y0 := HA2.out.free 5
  have l0 := HA2.out.lt
  have hset := HA2.out.set 5 (.int .i64 (dl - 1))
  rw [show (#[.int .i64 rq, .string cl2, .int .i64 0, .bool im, .bool sh, .int .i64 dl, .int .i64 0, .int .i64 ve, .int .i64 pr] : Array Value).setIfInBounds 5 (.int .i64 (dl - 1)) = #[.int .i64 rq, .string cl2, .int .i64 0, .bool im, .bool sh, .int .i64 (dl - 1), .int .i64 0, .int .i64 ve, .int .i64 pr] from rfl] at hset
  have HA3 := Lib.hid hset
  go_upto_region 4 with fail
  have HR4 := Lib.hid (HR3.out.set_ne (a := ⟨w.heap.size, 5, none⟩) (by simp) (.int .i64 (dl - 1)))
  have HF4 := Lib.hid (HF3.out.setNew (p := ⟨w.heap.size, 5, none⟩) (Nat.le_refl _) (.int .i64 (dl - 1)))
  clear c0 y0 l0 hset
  generalize W3.setCell ⟨w.heap.size, 5, none⟩ (.int .i64 (dl - 1)) = W4 at *
  have c0 := (HA3.out.cell 6).trans (show _ = some (Value.int .i64 0) from rfl)
  go_wp2_with fail
  refine (Hsh.out _).mono ?_
  rintro e y5 ⟨rfl, hg5⟩
  clear c0
  have HA3 := Lib.hid (HA3.out.frm hg5 (fun h => h))
  have HR5 := Lib.hid (HR4.out.frm hg5 (fun h => h))
  have HF5 := Lib.hid (HF4.out.trans hg5)
  clear hg5
  have c0 := (HA3.out.cell 6).trans (show _ = some (Value.int .i64 0) from rfl)
  have y0 := HA3.out.free 6
  have l0 := HA3.out.lt
  have hset := HA3.out.set 6 (.int .i64 0)
  rw [show (#[.int .i64 rq, .string cl2, .int .i64 0, .bool im, .bool sh, .int .i64 (dl - 1), .int .i64 0, .int .i64 ve, .int .i64 pr] : Array Value).setIfInBounds 6 (.int .i64 0) = #[.int .i64 rq, .string cl2, .int .i64 0, .bool im, .bool sh, .int .i64 (dl - 1), .int .i64 0, .int .i64 ve, .int .i64 pr] from rfl] at hset
  have HA4 := Lib.hid hset
  go_upto_region 5 with fail
  have HR6 := Lib.hid (HR5.out.set_ne (a := ⟨w.heap.size, 6, none⟩) (by simp) (.int .i64 0))
  have HF6 := Lib.hid (HF5.out.setNew (p := ⟨w.heap.size, 6, none⟩) (Nat.le_refl _) (.int .i64 0))
  clear c0 y0 l0 hset
  generalize y5.setCell ⟨w.heap.size, 6, none⟩ (.int .i64 0) = W6 at *
  have bL := HA4.out
  have bS := HR6.out
  go_wp2_with (first | (refine wpl_load_blk (by rfl) 24 _ (by rfl) _ (by rfl) _ _ (by exact bL) _ Tryd.underlying24 (by rfl) (by exact info_ctx) ?_) | (refine wpl_store_blk (by rfl) 24 _ _ (by rfl) _ (by rfl) _ _ (by exact bS) _ (by rfl) (by exact info_ctx) (by rfl) (by kernel_rfl) ?_; intro wz hRq hfq))
  exact bodyPost_ret (kid_res _ _ _ _ _ (by rfl) hRq (by rfl)) rfl ⟨rfl, HF6.out.new hfq (fun i hi e => by have e2 := (show _ = _ from e); omega)⟩
set_option maxRecDepth 100000 in
set_option maxHeartbeats 4000000 in
theorem copy_any (rq : Int) (cl : ByteArray) (ty : Int) (im sh : Bool) (dl pu ve pr : Int) (w : World) (hcl : cl.size ≤ 1000) :
    Calls Tryd.prog 8 #[.agg #[.int .i64 rq, .string cl, .int .i64 ty, .bool im, .bool sh, .int .i64 dl, .int .i64 pu, .int .i64 ve, .int .i64 pr]] w fun e w' => e = .returned (.agg #[.int .i64 rq, .string (cl ++ ⟨#[126]⟩), .int .i64 ty, .bool im, .bool true, .int .i64 dl, .int .i64 0, .int .i64 ve, .int .i64 pr]) ∧ Frm noB w w' := by
  have h1 : (⟨#[126]⟩ : ByteArray).size = 1 := rfl
  have hadd := fun w => run_cat cl (⟨#[126]⟩ : ByteArray) (by omega) w
  generalize cl ++ (⟨#[126]⟩ : ByteArray) = cl2 at *
  have Hadd := Lib.hid hadd
  have H1 := Lib.hid h1
  clear hadd h1
  go_enter Tryd.func8, Tryd.ntmps8
  go_wp2_with (refine wpl_add (by rfl) _ _ (by rfl) _ _ _ (by rfl) (by rfl) (Hadd.out _) ?_)
  exact bodyPost_ret (v := .agg #[.int .i64 rq, .string cl2, .int .i64 ty, .bool im, .bool true, .int .i64 dl, .int .i64 0, .int .i64 ve, .int .i64 pr]) (by simp [results, Tryd.results8, go_sem]) rfl ⟨rfl, ((Frm.refl noB w).alloc _).alloc _⟩
end Go.Proofs.YtnmcdecdgcnmbaaDoor
