/- Over of the reference of layer 29. -/
import Derived.Test.YtdamhohoeobfgaaDoorSampleMisc
import Derived.Test.YtdamhohoeobfgaaDoorSampleTot
import Derived.Deep.DeepCutAuto
set_option linter.unusedVariables false
set_option linter.unusedSimpArgs false
namespace Go.Proofs.YtdamhohoeobfgaaDoor
open Go.RowKit

theorem info_T : (Tryd.prog.info? 29).map (·.size) = some 4 := by kernel_rfl
theorem rover_res (tmps : Array Value) (w : World) (B : Nat) (cs : Array Value) (T : TypeId) (v : Value) (h : tmps[8]?.getD undef = .pointer (some ⟨B, 0, none⟩)) (h9 : tmps[9]?.getD undef = v) (hB : Blk w B cs T) (hs : cs.size = 4) :
    (results Tryd.f15 tmps).run Tryd.prog w = .ok (.tuple #[.agg cs, v]) w := by
  have hl := run_loadVar_mid (P := Tryd.prog) w B 0 29 cs.toList _ (fun j v hv => by rw [Nat.zero_add, hB.cell]; simpa using hv) Tryd.underlying29 rfl (by rw [Array.length_toList, hs]; exact info_T)
  simp only [Array.toArray_toList] at hl
  simp [results, Tryd.results15, asAddr, h, h9, hl]
theorem radd_res (tmps : Array Value) (w : World) (B : Nat) (cs : Array Value) (T : TypeId) (v : Value) (h : tmps[4]?.getD undef = .pointer (some ⟨B, 0, none⟩)) (h9 : tmps[5]?.getD undef = v) (hB : Blk w B cs T) (hs : cs.size = 4) :
    (results Tryd.f19 tmps).run Tryd.prog w = .ok (.tuple #[.agg cs, v]) w := by
  have hl := run_loadVar_mid (P := Tryd.prog) w B 0 29 cs.toList _ (fun j v hv => by rw [Nat.zero_add, hB.cell]; simpa using hv) Tryd.underlying29 rfl (by rw [Array.length_toList, hs]; exact info_T)
  simp only [Array.toArray_toList] at hl
  simp [results, Tryd.results19, asAddr, h, h9, hl]
set_option maxRecDepth 100000 in
set_option maxHeartbeats 4000000 in
theorem rover_any (m p s : Int) (v : Value) (L : List Spn) (base : Nat) (r took : Int) (well : Bool) (w : World) (h : Own spnE w base 39 v L) (hL : L.length ≤ 100000) (hN : ∀ s ∈ L, NmS s) (r0 : 0 ≤ r) (r1 : r < 100) :
    Calls Tryd.prog 15 #[.agg #[.int .i64 m, .int .i64 p, .int .i64 s, v], .int .i64 r, .bool well, .int .i64 took] w fun e w' => ∃ v1 v2, e = .returned (.tuple #[.agg #[.int .i64 m, .int .i64 p, .int .i64 s, v1], v2]) ∧
      Own spnE w' w.heap.size 39 v1 (othersL L r) ∧ Own spnE w' w.heap.size 39 v2 (overL well took s p L r) ∧ Frm noB w w' := by
  obtain ⟨va, vc, hve, _, _⟩ := h.shape
  obtain ⟨n, hn⟩ : ∃ n, n = L.length := ⟨_, rfl⟩
  rw [← hn] at hve
  subst hve
  obtain ⟨W1, hW1⟩ : ∃ X, X = (w.alloc (.cells #[.int .i64 m, .int .i64 p, .int .i64 s, .slice va n vc] 29)).alloc (.cells #[.int .i64 0, .int .i64 0, .int .i64 0, .slice none 0 0] 29) := ⟨_, rfl⟩
  have hb1 : Blk W1 w.heap.size #[.int .i64 m, .int .i64 p, .int .i64 s, .slice va n vc] 29 := by rw [hW1]; exact (Blk.made w _ _).alloc _
  have hb2 : Blk W1 (w.heap.size + 1) #[.int .i64 0, .int .i64 0, .int .i64 0, .slice none 0 0] 29 := by
    rw [hW1]
    have := Blk.made (w.alloc (.cells #[.int .i64 m, .int .i64 p, .int .i64 s, .slice va n vc] 29)) #[.int .i64 0, .int .i64 0, .int .i64 0, .slice none 0 0] 29
    rw [World.size_alloc] at this
    exact this
  have hF1 : Frm noB w W1 := by rw [hW1]; exact ((Frm.refl noB w).alloc _).alloc _
  have hof := of_any _ L base r W1 (h.keep hF1) hL hN
  have hhd := fun W => rhead_any r p W (by omega) (by omega)
  have hkb : keepB well took s r p = !(well && decide (took < s) && !headB r p) := rfl
  have hol : overL well took s p L r = if keepB well took s r p = true then ofL L r else [] := rfl
  obtain ⟨hb, hhb⟩ : ∃ x, x = headB r p := ⟨_, rfl⟩
  rw [← hhb] at hkb hhd
  obtain ⟨B1, hB1⟩ : ∃ B, B = w.heap.size := ⟨_, rfl⟩
  have hz1 := hF1.size
  have Hh := Lib.hid h
  have HL := Lib.hid hL
  have HN := Lib.hid hN
  have Hn := Lib.hid hn
  have Hb1 := Lib.hid hb1
  have Hb2 := Lib.hid hb2
  have HF1 := Lib.hid hF1
  have Hof := Lib.hid hof
  have Hhd := Lib.hid hhd
  have Hkb := Lib.hid hkb
  have Hol := Lib.hid hol
  have Hhb := Lib.hid hhb
  clear h hL hN hn hb1 hb2 hF1 hof hhd hkb hol hhb
  go_enter Tryd.func15, Tryd.ntmps15
  go_wp2_with fail
  try simp only [World.size_alloc]
  rw [← hW1]
  have HW1 := Lib.hid hW1
  clear hW1
  refine Hof.out.mono ?_
  rintro e w2 ⟨v1, v2, rfl, h1, h2, hf2, hap⟩
  obtain ⟨xa, xc, hxe, _, _⟩ := h1.shape
  obtain ⟨xn, hxn⟩ : ∃ n, n = (ofL L r).length := ⟨_, rfl⟩
  rw [← hxn] at hxe
  subst hxe
  obtain ⟨ya, yc, hye, _, _⟩ := h2.shape
  obtain ⟨yn, hyn⟩ : ∃ n, n = (othersL L r).length := ⟨_, rfl⟩
  rw [← hyn] at hye
  subst hye
  have hB := Hb1.out.frm hf2 (fun h => h)
  have hC := Hb2.out.frm hf2 (fun h => h)
  have z3 := (hB.cell 3).trans (show _ = some (Value.slice va n vc) from rfl)
  have zf := hB.free 3
  have zl := hB.lt
  obtain ⟨W3, hW3⟩ : ∃ X, World.setCell w2 ⟨w.heap.size, 3, none⟩ (.slice ya yn yc) = X := ⟨_, rfl⟩
  have hB3 : Blk W3 w.heap.size #[.int .i64 m, .int .i64 p, .int .i64 s, .slice ya yn yc] 29 := by
    have := hB.set 3 (.slice ya yn yc)
    rw [hW3] at this
    exact this
  have hf3 : Frm (oneB w.heap.size) w2 W3 := by rw [← hW3]; exact (Frm.refl _ _).setOne 3 _
  have hC3 := hC.frm hf3 (fun e => by have e2 : w.heap.size + 1 = w.heap.size := e; omega)
  have h13 := h1.frm hf3 (fun i hi e => by have e2 : i = w.heap.size := e; have := (h1.lt i hi).1; have := HF1.out.size; have := Hb2.out.lt; omega)
  have h23 := h2.frm hf3 (fun i hi e => by have e2 : i = w.heap.size := e; have := (h2.lt i hi).1; have := HF1.out.size; have := Hb2.out.lt; omega)
  have hF3 := (HF1.out.trans hf2).new hf3 (fun i hi e => by have e2 : i = w.heap.size := e; omega)
  have x1 := (hB3.cell 1).trans (show _ = some (Value.int .i64 p) from rfl)
  have xl := hB3.lt
  have Hxn := Lib.hid hxn
  have Hyn := Lib.hid hyn
  have Hf2 := Lib.hid hf2
  have Hap := Lib.hid hap
  have H1 := Lib.hid h1
  have H2 := Lib.hid h2
  have HB := Lib.hid hB
  have HC := Lib.hid hC
  have HB3 := Lib.hid hB3
  have Hf3 := Lib.hid hf3
  have HC3 := Lib.hid hC3
  have H13 := Lib.hid h13
  have H23 := Lib.hid h23
  have HF3 := Lib.hid hF3
  clear hxn hyn hf2 hap h1 h2 hB hC hB3 hf3 hC3 h13 h23 hF3
  go_wp2_with fail
  refine (Hhd.out _).mono ?_
  rintro e W4 ⟨rfl, hf4⟩
  have c2 := ((HB3.out.frm hf4 (fun h => h)).cell 2).trans (show _ = some (Value.int .i64 s) from rfl)
  have cl := (HB3.out.frm hf4 (fun h => h)).lt
  clear hW3 z3 zf zl x1 xl
  have Hf4 := Lib.hid hf4
  clear hf4
  go_upto_region 4 with fail
  go_cut [36] (fun s36 wx => s36 = .bool (!keepB well took s r p) ∧ Frm noB W4 wx)
  case first =>
    cases well with
    | false =>
      go_wp2_with fail
      go_meet
      exact ⟨by rw [Hkb.out]; rfl, Frm.refl _ _⟩
    | true =>
      by_cases ht : took < s
      · go_wp2_with fail
        go_meet
        exact ⟨by rw [Hkb.out, decide_eq_true ht]; cases hb <;> rfl, Frm.refl _ _⟩
      · go_wp2_with fail
        go_meet
        exact ⟨by rw [Hkb.out, decide_eq_false (by omega)]; cases hb <;> rfl, Frm.refl _ _⟩
  case rest =>
    obtain ⟨rfl, hfx⟩ := hcut
    clear c2 cl
    have hf5 := Hf4.out.trans hfx
    have hB5 := HB3.out.frm hf5 (fun h => h)
    have hC5 := HC3.out.frm hf5 (fun h => h)
    have h15 := H13.out.keep hf5
    have h25 := H23.out.keep hf5
    have h5F := HF3.out.trans hf5
    obtain ⟨kb, hkk⟩ : ∃ x, x = keepB well took s r p := ⟨_, rfl⟩
    have hol := Hol.out
    rw [← hkk] at hol ⊢
    have Hol := Lib.hid hol
    have Hfx := Lib.hid hfx
    have Hf5 := Lib.hid hf5
    have HB5 := Lib.hid hB5
    have HC5 := Lib.hid hC5
    have H15 := Lib.hid h15
    have H25 := Lib.hid h25
    have H5F := Lib.hid h5F
    have Hkk := Lib.hid hkk
    clear hol hfx hf5 hB5 hC5 h15 h25 h5F hkk
    cases kb with
    | true =>
      simp only [Bool.not_true]
      go_wp2_with (first | (refine wpl_load_blk (by rfl) 29 _ (by rfl) _ (by rfl) _ _ (by exact HB5.out) _ Tryd.underlying29 (by rfl) (by exact info_T) ?_) | (refine wpl_store_blk (by rfl) 29 _ _ (by rfl) _ (by rfl) _ _ (by exact HC5.out) _ (by rfl) (by exact info_T) (by rfl) (by kernel_rfl) ?_; intro wz hRq hfq; refine Hid.out ?_))
      refine Lib.hid ?_
      go_wp2_with fail
      refine bodyPost_ret (rover_res _ _ _ _ _ _ rfl rfl hRq rfl) rfl ?_
      have hsep : ∀ (u : Value) (l : List Spn), Own spnE wc W1.heap.size 39 u l → Own spnE wz w.heap.size 39 u l := fun u l hu =>
        (hu.frm hfq (fun i hi e => by have e2 : i = w.heap.size + 1 := e; have := (hu.lt i hi).1; have := Hb2.out.lt; omega)).base hz1
      exact ⟨_, _, rfl, hsep _ _ H25.out, by rw [show overL well took s p L r = ofL L r by rw [Hol.out]; simp]; exact hsep _ _ H15.out, H5F.out.new hfq (fun i hi e => by have e2 : i = w.heap.size + 1 := e; omega)⟩
    | false =>
      simp only [Bool.not_false]
      go_wp2_with (first | (refine wpl_load_blk (by rfl) 29 _ (by rfl) _ (by rfl) _ _ (by exact HB5.out) _ Tryd.underlying29 (by rfl) (by exact info_T) ?_) | (refine wpl_store_blk (by rfl) 29 _ _ (by rfl) _ (by rfl) _ _ (by exact HC5.out) _ (by rfl) (by exact info_T) (by rfl) (by kernel_rfl) ?_; intro wz hRq hfq; refine Hid.out ?_))
      refine Lib.hid ?_
      go_wp2_with fail
      refine bodyPost_ret (rover_res _ _ _ _ _ _ rfl rfl hRq rfl) rfl ?_
      have hsep : ∀ (u : Value) (l : List Spn), Own spnE wc W1.heap.size 39 u l → Own spnE wz w.heap.size 39 u l := fun u l hu =>
        (hu.frm hfq (fun i hi e => by have e2 : i = w.heap.size + 1 := e; have := (hu.lt i hi).1; have := Hb2.out.lt; omega)).base hz1
      exact ⟨_, _, rfl, hsep _ _ H25.out, by rw [show overL well took s p L r = [] by rw [Hol.out]; simp]; exact Own.nil _ _ _ _, H5F.out.new hfq (fun i hi e => by have e2 : i = w.heap.size + 1 := e; omega)⟩
end Go.Proofs.YtdamhohoeobfgaaDoor
