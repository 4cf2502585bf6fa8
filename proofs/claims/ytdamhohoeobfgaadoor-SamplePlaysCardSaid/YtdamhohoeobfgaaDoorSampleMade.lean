/- made of the statements of layer 29. -/
import Derived.Test.YtdamhohoeobfgaaDoorSampleRAdd
set_option linter.unusedVariables false
set_option linter.unusedSimpArgs false
namespace Go.Proofs.YtdamhohoeobfgaaDoor
open Go.RowKit

theorem made_res (tmps : Array Value) (w : World) (B : Nat) (cs : Array Value) (T : TypeId) (v : Value) (h : tmps[7]?.getD undef = .pointer (some ⟨B, 0, none⟩)) (h9 : tmps[6]?.getD undef = v) (hB : Blk w B cs T) (hs : cs.size = 4) :
    (results Tryd.f14 tmps).run Tryd.prog w = .ok (.tuple #[v, .agg cs]) w := by
  have hl := run_loadVar_mid (P := Tryd.prog) w B 0 29 cs.toList _ (fun j v hv => by rw [Nat.zero_add, hB.cell]; simpa using hv) Tryd.underlying29 rfl (by rw [Array.length_toList, hs]; exact info_T)
  simp only [Array.toArray_toList] at hl
  simp [results, Tryd.results14, asAddr, h, h9, hl]
set_option maxRecDepth 100000 in
set_option maxHeartbeats 4000000 in
theorem made_any (a0 a1 a2 : Int) (w : World) (p0 : -9223372036854775808 ≤ a0) (p1 : a0 ≤ 9223372036854775807) (q0 : -9223372036854775808 ≤ a1) (q1 : a1 ≤ 9223372036854775807) (r0 : -9223372036854775808 ≤ a2) (r1 : a2 ≤ 9223372036854775807) :
    Calls Tryd.prog 14 #[.int .i64 a0, .int .i64 a1, .int .i64 a2] w fun e w' => ∃ (mm : Nat) (p s : Int) (b : Nat) (O : Nat → Prop), e = .returned (.tuple #[.pointer (some ⟨b, 0, none⟩), .agg #[.int .i64 (mm : Int), .int .i64 p, .int .i64 s, .slice none 0 0]]) ∧ 1 ≤ mm ∧ mm ≤ 5 ∧ TL w w' b (mm : Int) p s [] 0 O := by
  have har := fun W => around_any a0 5 W p0 p1 (by omega) (by omega)
  have har2 := fun W => around_any a1 101 W q0 q1 (by omega) (by omega)
  have har3 := fun W => around_any a2 30 W r0 r1 (by omega) (by omega)
  have hq := around_lt a0 5 (by omega)
  have hp := around_lt a1 101 (by omega)
  have hs := around_lt a2 30 (by omega)
  generalize around a0 5 = q at *
  generalize around a1 101 = p at *
  generalize around a2 30 = s at *
  obtain ⟨mm, hmm⟩ : ∃ mm : Nat, (mm : Int) = 1 + (q : Int) := ⟨1 + q, by omega⟩
  have hm1 : 1 ≤ mm := by omega
  have hm5 : mm ≤ 5 := by omega
  obtain ⟨W1, hW1⟩ : ∃ X, X = w.alloc (.cells #[.int .i64 0, .int .i64 0, .int .i64 0, .slice none 0 0] 29) := ⟨_, rfl⟩
  have hb1 : Blk W1 w.heap.size #[.int .i64 0, .int .i64 0, .int .i64 0, .slice none 0 0] 29 := by rw [hW1]; exact Blk.made w _ _
  have hF1 : Frm noB w W1 := by rw [hW1]; exact (Frm.refl noB w).alloc _
  have hq5 : q < 5 := by omega
  have Har := Lib.hid har
  have Har2 := Lib.hid har2
  have Har3 := Lib.hid har3
  have Hq := Lib.hid hq
  have Hp := Lib.hid hp
  have Hs := Lib.hid hs
  have Hmm := Lib.hid hmm
  have Hb1 := Lib.hid hb1
  have HF1 := Lib.hid hF1
  clear har har2 har3 hq hp hs hmm hb1 hF1
  go_enter Tryd.func14, Tryd.ntmps14
  go_wp2_with fail
  rw [← hW1]
  have HW1 := Lib.hid hW1
  clear hW1
  refine (Har.out _).mono ?_
  rintro e v0 ⟨rfl, rfl⟩
  go_wp2_with fail
  refine (Har2.out _).mono ?_
  rintro e v0 ⟨rfl, rfl⟩
  go_wp2_with fail
  refine (Har3.out _).mono ?_
  rintro e v0 ⟨rfl, rfl⟩
  go_wp2_with fail
  rw [← Hmm.out]
  refine (TL.start (mm : Int) (p : Int) (s : Int) _).mono ?_
  rintro e v1 ⟨b, O1, rfl, h1⟩
  have hb2 := Hb1.out.frm h1.frm (fun h => h)
  have hnO : ¬ O1 w.heap.size := fun h => by have := h1.new _ h; have := Hb1.out.lt; omega
  have H1 := Lib.hid h1
  have Hb2 := Lib.hid hb2
  have HnO := Lib.hid hnO
  clear h1 hb2 hnO
  go_wp2_with (first | (refine wpl_store_blk (by rfl) 29 _ _ (by rfl) _ (by rfl) _ _ (by exact Hb2.out) _ (by rfl) (by exact info_T) (by rfl) (by kernel_rfl) ?_; intro wz hRq hfq; refine Hid.out ?_))
  refine Lib.hid ?_
  go_wp2_with fail
  refine bodyPost_ret (made_res _ _ _ _ _ _ rfl rfl hRq rfl) rfl ?_
  have h2 : TL w wz b (mm : Int) (p : Int) (s : Int) [] 0 O1 :=
    ⟨H1.out.tail.frm hfq (fun i hi e => by have e2 : i = w.heap.size := e; exact HnO.out (e2 ▸ hi)), fun i hi => Nat.le_trans HF1.out.size (H1.out.new i hi), (HF1.out.trans H1.out.frm).new hfq (fun i hi e => by have e2 : i = w.heap.size := e; omega)⟩
  exact ⟨mm, (p : Int), (s : Int), b, O1, rfl, hm1, hm5, h2⟩
end Go.Proofs.YtdamhohoeobfgaaDoor
