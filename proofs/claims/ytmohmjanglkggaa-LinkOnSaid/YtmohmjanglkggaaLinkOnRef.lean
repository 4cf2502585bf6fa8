/- On of the reference. -/
import Derived.Test.YtmohmjanglkggaaLinkOnC
set_option linter.unusedVariables false
namespace Go.Proofs.Ytmohmjanglkggaa
open Go.RowKit

theorem ref_on_res (tmps : Array Value) (w : World) (R : Nat) (v0 v1 v2 v3 v4 v5 : Value) (b : Bool) (h8 : tmps[8]?.getD undef = .pointer (some ⟨R, 0, none⟩)) (h9 : tmps[9]?.getD undef = .bool b) (hB : Blk w R #[v0, v1, v2, v3, v4, v5] 41) :
    (results Try.f18 tmps).run Try.prog w = .ok (.tuple #[.agg #[v0, v1, v2, v3, v4, v5], .bool b]) w := by
  have d0 := hB.cell 0
  have d1 := hB.cell 1
  have d2 := hB.cell 2
  have d3 := hB.cell 3
  have d4 := hB.cell 4
  have d5 := hB.cell 5
  simp at d0 d1 d2 d3 d4 d5
  simp [results, Try.results18, go_sem, h8, h9, d0, d1, d2, d3, d4, d5]

set_option maxHeartbeats 2000000 in
theorem ref_on_some (base g cap n : Nat) (kind node now : Int) (fs : List Flt) (w : World) (h : w.ownsRow base 41 6 (.slice (some ⟨g, 0, none⟩) n cap) n (fltCells fs)) (hn : fs.length = n) (hn40 : n ≤ 40) :
    Calls Try.prog 18 #[.slice (some ⟨g, 0, none⟩) n cap, .int .i64 kind, .int .i64 node, .int .i64 now] w (OnIs w kind node now fs) := by
  have H := Lib.hid h
  have Hn := Lib.hid hn
  clear h hn
  go_enter Try.func18, Try.ntmps18
  go_wp2_with fail
  go_loopw [10] (fun i wr => ∃ k : Nat, k ≤ n ∧ i = .int .i64 k ∧ (fs.take k).find? (isOn kind node now) = none ∧ Blk wr w.heap.size #[.int .i64 0, .int .i64 0, .int .i64 0, .int .i64 0, .int .i64 0, .int .i64 0] 41 ∧ Frm noB w wr) (fun i _ => n - (intOf i).toNat)
  case atStart => exact ⟨0, by omega, rfl, rfl, Blk.made w _ _, (Frm.refl _ _).alloc _⟩
  case round =>
    obtain ⟨k, hk, rfl, hno, hB, hf⟩ := hrel
    have Hno := Lib.hid hno
    have HB := Lib.hid hB
    have Hf := Lib.hid hf
    have hsz := hB.lt
    clear hno hB hf
    by_cases hlt : k < n
    · obtain ⟨f, hfk⟩ := get_of_lt (l := fs) (j := k) (by rw [Hn.out]; exact hlt)
      obtain ⟨e0, e1, e2, e3, e4, e5⟩ := fltCells_get fs k f hfk
      have hown := ownsRow_frm H.out Hf.out (fun _ _ h => h)
      have c0 := (hown.cellAt (k * 6) (by omega)).trans e0
      have c1 := (hown.cellAt (k * 6 + 1) (by omega)).trans e1
      have c2 := (hown.cellAt (k * 6 + 2) (by omega)).trans e2
      have c3 := (hown.cellAt (k * 6 + 3) (by omega)).trans e3
      have c4 := (hown.cellAt (k * 6 + 4) (by omega)).trans e4
      have c5 := (hown.cellAt (k * 6 + 5) (by omega)).trans e5
      have hgw : g < wr.heap.size := World.block_lt_of_cell? wr ⟨g, k * 6, none⟩ c0
      have Hfk := Lib.hid hfk
      clear hfk e0 e1 e2 e3 e4 e5 hown
      by_cases t1 : f.kind = kind
      · have t1b : (f.kind == kind) = true := by simpa using t1
        by_cases t2 : f.a = node
        · have t2b : (f.a == node) = true := by simpa using t2
          clear t1 t2
          go_wp2_with fail
          refine (There_any f now _).mono ?_
          rintro e w1 ⟨rfl, rfl⟩
          cases ht : thereB f now
          · have hm : isOn kind node now f = false := by unfold isOn; rw [ht, Bool.and_false]
            have Hs := Lib.hid (find_snoc Hfk.out Hno.out hm)
            have HB2 := Lib.hid (HB.out.alloc (.cells #[.int .i64 f.kind, .int .i64 f.frm, .int .i64 f.til, .int .i64 f.a, .int .i64 f.b, .int .i64 f.n] 41))
            clear hm ht
            go_wp2
            go_roundw
            case rel => exact ⟨k + 1, by omega, by go_num, Hs.out, HB2.out, Hf.out.alloc _⟩
            case measure => simp [intOf]; omega
          · have hm : isOn kind node now f = true := by unfold isOn; rw [ht, t1b, t2b]; rfl
            have hon := Lib.hid (onAns_hit Hfk.out Hno.out hm)
            clear hm ht
            have r0 := HB.out.cell 0
            have r1 := HB.out.cell 1
            have r2 := HB.out.cell 2
            have r3 := HB.out.cell 3
            have r4 := HB.out.cell 4
            have r5 := HB.out.cell 5
            simp at r0 r1 r2 r3 r4 r5
            have z0 := HB.out.free 0
            have z1 := HB.out.free 1
            have z2 := HB.out.free 2
            have z3 := HB.out.free 3
            have z4 := HB.out.free 4
            have z5 := HB.out.free 5
            go_wp2
            refine bodyPost_ret (ref_on_res _ ((set6 wr w.heap.size (.int .i64 f.kind) (.int .i64 f.frm) (.int .i64 f.til) (.int .i64 f.a) (.int .i64 f.b) (.int .i64 f.n)).alloc (.cells #[.int .i64 f.kind, .int .i64 f.frm, .int .i64 f.til, .int .i64 f.a, .int .i64 f.b, .int .i64 f.n] 41)) w.heap.size _ _ _ _ _ _ true rfl rfl ((blk_set6 HB.out _ _ _ _ _ _).alloc _)) rfl ?_
            exact ⟨by rw [hon.out]; rfl, (frm_set6 Hf.out (Nat.le_refl _) _ _ _ _ _ _).alloc _⟩
        · have t2b : (f.a == node) = false := by simpa using t2
          have hm : isOn kind node now f = false := by unfold isOn; simp [t2]
          clear t1 t2
          have Hs := Lib.hid (find_snoc Hfk.out Hno.out hm)
          clear hm
          go_wp2
          go_roundw
          case rel => exact ⟨k + 1, by omega, by go_num, Hs.out, HB.out, Hf.out⟩
          case measure => simp [intOf]; omega
      · have t1b : (f.kind == kind) = false := by simpa using t1
        have hm : isOn kind node now f = false := by unfold isOn; simp [t1]
        clear t1
        have Hs := Lib.hid (find_snoc Hfk.out Hno.out hm)
        clear hm
        go_wp2
        go_roundw
        case rel => exact ⟨k + 1, by omega, by go_num, Hs.out, HB.out, Hf.out⟩
        case measure => simp [intOf]; omega
    · obtain rfl : k = n := by omega
      have hon := Lib.hid (onAns_none (kind := kind) (node := node) (now := now) (k := k) (by rw [Hn.out]; exact Nat.le_refl _) Hno.out)
      have r0 := HB.out.cell 0
      have r1 := HB.out.cell 1
      have r2 := HB.out.cell 2
      have r3 := HB.out.cell 3
      have r4 := HB.out.cell 4
      have r5 := HB.out.cell 5
      simp at r0 r1 r2 r3 r4 r5
      have z0 := HB.out.free 0
      have z1 := HB.out.free 1
      have z2 := HB.out.free 2
      have z3 := HB.out.free 3
      have z4 := HB.out.free 4
      have z5 := HB.out.free 5
      go_wp2
      refine bodyPost_ret (ref_on_res _ (set6 wr w.heap.size (.int .i64 0) (.int .i64 0) (.int .i64 0) (.int .i64 0) (.int .i64 0) (.int .i64 0)) w.heap.size _ _ _ _ _ _ false rfl rfl (blk_set6 HB.out _ _ _ _ _ _)) rfl ?_
      exact ⟨by rw [hon.out]; rfl, frm_set6 Hf.out (Nat.le_refl _) _ _ _ _ _ _⟩

theorem on_nil (b base : Nat) (a : Option Addr) (cap : Nat) (hop kind node now : Int) (cs : List Int) (w : World) (h : Lnk w b base (.slice a 0 cap) hop [] cs) :
    Calls Try.prog 17 #[.pointer (some ⟨b, 0, none⟩), .int .i64 kind, .int .i64 node, .int .i64 now] w (OnIs w kind node now []) := by
  have hb1 := h.blk.cell 1
  simp only [linkCells] at hb1
  simp at hb1
  have hbl := h.blk.lt
  clear h
  go_enter Try.func17, Try.ntmps17
  go_wp2_with fail
  refine wp_loop_once ?_
  go_wp2
  refine bodyPost_ret (on_res _ (w.alloc (.cells #[.int .i64 0, .int .i64 0, .int .i64 0, .int .i64 0, .int .i64 0, .int .i64 0] 41)) w.heap.size _ _ _ _ _ _ false rfl rfl (Blk.made w _ _)) rfl ?_
  exact ⟨rfl, (Frm.refl _ w).alloc _⟩

theorem ref_on_nil (a : Option Addr) (cap : Nat) (kind node now : Int) (w : World) :
    Calls Try.prog 18 #[.slice a 0 cap, .int .i64 kind, .int .i64 node, .int .i64 now] w (OnIs w kind node now []) := by
  go_enter Try.func18, Try.ntmps18
  go_wp2_with fail
  refine wp_loop_once ?_
  go_wp2
  refine bodyPost_ret (ref_on_res _ (w.alloc (.cells #[.int .i64 0, .int .i64 0, .int .i64 0, .int .i64 0, .int .i64 0, .int .i64 0] 41)) w.heap.size _ _ _ _ _ _ false rfl rfl (Blk.made w _ _)) rfl ?_
  exact ⟨rfl, (Frm.refl _ w).alloc _⟩

theorem ref_end_nil (a : Option Addr) (cap : Nat) (w : World) :
    Calls Try.prog 20 #[.slice a 0 cap] w fun e w' => e = .returned (.int .i64 (endK [] 0)) ∧ w = w' := by
  go_enter Try.func20, Try.ntmps20
  go_wp2_with fail
  refine wp_loop_once ?_
  go_wp2
  go_ret
  exact ⟨rfl, rfl⟩

theorem on_any (b base : Nat) (v : Value) (hop kind node now : Int) (fs : List Flt) (cs : List Int) (w : World) (h : Lnk w b base v hop fs cs) :
    Calls Try.prog 17 #[.pointer (some ⟨b, 0, none⟩), .int .i64 kind, .int .i64 node, .int .i64 now] w (OnIs w kind node now fs) := by
  obtain ⟨a, c, rfl, _, hg⟩ := ownsRow_shape h.own
  by_cases hn : fs.length = 0
  · have hf : fs = [] := List.eq_nil_of_length_eq_zero hn
    subst hf
    exact on_nil b base a c hop kind node now cs w h
  · obtain ⟨g, rfl, _, _⟩ := hg (by omega)
    exact on_some b base g c fs.length hop kind node now fs cs w h rfl
theorem ref_on_any (base : Nat) (v : Value) (kind node now : Int) (fs : List Flt) (w : World) (h : w.ownsRow base 41 6 v fs.length (fltCells fs)) (hn40 : fs.length ≤ 40) :
    Calls Try.prog 18 #[v, .int .i64 kind, .int .i64 node, .int .i64 now] w (OnIs w kind node now fs) := by
  obtain ⟨a, c, rfl, _, hg⟩ := ownsRow_shape h
  by_cases hn : fs.length = 0
  · have hf : fs = [] := List.eq_nil_of_length_eq_zero hn
    subst hf
    exact ref_on_nil a c kind node now w
  · obtain ⟨g, rfl, _, _⟩ := hg (by omega)
    exact ref_on_some base g c fs.length kind node now fs w h rfl hn40
theorem ref_end_any (base : Nat) (v : Value) (fs : List Flt) (w : World) (h : w.ownsRow base 41 6 v fs.length (fltCells fs)) (hn40 : fs.length ≤ 40) :
    Calls Try.prog 20 #[v] w fun e w' => e = .returned (.int .i64 (endK fs fs.length)) ∧ w = w' := by
  obtain ⟨a, c, rfl, _, hg⟩ := ownsRow_shape h
  by_cases hn : fs.length = 0
  · have hf : fs = [] := List.eq_nil_of_length_eq_zero hn
    subst hf
    exact ref_end_nil a c w
  · obtain ⟨g, rfl, _, _⟩ := hg (by omega)
    exact ref_end_some base g c fs.length fs w h rfl hn40
end Go.Proofs.Ytmohmjanglkggaa
