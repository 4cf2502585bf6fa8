/- On of both sides, and End of the reference. -/
import Derived.Test.YtmohmjanglkggaaLinkLives
set_option linter.unusedVariables false
namespace Go.Proofs.Ytmohmjanglkggaa
open Go.RowKit

/-- Is it the fault that is asked for? -/
def isOn (kind node now : Int) (f : Flt) : Bool := f.kind == kind && f.a == node && thereB f now
def onAns (kind node now : Int) (fs : List Flt) : Flt × Bool := match fs.find? (isOn kind node now) with
  | some f => (f, true)
  | none => (flt0, false)
theorem onAns_hit {kind node now : Int} {fs : List Flt} {k : Nat} {f : Flt} (hk : fs[k]? = some f) (hb : (fs.take k).find? (isOn kind node now) = none) (h : isOn kind node now f = true) : onAns kind node now fs = (f, true) := by
  have e : fs = fs.take k ++ f :: fs.drop (k + 1) := by
    have hl := get_lt hk
    have h1 := List.take_append_drop k fs
    rw [List.drop_eq_getElem_cons hl] at h1
    rw [List.getElem?_eq_getElem hl] at hk
    simp at hk
    rw [hk] at h1
    exact h1.symm
  unfold onAns
  rw [e, List.find?_append, hb]
  simp [h]
theorem onAns_none {kind node now : Int} {fs : List Flt} {k : Nat} (hk : fs.length ≤ k) (hb : (fs.take k).find? (isOn kind node now) = none) : onAns kind node now fs = (flt0, false) := by
  rw [List.take_of_length_le hk] at hb
  unfold onAns
  rw [hb]
theorem find_snoc {p : Flt → Bool} {fs : List Flt} {k : Nat} {f : Flt} (hk : fs[k]? = some f) (hb : (fs.take k).find? p = none) (h : p f = false) : (fs.take (k + 1)).find? p = none := by
  rw [List.take_add_one, hk, List.find?_append, hb]
  simp [h]

set_option maxHeartbeats 1000000 in
theorem ref_end_some (base g cap n : Nat) (fs : List Flt) (w : World) (h : w.ownsRow base 41 6 (.slice (some ⟨g, 0, none⟩) n cap) n (fltCells fs)) (hn : fs.length = n) (hn40 : n ≤ 40) :
    Calls Try.prog 20 #[.slice (some ⟨g, 0, none⟩) n cap] w fun e w' => e = .returned (.int .i64 (endK fs fs.length)) ∧ w = w' := by
  have H := Lib.hid h
  have Hn := Lib.hid hn
  clear h hn
  go_enter Try.func20, Try.ntmps20
  go_wp2_with fail
  go_loop [3, 4] (fun t i => ∃ k : Nat, k ≤ n ∧ i = .int .i64 k ∧ t = .int .i64 (endK fs k)) (fun _ i => n - (intOf i).toNat)
  case atStart => exact ⟨0, by omega, rfl, rfl⟩
  case round =>
    obtain ⟨k, hk, rfl, rfl⟩ := hrel
    by_cases hlt : k < n
    · obtain ⟨f, hfk⟩ := get_of_lt (l := fs) (j := k) (by rw [Hn.out]; exact hlt)
      have hfd : fs.getD k flt0 = f := by simp [List.getD, hfk]
      obtain ⟨e0, e1, e2, e3, e4, e5⟩ := fltCells_get fs k f hfk
      have c2 := (H.out.cellAt (k * 6 + 2) (by omega)).trans e2
      have hes := endK_succ fs k
      rw [hfd] at hes
      have Hes := Lib.hid hes
      clear hfk hfd e0 e1 e2 e3 e4 e5 hes
      generalize endK fs k = m at *
      by_cases hmx : m ≤ f.til
      · have he : Hid (endK fs (k + 1) = f.til) := Lib.hid (by rw [Hes.out]; omega)
        go_wp2
        all_goals
          go_round
          case rel => exact ⟨k + 1, by omega, by go_num, by rw [he.out]; congr 1; split <;> omega⟩
          case measure => simp [intOf]; omega
      · have he : Hid (endK fs (k + 1) = m) := Lib.hid (by rw [Hes.out]; omega)
        go_wp2
        all_goals
          go_round
          case rel => exact ⟨k + 1, by omega, by go_num, by rw [he.out]; congr 1; split <;> omega⟩
          case measure => simp [intOf]; omega
    · obtain rfl : k = n := by omega
      go_wp2
      go_ret
      exact ⟨by rw [Hn.out]; rfl, rfl⟩

theorem on_res (tmps : Array Value) (w : World) (R : Nat) (v0 v1 v2 v3 v4 v5 : Value) (b : Bool) (h8 : tmps[8]?.getD undef = .pointer (some ⟨R, 0, none⟩)) (h9 : tmps[9]?.getD undef = .bool b) (hB : Blk w R #[v0, v1, v2, v3, v4, v5] 41) :
    (results Try.f17 tmps).run Try.prog w = .ok (.tuple #[.agg #[v0, v1, v2, v3, v4, v5], .bool b]) w := by
  have d0 := hB.cell 0
  have d1 := hB.cell 1
  have d2 := hB.cell 2
  have d3 := hB.cell 3
  have d4 := hB.cell 4
  have d5 := hB.cell 5
  simp at d0 d1 d2 d3 d4 d5
  simp [results, Try.results17, go_sem, h8, h9, d0, d1, d2, d3, d4, d5]

def set6 (w : World) (R : Nat) (y0 y1 y2 y3 y4 y5 : Value) : World := (((((w.setCell ⟨R, 0, none⟩ y0).setCell ⟨R, 1, none⟩ y1).setCell ⟨R, 2, none⟩ y2).setCell ⟨R, 3, none⟩ y3).setCell ⟨R, 4, none⟩ y4).setCell ⟨R, 5, none⟩ y5
theorem blk_set6 {w : World} {R : Nat} {x0 x1 x2 x3 x4 x5 : Value} {T : TypeId} (h : Blk w R #[x0, x1, x2, x3, x4, x5] T) (y0 y1 y2 y3 y4 y5 : Value) : Blk (set6 w R y0 y1 y2 y3 y4 y5) R #[y0, y1, y2, y3, y4, y5] T := by
  have h6 := (((((h.set 0 y0).set 1 y1).set 2 y2).set 3 y3).set 4 y4).set 5 y5
  simp at h6
  exact h6
theorem frm_set6 {S : Nat → Prop} {a w : World} (h : Frm S a w) {R : Nat} (hR : a.heap.size ≤ R) (y0 y1 y2 y3 y4 y5 : Value) : Frm S a (set6 w R y0 y1 y2 y3 y4 y5) :=
  (((((h.setNew (p := ⟨R, 0, none⟩) hR y0).setNew (p := ⟨R, 1, none⟩) hR y1).setNew (p := ⟨R, 2, none⟩) hR y2).setNew (p := ⟨R, 3, none⟩) hR y3).setNew (p := ⟨R, 4, none⟩) hR y4).setNew (p := ⟨R, 5, none⟩) hR y5

def OnIs (w : World) (kind node now : Int) (fs : List Flt) (e : Ending) (w' : World) : Prop := e = .returned (.tuple #[fltV (onAns kind node now fs).1, .bool (onAns kind node now fs).2]) ∧ Frm noB w w'

set_option maxHeartbeats 2000000 in
theorem on_some (b base g cap n : Nat) (hop kind node now : Int) (fs : List Flt) (cs : List Int) (w : World) (h : Lnk w b base (.slice (some ⟨g, 0, none⟩) n cap) hop fs cs) (hn : fs.length = n) :
    Calls Try.prog 17 #[.pointer (some ⟨b, 0, none⟩), .int .i64 kind, .int .i64 node, .int .i64 now] w (OnIs w kind node now fs) := by
  have hb1 := h.blk.cell 1
  simp only [linkCells] at hb1
  simp at hb1
  have hbl := h.blk.lt
  have hn40 : n ≤ 40 := by have := h.few; omega
  have H := Lib.hid h
  have Hn := Lib.hid hn
  clear h hn
  go_enter Try.func17, Try.ntmps17
  go_wp2_with fail
  go_loopw [17] (fun i wr => ∃ k : Nat, k ≤ n ∧ i = .int .i64 k ∧ (fs.take k).find? (isOn kind node now) = none ∧ Blk wr w.heap.size #[.int .i64 0, .int .i64 0, .int .i64 0, .int .i64 0, .int .i64 0, .int .i64 0] 41 ∧ Frm noB w wr) (fun i _ => n - (intOf i).toNat)
  case atStart => exact ⟨0, by omega, rfl, rfl, Blk.made w _ _, (Frm.refl _ _).alloc _⟩
  case round =>
    obtain ⟨k, hk, rfl, hno, hB, hf⟩ := hrel
    have Hno := Lib.hid hno
    have HB := Lib.hid hB
    have Hf := Lib.hid hf
    have hsz := hB.lt
    clear hno hB hf
    by_cases hlt : k < n
    · obtain ⟨f, hfk⟩ := get_of_lt (l := fs) (j := k) (by rw [Hn.out]; exact hlt)
      obtain ⟨e0, e1, e2, e3, e4, e5⟩ := fltCells_get fs k f hfk
      have hown := (H.out.frm Hf.out (fun h => h) (fun _ _ _ _ h => h)).own
      rw [Hn.out] at hown
      have c0 := (hown.cellAt (k * 6) (by omega)).trans e0
      have c1 := (hown.cellAt (k * 6 + 1) (by omega)).trans e1
      have c2 := (hown.cellAt (k * 6 + 2) (by omega)).trans e2
      have c3 := (hown.cellAt (k * 6 + 3) (by omega)).trans e3
      have c4 := (hown.cellAt (k * 6 + 4) (by omega)).trans e4
      have c5 := (hown.cellAt (k * 6 + 5) (by omega)).trans e5
      have Hfk := Lib.hid hfk
      clear hfk e0 e1 e2 e3 e4 e5 hown
      by_cases t1 : f.kind = kind
      · have t1b : (f.kind == kind) = true := by simpa using t1
        by_cases t2 : f.a = node
        · have t2b : (f.a == node) = true := by simpa using t2
          clear t1 t2
          go_wp2_with fail
          refine (there_any f now _).mono ?_
          rintro e w1 ⟨rfl, rfl⟩
          cases ht : thereB f now
          · have hm : isOn kind node now f = false := by unfold isOn; rw [ht, Bool.and_false]
            have Hs := Lib.hid (find_snoc Hfk.out Hno.out hm)
            have HB2 := Lib.hid ((HB.out.alloc (.cells #[.int .i64 f.kind, .int .i64 f.frm, .int .i64 f.til, .int .i64 f.a, .int .i64 f.b, .int .i64 f.n] 41)).alloc (.cells #[.int .i64 f.kind, .int .i64 f.frm, .int .i64 f.til, .int .i64 f.a, .int .i64 f.b, .int .i64 f.n] 41))
            clear hm ht
            go_wp2
            go_roundw
            case rel => exact ⟨k + 1, by omega, by go_num, Hs.out, HB2.out, (Hf.out.alloc _).alloc _⟩
            case measure => simp [intOf]; omega
          · have hm : isOn kind node now f = true := by unfold isOn; rw [ht, t1b, t2b]; rfl
            have hon := Lib.hid (onAns_hit Hfk.out Hno.out hm)
            clear hm ht
            have r0 := HB.out.cell 0
            have r1 := HB.out.cell 1
            have r2 := HB.out.cell 2
            have r3 := HB.out.cell 3
            have r4 := HB.out.cell 4
            have r5 := HB.out.cell 5
            simp at r0 r1 r2 r3 r4 r5
            have z0 := HB.out.free 0
            have z1 := HB.out.free 1
            have z2 := HB.out.free 2
            have z3 := HB.out.free 3
            have z4 := HB.out.free 4
            have z5 := HB.out.free 5
            go_wp2
            refine bodyPost_ret (on_res _ (((set6 wr w.heap.size (.int .i64 f.kind) (.int .i64 f.frm) (.int .i64 f.til) (.int .i64 f.a) (.int .i64 f.b) (.int .i64 f.n)).alloc (.cells #[.int .i64 f.kind, .int .i64 f.frm, .int .i64 f.til, .int .i64 f.a, .int .i64 f.b, .int .i64 f.n] 41)).alloc (.cells #[.int .i64 f.kind, .int .i64 f.frm, .int .i64 f.til, .int .i64 f.a, .int .i64 f.b, .int .i64 f.n] 41)) w.heap.size _ _ _ _ _ _ true rfl rfl (((blk_set6 HB.out _ _ _ _ _ _).alloc _).alloc _)) rfl ?_
            exact ⟨by rw [hon.out]; rfl, ((frm_set6 Hf.out (Nat.le_refl _) _ _ _ _ _ _).alloc _).alloc _⟩
        · have t2b : (f.a == node) = false := by simpa using t2
          have hm : isOn kind node now f = false := by unfold isOn; simp [t2]
          clear t1 t2
          have Hs := Lib.hid (find_snoc Hfk.out Hno.out hm)
          clear hm
          have HB2 := Lib.hid (HB.out.alloc (.cells #[.int .i64 f.kind, .int .i64 f.frm, .int .i64 f.til, .int .i64 f.a, .int .i64 f.b, .int .i64 f.n] 41))
          go_wp2
          go_roundw
          case rel => exact ⟨k + 1, by omega, by go_num, Hs.out, HB2.out, Hf.out.alloc _⟩
          case measure => simp [intOf]; omega
      · have t1b : (f.kind == kind) = false := by simpa using t1
        have hm : isOn kind node now f = false := by unfold isOn; simp [t1]
        clear t1
        have Hs := Lib.hid (find_snoc Hfk.out Hno.out hm)
        clear hm
        have HB2 := Lib.hid (HB.out.alloc (.cells #[.int .i64 f.kind, .int .i64 f.frm, .int .i64 f.til, .int .i64 f.a, .int .i64 f.b, .int .i64 f.n] 41))
        go_wp2
        go_roundw
        case rel => exact ⟨k + 1, by omega, by go_num, Hs.out, HB2.out, Hf.out.alloc _⟩
        case measure => simp [intOf]; omega
    · obtain rfl : k = n := by omega
      have hon := Lib.hid (onAns_none (kind := kind) (node := node) (now := now) (k := k) (by rw [Hn.out]; exact Nat.le_refl _) Hno.out)
      have r0 := HB.out.cell 0
      have r1 := HB.out.cell 1
      have r2 := HB.out.cell 2
      have r3 := HB.out.cell 3
      have r4 := HB.out.cell 4
      have r5 := HB.out.cell 5
      simp at r0 r1 r2 r3 r4 r5
      have z0 := HB.out.free 0
      have z1 := HB.out.free 1
      have z2 := HB.out.free 2
      have z3 := HB.out.free 3
      have z4 := HB.out.free 4
      have z5 := HB.out.free 5
      go_wp2
      refine bodyPost_ret (on_res _ (set6 wr w.heap.size (.int .i64 0) (.int .i64 0) (.int .i64 0) (.int .i64 0) (.int .i64 0) (.int .i64 0)) w.heap.size _ _ _ _ _ _ false rfl rfl (blk_set6 HB.out _ _ _ _ _ _)) rfl ?_
      exact ⟨by rw [hon.out]; rfl, frm_set6 Hf.out (Nat.le_refl _) _ _ _ _ _ _⟩
end Go.Proofs.Ytmohmjanglkggaa
