/- The walk of the statement TraceNotes. -/
import Derived.Test.YtnmcdecdgcnmbaaTraceLives
import Derived.Test.YtnmcdecdgcnmbaaTraceName
import Derived.Test.YtnmcdecdgcnmbaaTraceSame
import Derived.Test.YtnmcdecdgcnmbaaShort
import Derived.Deep.RegionHeld3
import Derived.Deep.DeepCutAuto
import Derived.Outline
set_option linter.unusedVariables false
namespace Go.Proofs.Ytnmcdecdgcnmbaa
open Go.RowKit

theorem noteL_len (L : List Spn) (s : Spn) : (noteL L s).length ≤ L.length + 1 := by unfold noteL; split <;> simp
theorem noteL_all {p : Spn → Prop} {L : List Spn} {s : Spn} (hL : ∀ x ∈ L, p x) (hs : p s) : ∀ x ∈ noteL L s, p x := by
  unfold noteL
  split
  · intro x hx
    rcases List.mem_append.1 hx with h | h
    · exact hL x h
    · simp at h; subst h; exact hs
  · exact hL
/-- The program's log and the reference's spans hold the same. -/
structure Both (w wr : World) (v : Value) (L : List Spn) (O : Nat → Prop) (k : Nat) : Prop where
  own : Own spnE wr w.heap.size 35 v L
  log : LogIs wr w.heap.size L O
  len : L.length ≤ k
  small : ∀ s ∈ L, s.name.size ≤ 1000000
  apart : ∀ j, v.ownBlock = some j → ¬ O j
  new : ∀ j, O j → w.heap.size ≤ j
  frm : Frm noB w wr
theorem Both.keep {w wr wx : World} {v : Value} {L : List Spn} {O : Nat → Prop} {k : Nat} (h : Both w wr v L O k) (f : Frm noB wr wx) : Both w wx v L O k :=
  ⟨h.own.keep f, h.log.frm f (fun _ _ h => h), h.len, h.small, h.apart, h.new, h.frm.trans f⟩

theorem Both.keepN {w wr wx : World} {v : Value} {L : List Spn} {O : Nat → Prop} {k B : Nat} (h : Both w wr v L O k) (f : Frm (oneB B) wr wx) (hB : wr.heap.size ≤ B) : Both w wx v L O k :=
  ⟨h.own.frm f (fun b hb => by have := (h.own.lt b hb).2; simp only [oneB]; omega), h.log.frm f (fun b hb => by have := h.log.lt b hb; simp only [oneB]; omega), h.len, h.small, h.apart, h.new,
    h.frm.new f (fun i hi hh => by have := h.frm.size; simp only [oneB] at hh; omega)⟩
theorem Both.step {w wx w2 w3 : World} {v v' : Value} {L : List Spn} {O O' : Nat → Prop} {k : Nat} {s : Spn} (h : Both w wx v L O k) (hs : s.name.size ≤ 1000000) (ho : Own spnE w2 w.heap.size 35 v' (noteL L s))
    (hf : Frm (fun i => some i = v.ownBlock) wx w2) (hv : v'.ownBlock = v.ownBlock ∨ ∃ g, v'.ownBlock = some g ∧ wx.heap.size ≤ g) (hl : LogIs w3 w.heap.size (noteL L s) O') (hf3 : Frm O w2 w3) (hO : ∀ j, O' j → O j ∨ w2.heap.size ≤ j) :
    Both w w3 v' (noteL L s) O' (k + 1) := by
  have hz := h.frm.size
  have hz2 := hf.size
  have hap : ∀ j, v'.ownBlock = some j → ¬ O j := fun j hj hOj => by
    rcases hv with hv | ⟨g, hg, h1⟩
    · exact h.apart j (by rw [← hv]; exact hj) hOj
    · rw [hg] at hj; simp at hj; subst hj
      have := h.log.lt _ hOj; omega
  refine ⟨ho.frm hf3 hap, hl, ?_, noteL_all h.small hs, ?_, ?_, ?_⟩
  · have := noteL_len L s; have := h.len; omega
  · intro j hj hOj
    rcases hO j hOj with h1 | h1
    · exact hap j hj h1
    · have := (ho.lt j hj).2; omega
  · intro j hj
    rcases hO j hj with h1 | h1
    · exact h.new j h1
    · omega
  · exact (h.frm.new hf (fun i hi hh => by have := (h.own.lt i hh.symm).1; omega)).new hf3 (fun i hi hh => by have := h.new i hh; omega)
theorem box_far6 {w : World} {B bb o : Nat} {u : Value} (_hB : B < w.heap.size) (hne : bb ≠ B) (h : w.cell? ⟨bb, o, none⟩ = some u) (v0 v1 v2 v3 v4 v5 : Value) :
    ((((((w.setCell ⟨B, 0, none⟩ v0).setCell ⟨B, 1, none⟩ v1).setCell ⟨B, 2, none⟩ v2).setCell ⟨B, 3, none⟩ v3).setCell ⟨B, 4, none⟩ v4).setCell ⟨B, 5, none⟩ v5).cell? ⟨bb, o, none⟩ = some u :=
  cell_frm (S := oneB B) ((((((((Frm.refl _ w).setOne 0 v0).setOne 1 v1).setOne 2 v2).setOne 3 v3).setOne 4 v4).setOne 5 v5)) hne h
theorem box_new6 {wr wy w1 : World} {c0 c1 c2 c3 c4 c5 : Value} {T : TypeId} (hf : Frm noB wr wy) (hf1 : Frm noB wy w1) (hz : Blk w1 wr.heap.size #[c0, c1, c2, c3, c4, c5] T) (v0 v1 v2 v3 v4 v5 : Value) :
    Blk ((((((w1.setCell ⟨wr.heap.size, 0, none⟩ v0).setCell ⟨wr.heap.size, 1, none⟩ v1).setCell ⟨wr.heap.size, 2, none⟩ v2).setCell ⟨wr.heap.size, 3, none⟩ v3).setCell ⟨wr.heap.size, 4, none⟩ v4).setCell ⟨wr.heap.size, 5, none⟩ v5) wr.heap.size #[v0, v1, v2, v3, v4, v5] T ∧
      Frm noB wr ((((((w1.setCell ⟨wr.heap.size, 0, none⟩ v0).setCell ⟨wr.heap.size, 1, none⟩ v1).setCell ⟨wr.heap.size, 2, none⟩ v2).setCell ⟨wr.heap.size, 3, none⟩ v3).setCell ⟨wr.heap.size, 4, none⟩ v4).setCell ⟨wr.heap.size, 5, none⟩ v5) := by
  refine ⟨?_, ?_⟩
  · have h := (((((hz.set 0 v0).set 1 v1).set 2 v2).set 3 v3).set 4 v4).set 5 v5
    simpa using h
  · have h := hf.trans hf1
    exact (((((h.setNew (p := ⟨wr.heap.size, 0, none⟩) (Nat.le_refl _) v0).setNew (p := ⟨wr.heap.size, 1, none⟩) (Nat.le_refl _) v1).setNew (p := ⟨wr.heap.size, 2, none⟩) (Nat.le_refl _) v2).setNew (p := ⟨wr.heap.size, 3, none⟩) (Nat.le_refl _) v3).setNew (p := ⟨wr.heap.size, 4, none⟩) (Nat.le_refl _) v4).setNew (p := ⟨wr.heap.size, 5, none⟩) (Nat.le_refl _) v5

set_option maxRecDepth 100000 in
set_option maxHeartbeats 4000000 in
theorem traceNotes_walk (a0 : Option Addr) (len0 cap0 : Nat) (z0 : List Int) (a1 : ByteArray) (a2 : Int) (a3 : Int) (w : World) (w0 : IsRow .i64 w a0 len0 cap0 z0) (w1 : a1.size ≤ maxLen) (w2 : (Lit.int .i64 a2).wf = true) (w3 : (Lit.int .i64 a3).wf = true) :
    Calls Try.prog 4 #[.slice a0 len0 cap0, .string a1, .int .i64 a2, .int .i64 a3] w fun e w' => e = .returned (.bool true) ∧ Below w.heap.size w w' := by
  have h0 := w0.ints
  have b2 := wf_i64 w2
  have b3 := wf_i64 w3
  have hn0 := h0.1
  have hshort : ∀ w, Calls Try.prog 9 #[.string a1, .int .i64 30] w fun e w' => e = .returned (.string ⟨(a1.data.toList.take 30).toArray⟩) ∧ w = w' := fun w => short_any a1 30 w w1 (by omega)
  have hsh : ((a1.data.toList.take 30).toArray).size ≤ 1000 := by simp; omega
  generalize hst : (⟨(a1.data.toList.take 30).toArray⟩ : ByteArray) = a30 at *
  have hs30 : a30.size ≤ 1000 := by rw [← hst]; exact hsh
  have hstart : Both w (w.alloc (.cells (logCells none none) 29)) (.slice none 0 0) [] (oneB w.heap.size) 0 :=
    ⟨Own.nil _ _ _ _, .inl ⟨rfl, Blk.made _ _ _, rfl, fun k hk => by have hk' : k = w.heap.size := hk; subst hk'; simp⟩, Nat.le_refl _, by simp, by simp [Value.ownBlock], fun j hj => Nat.le_of_eq (show j = w.heap.size from hj).symm, (Frm.refl _ _).alloc _⟩
  simp only [logCells] at hstart
  have Hshort := Lib.hid hshort
  have H0 := Lib.hid h0
  have Hb2 := Lib.hid b2
  have Hw3 := Lib.hid w3
  have Hstart := Lib.hid hstart
  have Hb3 := Lib.hid b3
  clear hshort h0 b2 w3 hstart b3
  clear hst hsh w0 w1 w2
  go_enter Try.func4, Try.ntmps4
  go_wp2_with fail
  go_loopw [8, 10, 11] (fun r v i wr => ∃ (k : Nat) (L : List Spn) (O : Nat → Prop), k ≤ len0 ∧ k ≤ 16 ∧ r = .bool false ∧ i = .int .i64 k ∧ Both w wr v L O k) (fun _ _ i _ => len0 - (intOf i).toNat)
  case atStart => exact ⟨0, [], _, by omega, by omega, rfl, rfl, Hstart.out⟩
  case round =>
    obtain ⟨k, L, O, hk, hk16, rfl, rfl, hb⟩ := hrel
    by_cases hgo : k < len0 ∧ k < 16
    · obtain ⟨hlt, hlt16⟩ := hgo
      · obtain ⟨bb, off, y, rfl, ⟨hy0, hy1⟩, hc⟩ := H0.out.2 k hlt
        have hbw := World.block_lt_of_cell? w ⟨bb, off + k, none⟩ hc
        have c0 := cell_frm hb.frm (fun h => h) hc
        have hbz := hb.frm.size
        have hbr : bb < wr.heap.size := Nat.lt_of_lt_of_le hbw hbz
        have hi1 : (0 : Int) ≤ (k : Int) := by omega
        have hi2 : (k : Int) < (len0 : Int) := by omega
        have s1 : IntKind.i64.wrap (-(k : Int)) = -(k : Int) := IntWalk.i64_in _ (by omega)
        have Hb := Lib.hid hb
        have Hc := Lib.hid hc
        clear hb hc
        go_upto_region 6 with fail
        go_cut [12] (fun s wx => ∃ (B : Nat) (l : List UInt8) (we : Bool), s = .pointer (some ⟨B, 0, none⟩) ∧ l.length ≤ 40 ∧ Blk wx B #[.string (bs l), .int .i64 k, .int .i64 y, .int .i64 (-(k : Int)), .bool we, .int .i64 k] 35 ∧ wr.heap.size ≤ B ∧ Frm noB wr wx)
        case first =>
          have fa := cell_frm (Frm.drew (Frm.refl noB wr)) (fun h => h) c0
          have fb := cell_frm (Frm.drew ((Frm.refl noB wr).alloc (.cells #[.string ⟨#[]⟩, .int .i64 0, .int .i64 0, .int .i64 0, .bool false, .int .i64 0] 35))) (fun h => h) c0
          have fr1 : Frm noB wr wr.drew := Frm.drew (Frm.refl noB wr)
          have fr2 : Frm noB wr (wr.alloc (.cells #[.string ⟨#[]⟩, .int .i64 0, .int .i64 0, .int .i64 0, .bool false, .int .i64 0] 35)).drew := Frm.drew ((Frm.refl noB wr).alloc _)
          have hzb := (Blk.made wr #[.string ⟨#[]⟩, .int .i64 0, .int .i64 0, .int .i64 0, .bool false, .int .i64 0] 35).drew
          have Hzb := Lib.hid hzb
          have Hfr1 := Lib.hid fr1
          have Hfr2 := Lib.hid fr2
          clear hzb fr1 fr2
          go_region_held3 (fun W => W.cell? ⟨bb, off + k, none⟩ = some (.int .i64 y))
            (first | with_reducible assumption | exact c2 _ | exact c3 _ _ _ _ _ _)
            (first | (go_at_call 8; (with_reducible refine (name_any y _ hy0 hy1).mono ?_); rintro e w1 ⟨l, rfl, hok, hf1⟩; first
              | (have hz1 := Hzb.out.frm hf1 (fun h => h); have c1 := cell_frm hf1 (fun h => h) fb; have c3 := box_far6 hz1.lt (show bb ≠ wr.heap.size by omega) c1; have Hn := Lib.hid (fun v0 v1 v2 v3 v4 v5 => box_new6 Hfr2.out hf1 hz1 v0 v1 v2 v3 v4 v5); have Hok := Lib.hid hok; clear hok; have zl := hz1.lt; have q0 := hz1.cell 0; have q1 := hz1.cell 1; have q2 := hz1.cell 2; have q3 := hz1.cell 3; have q4 := hz1.cell 4; have q5 := hz1.cell 5; simp at q0 q1 q2 q3 q4 q5; have f0 := hz1.free 0; have f1 := hz1.free 1; have f2 := hz1.free 2; have f3 := hz1.free 3; have f4 := hz1.free 4; have f5 := hz1.free 5; have Hz1 := Lib.hid hz1; clear hz1 hf1)
              | (have c1 := cell_frm hf1 (fun h => h) fa; have c2 := fun o => cell_frm ((Frm.refl noB w1).alloc o) (fun h => h) c1; have Hf1 := Lib.hid (Hfr1.out.trans hf1); have Hok := Lib.hid hok; clear hok hf1)))
          · go_wp2_with fail
            go_meet
            exact ⟨_, l, _, rfl, Hok.out.hi, Blk.made _ _ _, Hf1.out.size, Hf1.out.alloc _⟩
          · go_wp2_with fail
            go_meet
            obtain ⟨hn1, hn2⟩ := Hn.out (.string (bs l)) (.int .i64 k) (.int .i64 y) (.int .i64 (-(k : Int))) (.bool ((k : Int).tmod 2 == 0)) (.int .i64 k)
            exact ⟨_, l, _, rfl, Hok.out.hi, hn1, Nat.le_refl _, hn2⟩
        case rest =>
          obtain ⟨B, l, we, rfl, hl40, hB, hBz, hfx⟩ := hcut
          have hbc := Lib.hid (Hb.out.keep hfx)
          have hBl := hB.lt
          have x0 := hB.cell 0
          have z0 := hB.free 0
          simp at x0
          have HB := Lib.hid hB
          have Hfx := Lib.hid hfx
          clear hB hfx
          go_wp2_with fail
          refine (around_any a2 16 _ Hb2.out.1 Hb2.out.2 (by omega) (by omega)).mono ?_
          rintro e w' ⟨rfl, rfl⟩
          generalize around a2 16 = q at *
          go_upto_if 46 with fail
          go_cut [47] (fun s wx => ∃ nm : ByteArray, nm.size ≤ 1000 ∧ Blk wx B #[.string nm, .int .i64 k, .int .i64 y, .int .i64 (-(k : Int)), .bool we, .int .i64 k] 35 ∧ Frm (oneB B) wc wx)
          case first =>
            generalize ((k : Int) == (q : Int)) = t at *
            cases t
            case false =>
              go_wp2_with fail
              go_meet
              exact ⟨bs l, by rw [bs_size]; omega, HB.out, Frm.refl _ _⟩
            case true =>
              go_wp2_with fail
              refine (Hshort.out _).mono ?_
              rintro e w' ⟨rfl, rfl⟩
              go_wp2_with fail
              go_meet
              refine ⟨a30, hs30, ?_, (Frm.refl _ _).setOne _ _⟩
              have h := HB.out.set 0 (.string a30)
              simpa using h
          case rest =>
            obtain ⟨nm, hnm, hB2, hf2⟩ := hcut
            have hb2 := Hb.out.keepN (B := B) ((Hfx.out.mono (fun _ _ h => h.elim)).trans hf2) hBz
            have hvB : ∀ j, u10.ownBlock = some j → j < wr.heap.size := fun j hj => (Hb.out.own.lt j hj).2
            have hL16 := hb2.len
            have hwz := hb2.frm.size
            have x0 := hB2.cell 0
            have x1 := hB2.cell 1
            have x2 := hB2.cell 2
            have x3 := hB2.cell 3
            have x4 := hB2.cell 4
            have x5 := hB2.cell 5
            have zl := hB2.lt
            simp at x0 x1 x2 x3 x4 x5
            have Hb2_ := Lib.hid hb2
            clear hb2
            have Hf2 := Lib.hid hf2
            have HvB := Lib.hid hvB
            have HB2 := Lib.hid hB2
            clear hf2 hvB hB2
            go_wp2_with fail
            refine (ref_note w.heap.size u10 L nm k y (-(k : Int)) k we _ Hb2_.out.own (by omega) (by omega) hwz).mono ?_
            rintro e w2 ⟨v', rfl, ho, hf3, hv⟩
            have hlog := Hb2_.out.log.frm hf3 (fun j hOj hh => Hb2_.out.apart j hh.symm hOj)
            have hB3 := HB2.out.frm hf3 (fun hh => by have := HvB.out B hh.symm; omega)
            have y0 := hB3.cell 0
            have y1 := hB3.cell 1
            have y2 := hB3.cell 2
            have y3 := hB3.cell 3
            have y4 := hB3.cell 4
            have y5 := hB3.cell 5
            have yl := hB3.lt
            simp at y0 y1 y2 y3 y4 y5
            clear x0 x1 x2 x3 x4 x5
            have hstep := fun (O' : Nat → Prop) (w3 : World) hl hf4 hO => Hb2_.out.step (s := ⟨nm, k, y, -(k : Int), we, k⟩) (O' := O') (w3 := w3) (Nat.le_trans hnm (by omega)) ho hf3 hv hl hf4 hO
            have Ho := Lib.hid ho
            have Hf3 := Lib.hid hf3
            have Hv := Lib.hid hv
            have Hlog := Lib.hid hlog
            have HB3 := Lib.hid hB3
            have Hstep := Lib.hid hstep
            clear ho hf3 hv hlog hB3 hstep
            generalize hq : noteE L ⟨nm, k, y, -(k : Int), we, k⟩ = q at *
            have hqq : (q != q) = false := by simp
            have Hq := Lib.hid hq
            clear hq
            go_wp2_with fail
            refine (note_any w.heap.size ⟨nm, k, y, -(k : Int), we, k⟩ L O _ Hlog.out (by omega) (Nat.le_trans hnm (by omega))).mono ?_
            rintro e w3 ⟨O', rfl, hl, hf4, hO⟩
            rw [Hq.out]
            have Hs := Lib.hid (Hstep.out O' w3 hl hf4 hO)
            clear hl hf4 hO
            go_wp2_with fail
            go_roundw
            case rel => exact ⟨k + 1, _, O', by omega, by omega, rfl, by go_num, Hs.out⟩
            case measure => simp [intOf]; omega
    · have hend : (k < len0 ∧ ¬ k < 16) ∨ ¬ k < len0 := by omega
      have hL16 := hb.len
      have hkeep := fun W (f : Frm noB wr W) => hb.keep f
      have Hkeep := Lib.hid hkeep
      clear hkeep hgo hb
      rcases hend with ⟨h1, h2⟩ | h1
      all_goals
        go_wp2_with fail
        go_loopw [8, 15] (fun r i wy => ∃ j : Nat, j ≤ 5 ∧ r = .bool false ∧ i = .int .i64 j ∧ Frm noB wr wy) (fun _ i _ => 5 - (intOf i).toNat)
        case atStart => exact ⟨0, by omega, rfl, rfl, Frm.refl _ _⟩
        case round =>
          obtain ⟨j, hj, rfl, rfl, hf⟩ := hrel
          by_cases hlt : j < 5
          · have hwf : (Lit.int .i64 (j : Int)).wf = true := WalkArith.wf_i64 (by omega)
            have Hwf := Lib.hid hwf
            have Hf := Lib.hid hf
            clear hwf hf
            go_wp2_with fail
            refine (spans_any w.heap.size L O j _ (Hkeep.out _ Hf.out).log (by omega) Hwf.out).mono ?_
            rintro e x1 ⟨v1, rfl, ho1, hf1⟩
            have hf2 := Hf.out.trans hf1
            have Ho1 := Lib.hid ho1
            have Hf1 := Lib.hid hf1
            have Hf2 := Lib.hid hf2
            clear ho1 hf1 hf2
            go_wp2_with fail
            refine (ref_spans u10 L w.heap.size j _ (Hkeep.out _ Hf2.out).own (by omega) (Hkeep.out _ Hf2.out).small).mono ?_
            rintro e x2 ⟨v2, rfl, ho2, hf3⟩
            have ho3 := Ho1.out.keep hf3
            have hf4 := Hf2.out.trans hf3
            have Ho2 := Lib.hid ho2
            have Ho3 := Lib.hid ho3
            have Hf3 := Lib.hid hf3
            have Hf4 := Lib.hid hf4
            clear ho2 ho3 hf3 hf4
            go_wp2_with fail
            refine (same_any v1 v2 _ _ _ _ Ho3.out Ho2.out).mono ?_
            rintro e x3 ⟨rfl, hf5⟩
            have hf6 := Hf4.out.trans hf5
            have Hf6 := Lib.hid hf6
            clear hf6
            clear hf5
            go_wp2_with fail
            go_roundw
            case rel => exact ⟨j + 1, by omega, rfl, by go_num, Hf6.out⟩
            case measure => simp [intOf]; omega
          · have Hf := Lib.hid hf
            clear hf
            go_wp2_with fail
            refine (spans_any w.heap.size L O a3 _ (Hkeep.out _ Hf.out).log (by omega) Hw3.out).mono ?_
            rintro e x1 ⟨v1, rfl, ho1, hf1⟩
            have hf2 := Hf.out.trans hf1
            have Ho1 := Lib.hid ho1
            have Hf1 := Lib.hid hf1
            have Hf2 := Lib.hid hf2
            clear ho1 hf1 hf2
            go_wp2_with fail
            refine (ref_spans u10 L w.heap.size a3 _ (Hkeep.out _ Hf2.out).own (by omega) (Hkeep.out _ Hf2.out).small).mono ?_
            rintro e x2 ⟨v2, rfl, ho2, hf3⟩
            have ho3 := Ho1.out.keep hf3
            have hf4 := Hf2.out.trans hf3
            have Ho2 := Lib.hid ho2
            have Ho3 := Lib.hid ho3
            have Hf3 := Lib.hid hf3
            have Hf4 := Lib.hid hf4
            clear ho2 ho3 hf3 hf4
            go_wp2_with fail
            refine (same_any v1 v2 _ _ _ _ Ho3.out Ho2.out).mono ?_
            rintro e x3 ⟨rfl, hf5⟩
            have hf6 := Hf4.out.trans hf5
            have Hf6 := Lib.hid hf6
            clear hf6
            clear hf5
            go_wp2_with fail
            refine (lives_any _).mono ?_
            rintro e x4 ⟨rfl, hf7⟩
            have hf8 := (Hkeep.out _ (Hf6.out.trans hf7)).frm
            have Hf8 := Lib.hid hf8
            clear hf8
            clear hf7
            go_wp2_with fail
            go_ret
            exact ⟨rfl, Hf8.out.below (Nat.le_refl _) (fun _ _ h => h)⟩
end Go.Proofs.Ytnmcdecdgcnmbaa
