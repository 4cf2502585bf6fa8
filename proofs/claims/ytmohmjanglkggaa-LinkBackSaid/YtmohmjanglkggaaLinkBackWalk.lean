/- The walk of the statement LinkBack. -/
import Derived.Test.YtmohmjanglkggaaLinkLives
import Derived.Test.YtmohmjanglkggaaLinkMsg
import Derived.Test.YtmohmjanglkggaaSameInts
import Derived.Deep.RegionHeld3
import Derived.Deep.DeepCutAuto
set_option linter.unusedVariables false
namespace Go.Proofs.Ytmohmjanglkggaa
open Go.RowKit

/-- A slice of bools that came in: each of its cells can be read. -/
def BoolsIn (w : World) (a : Option Addr) (n : Nat) : Prop :=
  n ≤ 9223372036854775807 ∧ ∀ j, j < n → ∃ b off x, a = some ⟨b, off, none⟩ ∧ w.cell? ⟨b, off + j, none⟩ = some (.bool x)
theorem BoolsIn.of {w : World} {x : Addr} {n c : Nat} {B : Nat → Bool} (hl : n ≤ c) (hm : c ≤ maxLen) (h : ∀ i, i < c → w.cell? (x.add i) = some (.bool (B i))) : BoolsIn w (some x) n := by
  refine ⟨by simp only [maxLen] at hm; omega, fun j hj => ?_⟩
  obtain ⟨b, off, spot⟩ := x
  have hspot : spot = none := by simpa [Addr.add] using World.cell?_spot (h 0 (by omega))
  subst hspot
  have hc := h j (by omega)
  rw [Addr.add_lit] at hc
  exact ⟨b, off, _, rfl, hc⟩
theorem BoolsIn.frm {S : Nat → Prop} {w w' : World} {a : Option Addr} {n : Nat} (h : BoolsIn w a n) (f : Frm S w w') (hs : ∀ i, i < w.heap.size → ¬ S i) : BoolsIn w' a n :=
  ⟨h.1, fun j hj => by
    obtain ⟨b, off, x, ha, hc⟩ := h.2 j hj
    exact ⟨b, off, x, ha, cell_frm f (hs b (World.block_lt_of_cell? w ⟨b, off + j, none⟩ hc)) hc⟩⟩

def twoB (b c : Nat) : Nat → Prop := fun k => k = b ∨ k = c
/-- Two links, one beside the other. -/
structure Pair (W w : World) (b c : Nat) (base base' : Nat) (u v : Value) (fs : List Flt) (cs ds : List Int) : Prop where
  x : Lnk W b base u 1 fs cs
  y : Lnk W c base' v 1 fs ds
  f : Frm (twoB b c) w W
theorem send_x {W w : World} {b c base base' : Nat} {u v : Value} {fs : List Flt} {cs ds : List Int} (h : Pair W w b c base base' u v fs cs ds) (hbc : b < c) (hb : b < base') (now src dst : Int)
    (hnow : 0 ≤ now ∧ now ≤ 100000) (hcs : ∀ x ∈ cs, 0 ≤ x ∧ x ≤ 1000000) :
    Calls Try.prog 14 #[.pointer (some ⟨b, 0, none⟩), .int .i64 now, .int .i64 src, .int .i64 dst] W fun e w' =>
      ∃ r, e = .returned r ∧ w'.ownsRow W.heap.size 3 1 r (resS (goS now src dst 1 fs cs fs.length)).length (i64s (resS (goS now src dst 1 fs cs fs.length))) ∧
        Pair w' w b c base base' u v fs (cntL now src dst fs cs fs.length) ds ∧ Frm (oneB b) W w' := by
  refine (send_any b base u 1 now src dst fs cs W h.x hnow ⟨by omega, by omega⟩ hcs).mono ?_
  rintro e w' ⟨r, rfl, ho, hl, hf⟩
  exact ⟨r, rfl, ho, ⟨hl, h.y.frm hf (by simp only [oneB]; omega) (fun k h1 _ _ => by simp only [oneB]; omega), h.f.trans (hf.mono (fun _ _ h => .inl h))⟩, hf⟩
theorem send_y {W w : World} {b c base base' : Nat} {u v : Value} {fs : List Flt} {cs ds : List Int} (h : Pair W w b c base base' u v fs cs ds) (hbc : b < c) (hu : ∀ k, u.ownBlock = some k → k < c) (now src dst : Int)
    (hnow : 0 ≤ now ∧ now ≤ 100000) (hds : ∀ x ∈ ds, 0 ≤ x ∧ x ≤ 1000000) :
    Calls Try.prog 14 #[.pointer (some ⟨c, 0, none⟩), .int .i64 now, .int .i64 src, .int .i64 dst] W fun e w' =>
      ∃ r, e = .returned r ∧ w'.ownsRow W.heap.size 3 1 r (resS (goS now src dst 1 fs ds fs.length)).length (i64s (resS (goS now src dst 1 fs ds fs.length))) ∧
        Pair w' w b c base base' u v fs cs (cntL now src dst fs ds fs.length) ∧ Frm (oneB c) W w' := by
  refine (send_any c base' v 1 now src dst fs ds W h.y hnow ⟨by omega, by omega⟩ hds).mono ?_
  rintro e w' ⟨r, rfl, ho, hl, hf⟩
  exact ⟨r, rfl, ho, ⟨h.x.frm hf (by simp only [oneB]; omega) (fun k _ _ hk => by have := hu k hk; simp only [oneB]; omega), hl, h.f.trans (hf.mono (fun _ _ h => .inr h))⟩, hf⟩
theorem Pair.frm {W W' w : World} {b c base base' : Nat} {u v : Value} {fs : List Flt} {cs ds : List Int} (h : Pair W w b c base base' u v fs cs ds) (hf : Frm noB W W') : Pair W' w b c base base' u v fs cs ds :=
  ⟨h.x.frm hf (fun h => h) (fun _ _ _ _ h => h), h.y.frm hf (fun h => h) (fun _ _ _ _ h => h), h.f.trans (hf.mono (fun _ _ h => h.elim))⟩
theorem oneB_far {b B : Nat} (h : b < B) : ∀ k, B ≤ k → ¬ oneB b k := by simp only [oneB]; intro k hk; omega
theorem seesB_back (f : Flt) (now s d : Int) : seesB f now d s = seesB f now s d := by
  unfold seesB
  congr 1
  split
  · rw [Bool.or_comm]
  · rw [Bool.or_comm, Bool.and_comm (d == f.b), Bool.and_comm (d == f.a)]
theorem goS_back (now s d hop : Int) (fs : List Flt) (cs : List Int) (k : Nat) : goS now d s hop fs cs k = goS now s d hop fs cs k := by
  induction k with
  | zero => rfl
  | succ k ih => show stepSt _ _ _ _ _ _ = stepSt _ _ _ _ _ _; rw [ih]; unfold stepSt; rw [seesB_back]
theorem cntL_back (now s d : Int) (fs : List Flt) (cs : List Int) (k : Nat) : cntL now d s fs cs k = cntL now s d fs cs k := by
  induction k with
  | zero => rfl
  | succ k ih => show (if _ then _ else _) = (if _ then _ else _); rw [ih, seesB_back]

set_option maxRecDepth 100000 in
set_option maxHeartbeats 2000000 in
theorem linkBack_walk (a0 : Option Addr) (len0 cap0 : Nat) (z0 : List Int) (a1 : Option Addr) (len1 cap1 : Nat) (z1 : List Int) (a2 : Option Addr) (len2 cap2 : Nat) (w : World) (w0 : IsRow .i64 w a0 len0 cap0 z0) (w1 : IsRow .i64 w a1 len1 cap1 z1) (w2 : BoolsIn w a2 len2) :
    Calls Try.prog 5 #[.slice a0 len0 cap0, .slice a1 len1 cap1, .slice a2 len2 cap2] w fun e w' => e = .returned (.bool true) ∧ Below w.heap.size w w' := by
  have H0 := Lib.hid w0.ints
  have H1 := Lib.hid w1.ints
  have H2 := Lib.hid w2
  clear w0 w1 w2
  go_enter Try.func5, Try.ntmps5
  go_wp2_with fail
  refine (faults_any a0 len0 cap0 w H0.out).mono ?_
  rintro e w1 ⟨fs, v, rfl, hlen, hok, hown, hf⟩
  have Hok := Lib.hid hok
  have Hown := Lib.hid hown
  have Hf := Lib.hid hf
  clear hok hown hf
  go_wp2_with fail
  refine (new_link _ _ _ v fs _ rfl (by omega) Hown.out Hok.out).mono ?_
  rintro e w2 ⟨b, u, rfl, hb, hl, hf⟩
  have Hown2 := Lib.hid (ownsRow_frm Hown.out hf (fun _ _ h => h))
  have Hf2 := Lib.hid (Hf.out.trans hf)
  have hbl := hl.blk.lt
  have hws := Hf.out.size
  have Hl := Lib.hid hl
  clear hl
  clear hf
  go_wp2_with fail
  refine (new_link _ _ _ v fs _ rfl (by omega) Hown2.out Hok.out).mono ?_
  rintro e w2y ⟨by_, uy, rfl, hby, hly, hf⟩
  have HLx := Lib.hid (Hl.out.frm hf (fun h => h) (fun _ _ _ _ h => h))
  have Hf2y := Lib.hid (Hf2.out.trans hf)
  have hbly := hly.blk.lt
  have hws2 := hf.size
  have hub : ∀ k, u.ownBlock = some k → k < by_ := fun k hk => by have := (Hl.out.own.lt k hk).2; omega
  have Hly := Lib.hid hly
  have Hub := Lib.hid hub
  clear hly hub
  clear hf
  go_wp2_with fail
  refine (messages_any a1 len1 cap1 w2y (H1.out.frm Hf2y.out (fun _ _ h => h))).mono ?_
  rintro e w3 ⟨ms, mv, rfl, hmlen, hmok, hmown, hf⟩
  have HL3 := Lib.hid (HLx.out.frm hf (fun h => h) (fun _ _ _ _ h => h))
  have HY3 := Lib.hid (Hly.out.frm hf (fun h => h) (fun _ _ _ _ h => h))
  have Hf3 := Lib.hid (Hf2y.out.trans hf)
  have hsz3 := hf.size
  have Hmok := Lib.hid hmok
  have Hmown := Lib.hid hmown
  clear hmok hmown
  clear hf Hf Hf2 Hf2y HLx Hly Hown Hown2 H0 H1
  obtain ⟨ma, mc, hmv, hmn, hmg⟩ := ownsRow_shape Hmown.out
  subst hmv
  obtain ⟨n, hn⟩ : ∃ n, n = ms.length := ⟨_, rfl⟩
  rw [← hn] at hmlen hmn hmg Hmown ⊢
  have Hn := Lib.hid hn
  have Hmg := Lib.hid hmg
  clear hn hmg
  have hbw : w.heap.size ≤ b := by omega
  go_wp2_with fail
  go_loopw [11] (fun i wr => ∃ (k : Nat) (cs : List Int), k ≤ n ∧ i = .int .i64 k ∧ Lnk wr b w1.heap.size u 1 fs cs ∧ Lnk wr by_ w2.heap.size uy 1 fs cs ∧ (∀ c ∈ cs, 0 ≤ c ∧ c ≤ (k : Int)) ∧ Frm noB w wr ∧ Frm (twoB b by_) w3 wr) (fun i _ => n - (intOf i).toNat)
  case atStart => exact ⟨0, _, by omega, rfl, HL3.out, HY3.out, by simp, Hf3.out, Frm.refl _ _⟩
  case round =>
    obtain ⟨k, cs, hk, rfl, hl, hly, hcs, hf, hf3⟩ := hrel
    have Hl := Lib.hid hl
    have Hly := Lib.hid hly
    have Hcs := Lib.hid hcs
    have Hf := Lib.hid hf
    have Hf3 := Lib.hid hf3
    clear hl hly hcs hf hf3
    by_cases hlt : k < n
    · obtain ⟨m, hmk⟩ := get_of_lt (l := ms) (j := k) (by rw [← Hn.out]; exact hlt)
      have hokm := Hmok.out m (List.mem_of_getElem? hmk)
      obtain ⟨g, hga, hg1, hg2⟩ := Hmg.out (by omega)
      subst hga
      obtain ⟨e0, e1, e2⟩ := msgCells_get ms k m hmk
      have hgb : ¬ twoB b by_ g := by simp only [twoB]; omega
      have c0 := cell_frm Hf3.out hgb ((Hmown.out.cellAt (k * 3) (by omega)).trans e0)
      have c1 := cell_frm Hf3.out hgb ((Hmown.out.cellAt (k * 3 + 1) (by omega)).trans e1)
      have c2 := cell_frm Hf3.out hgb ((Hmown.out.cellAt (k * 3 + 2) (by omega)).trans e2)
      obtain ⟨q1, q2, q3, q4, q5, q6⟩ := hokm
      have hgw : g < wr.heap.size := Nat.lt_of_lt_of_le hg2 Hf3.out.size
      have hn2 := H2.out.1
      clear hmk e0 e1 e2
      go_upto_region 10 with fail
      go_cut [42] (fun s wx => ∃ t : Bool, s = .bool t ∧ Blk wx wr.heap.size #[.int .i64 m.now, .int .i64 m.src, .int .i64 m.dst] 33 ∧ Blk wx (wr.heap.size + 1) #[.int .i64 m.now, .int .i64 m.src, .int .i64 m.dst] 33 ∧ Frm noB wr wx)
      case first =>
        have hfx : Frm noB wr ((wr.alloc (.cells #[.int .i64 m.now, .int .i64 m.src, .int .i64 m.dst] 33)).alloc (.cells #[.int .i64 m.now, .int .i64 m.src, .int .i64 m.dst] 33)) := ((Frm.refl _ _).alloc _).alloc _
        have hA := (Blk.made wr #[.int .i64 m.now, .int .i64 m.src, .int .i64 m.dst] 33).alloc (.cells #[.int .i64 m.now, .int .i64 m.src, .int .i64 m.dst] 33)
        have hB := (Blk.made (wr.alloc (.cells #[.int .i64 m.now, .int .i64 m.src, .int .i64 m.dst] 33)) #[.int .i64 m.now, .int .i64 m.src, .int .i64 m.dst] 33)
        rw [World.size_alloc] at hB
        have Hfx := Lib.hid hfx
        have HA := Lib.hid hA
        have HB := Lib.hid hB
        clear hfx hA hB
        by_cases hk2 : k < len2
        · obtain ⟨bb, boff, x, hba, hbc⟩ := H2.out.2 k hk2
          subst hba
          have hbc2 := cell_frm Hf.out (fun h => h) hbc
          have hbw2 := World.block_lt_of_cell? wr ⟨bb, boff + k, none⟩ hbc2
          clear hbc
          go_wp2_with fail
          go_meet
          exact ⟨x, rfl, HA.out, HB.out, Hfx.out⟩
        · go_wp2_with fail
          go_meet
          exact ⟨false, rfl, HA.out, HB.out, Hfx.out⟩
      case rest =>
        obtain ⟨t, rfl, hA, hB, hfx⟩ := hcut
        have HA := Lib.hid hA
        have HB := Lib.hid hB
        have Hfx := Lib.hid hfx
        clear hA hB hfx
        have hwx := Hfx.out.size
        have hBl := HB.out.lt
        go_upto_if 42 with fail
        go_cut [43] (fun s wx => ∃ p q : Int, (p = m.src ∧ q = m.dst ∨ p = m.dst ∧ q = m.src) ∧ Blk wx wr.heap.size #[.int .i64 m.now, .int .i64 m.src, .int .i64 m.dst] 33 ∧ Blk wx (wr.heap.size + 1) #[.int .i64 m.now, .int .i64 p, .int .i64 q] 33 ∧ Frm noB wr wx)
        case first =>
          cases t
          · go_wp2_with fail
            go_meet
            exact ⟨m.src, m.dst, .inl ⟨rfl, rfl⟩, HA.out, HB.out, Hfx.out⟩
          · have x0 := HA.out.cell 0
            have x1 := HA.out.cell 1
            have x2 := HA.out.cell 2
            simp at x0 x1 x2
            have z0 := HB.out.free 0
            have z1 := HB.out.free 1
            have z2 := HB.out.free 2
            have y0 := HB.out.cell 0
            have y1 := HB.out.cell 1
            have y2 := HB.out.cell 2
            simp at y0 y1 y2
            go_wp2_with fail
            go_meet
            refine ⟨m.dst, m.src, .inr ⟨rfl, rfl⟩, (((HA.out.set_ne (a := ⟨wr.heap.size + 1, 0, none⟩) (by simp) _).set_ne (a := ⟨wr.heap.size + 1, 1, none⟩) (by simp) _).set_ne (a := ⟨wr.heap.size + 1, 2, none⟩) (by simp) _), ?_, (((Hfx.out.setNew (p := ⟨wr.heap.size + 1, 0, none⟩) (by simp) _).setNew (p := ⟨wr.heap.size + 1, 1, none⟩) (by simp) _).setNew (p := ⟨wr.heap.size + 1, 2, none⟩) (by simp) _)⟩
            have h3 := ((HB.out.set 0 (.int .i64 m.now)).set 1 (.int .i64 m.dst)).set 2 (.int .i64 m.src)
            simpa using h3
        case rest =>
          obtain ⟨p, q, hpq, hA2, hB2, hfx2⟩ := hcut
          have hpb : 0 ≤ p ∧ p ≤ 202 ∧ 0 ≤ q ∧ q ≤ 202 := by omega
          obtain ⟨p1, p2, p3, p4⟩ := hpb
          have hg1 : ∀ k, goS m.now p q 1 fs cs k = goS m.now m.src m.dst 1 fs cs k := fun k => by
            rcases hpq with ⟨rfl, rfl⟩ | ⟨rfl, rfl⟩
            · rfl
            · exact goS_back _ _ _ _ _ _ _
          have hg2 : ∀ k, cntL m.now p q fs cs k = cntL m.now m.src m.dst fs cs k := fun k => by
            rcases hpq with ⟨rfl, rfl⟩ | ⟨rfl, rfl⟩
            · rfl
            · exact cntL_back _ _ _ _ _ _
          have Hg1 := Lib.hid hg1
          have Hg2 := Lib.hid hg2
          clear hg1 hg2
          clear hpq
          have hp0 : Pair wc.drew wc b by_ w1.heap.size w2.heap.size u uy fs cs cs :=
            (⟨Hl.out.frm hfx2.drew (fun h => h) (fun _ _ _ _ h => h), Hly.out.frm hfx2.drew (fun h => h) (fun _ _ _ _ h => h), Frm.drew (Frm.refl _ _)⟩)
          have hcsb : ∀ c ∈ cs, 0 ≤ c ∧ c ≤ 1000000 := fun c hc => by have := Hcs.out c hc; omega
          have Hp0 := Lib.hid hp0
          have Hcsb := Lib.hid hcsb
          clear hp0 hcsb
          go_upto_region 12 with fail
          go_cut [67] (fun s wx => s = .bool false ∧ Pair wx wc b by_ w1.heap.size w2.heap.size u uy fs (cntL m.now m.src m.dst fs cs fs.length) (cntL m.now m.src m.dst fs cs fs.length))
          case first =>
            have hcells : ∀ W, Frm (twoB b by_) wc W → (W.cell? ⟨wr.heap.size, 0, none⟩ = some (.int .i64 m.now) ∧ W.cell? ⟨wr.heap.size, 1, none⟩ = some (.int .i64 m.src) ∧ W.cell? ⟨wr.heap.size, 2, none⟩ = some (.int .i64 m.dst) ∧
              W.cell? ⟨wr.heap.size + 1, 0, none⟩ = some (.int .i64 m.now) ∧ W.cell? ⟨wr.heap.size + 1, 1, none⟩ = some (.int .i64 p) ∧ W.cell? ⟨wr.heap.size + 1, 2, none⟩ = some (.int .i64 q)) := fun W hW => by
              have ha := hA2.frm hW (by simp only [twoB]; omega)
              have hb := hB2.frm hW (by simp only [twoB]; omega)
              exact ⟨ha.cell 0, ha.cell 1, ha.cell 2, hb.cell 0, hb.cell 1, hb.cell 2⟩
            have hcut0 := hcells wc (Frm.refl _ _)
            obtain ⟨x0, x1, x2, y0, y1, y2⟩ := hcut0
            have hbby : b < by_ := by omega
            have hbw2 : b < w2.heap.size := by omega
            have hq1 : 0 ≤ m.now ∧ m.now ≤ 100000 := ⟨q1, by omega⟩
            have hwrb : b < wr.heap.size ∧ by_ < wr.heap.size := by omega
            have Hcells := Lib.hid hcells
            have Hq1 := Lib.hid hq1
            have Hwrb := Lib.hid hwrb
            clear hcells hq1 hwrb
            have hwr2 : by_ < wc.drew.heap.size := Nat.lt_of_lt_of_le Hwrb.out.2 hfx2.size
            have Hwr2 := Lib.hid hwr2
            clear hwr2
            clear hA2 hB2
            go_region_held3 (fun W => W.cell? ⟨wr.heap.size, 0, none⟩ = some (.int .i64 m.now) ∧ W.cell? ⟨wr.heap.size, 1, none⟩ = some (.int .i64 m.src) ∧ W.cell? ⟨wr.heap.size, 2, none⟩ = some (.int .i64 m.dst) ∧
              W.cell? ⟨wr.heap.size + 1, 0, none⟩ = some (.int .i64 m.now) ∧ W.cell? ⟨wr.heap.size + 1, 1, none⟩ = some (.int .i64 p) ∧ W.cell? ⟨wr.heap.size + 1, 2, none⟩ = some (.int .i64 q))
              (first | exact ⟨x0, x1, x2, y0, y1, y2⟩ | exact Hcells.out _ hpa.f | exact Hcells.out _ hpd.f | exact Hcells.out _ hpz.f)
              (first
                | (go_at_call_of 14 (Value.pointer (some ⟨b, 0, none⟩)); refine (send_x Hp0.out hbby hbw2 m.now m.src m.dst Hq1.out Hcsb.out).mono ?_; rintro e wa ⟨rx, rfl, hox, hpa, hfa⟩)
                | (go_at_call 14; refine (send_y hpa hbby Hub.out m.now p q Hq1.out Hcsb.out).mono ?_; rintro e wd ⟨ry, rfl, hoy, hpd, hfd⟩; rw [Hg1.out] at hoy; rw [Hg2.out] at hpd; have hox2 := ownsRow_frm hox hfd (oneB_far Hwr2.out))
                | (go_at_call 13; refine (sameInts_own hox2 hoy).mono ?_; rintro e wz ⟨rfl, hfz⟩; have hpz := hpd.frm hfz))
            all_goals
              go_wp2_with fail
              go_meet
              exact ⟨by simp [sameL], hpz⟩
          case rest =>
            obtain ⟨rfl, hp⟩ := hcut
            have Hp := Lib.hid hp
            clear hp
            have hcb : ∀ c ∈ cntL m.now m.src m.dst fs cs fs.length, 0 ≤ c ∧ c ≤ ((k + 1 : Nat) : Int) := fun c hc => by have := cntL_bd m.now m.src m.dst fs cs fs.length (k : Int) (by omega) Hcs.out c hc; omega
            have hfz := (Hf.out.trans hfx2).new Hp.out.f (fun i hi h => by simp only [twoB] at h; omega)
            have hfz3 := (Hf3.out.trans (hfx2.mono (fun _ _ h => h.elim))).trans Hp.out.f
            have Hcb := Lib.hid hcb
            have Hfz := Lib.hid hfz
            have Hfz3 := Lib.hid hfz3
            clear hcb hfz hfz3
            go_wp2
            go_roundw
            case rel => exact ⟨k + 1, _, by omega, by go_num, Hp.out.x, Hp.out.y, Hcb.out, Hfz.out, Hfz3.out⟩
            case measure => simp [intOf]; omega
    · obtain rfl : k = n := by omega
      go_wp2_with fail
      refine (lives_any _).mono ?_
      rintro e w' ⟨rfl, hf⟩
      have Hf5 := Lib.hid (Hf.out.trans hf)
      clear hf
      go_wp2
      go_ret
      exact ⟨rfl, Hf5.out.below (Nat.le_refl _) (fun _ _ h => h)⟩
end Go.Proofs.Ytmohmjanglkggaa
