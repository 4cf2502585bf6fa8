/- Link.Send. -/
import Derived.Test.YtmohmjanglkggaaLinkObj
import Derived.Deep.QuietTactic
import Derived.BigQuiet
set_option linter.unusedVariables false
namespace Go.Proofs.Ytmohmjanglkggaa
open Go.RowKit

theorem i64s_getD {cs : List Int} {k : Nat} (h : k < cs.length) : (i64s cs)[k]? = some (.int .i64 (cs.getD k 0)) := by
  obtain ⟨x, hx⟩ := get_of_lt h
  rw [i64s_get hx]; simp [List.getD, hx]
theorem linkCells_get (hop : Int) (v : Value) (cs : List Int) (k : Nat) (h : k < cs.length) : (linkCells hop v cs)[2 + k]? = some (.int .i64 (cs.getD k 0)) := by
  unfold linkCells
  rw [show 2 + k = k + 1 + 1 from by omega]
  simpa using i64s_getD h
theorem linkCells_set (hop : Int) (v : Value) (cs : List Int) (k : Nat) (x : Int) : (linkCells hop v cs).setIfInBounds (2 + k) (.int .i64 x) = linkCells hop v (cs.set k x) := by
  unfold linkCells i64s
  rw [show 2 + k = k + 1 + 1 from by omega]
  simp

def finS (f : Flt) (ev : Bool) (st : St) : St := ⟨if f.kind = 2 then st.tick + f.n else st.tick, st.lost || decide (f.kind = 4) || (decide (f.kind = 1) && ev), st.twice || (decide (f.kind = 3) && ev)⟩
theorem fin_4 (f : Flt) (ev : Bool) (st : St) (k4 : f.kind = 4) : (⟨if f.kind = 2 then st.tick + f.n else st.tick, st.lost || decide (f.kind = 4) || (decide (f.kind = 1) && ev), st.twice || (decide (f.kind = 3) && ev)⟩ : St) = ⟨st.tick, true, st.twice⟩ := by simp [k4]
theorem fin_1 (f : Flt) (ev : Bool) (st : St) (k4 : ¬ f.kind = 4) (k1 : f.kind = 1) : (⟨if f.kind = 2 then st.tick + f.n else st.tick, st.lost || decide (f.kind = 4) || (decide (f.kind = 1) && ev), st.twice || (decide (f.kind = 3) && ev)⟩ : St) = ⟨st.tick, st.lost || ev, st.twice⟩ := by simp [k1]
theorem fin_2 (f : Flt) (ev : Bool) (st : St) (k4 : ¬ f.kind = 4) (k1 : ¬ f.kind = 1) (k2 : f.kind = 2) : (⟨if f.kind = 2 then st.tick + f.n else st.tick, st.lost || decide (f.kind = 4) || (decide (f.kind = 1) && ev), st.twice || (decide (f.kind = 3) && ev)⟩ : St) = ⟨st.tick + f.n, st.lost, st.twice⟩ := by simp [k2]
theorem fin_3 (f : Flt) (ev : Bool) (st : St) (k4 : ¬ f.kind = 4) (k1 : ¬ f.kind = 1) (k2 : ¬ f.kind = 2) (k3 : f.kind = 3) : (⟨if f.kind = 2 then st.tick + f.n else st.tick, st.lost || decide (f.kind = 4) || (decide (f.kind = 1) && ev), st.twice || (decide (f.kind = 3) && ev)⟩ : St) = ⟨st.tick, st.lost, st.twice || ev⟩ := by simp [k3]
theorem fin_0 (f : Flt) (ev : Bool) (st : St) (k4 : ¬ f.kind = 4) (k1 : ¬ f.kind = 1) (k2 : ¬ f.kind = 2) (k3 : ¬ f.kind = 3) : (⟨if f.kind = 2 then st.tick + f.n else st.tick, st.lost || decide (f.kind = 4) || (decide (f.kind = 1) && ev), st.twice || (decide (f.kind = 3) && ev)⟩ : St) = st := by simp [k1, k2, k3, k4]

def Sent (w : World) (b base : Nat) (v : Value) (hop now src dst : Int) (fs : List Flt) (cs : List Int) (e : Ending) (w' : World) : Prop :=
  ∃ (r : Value), e = .returned r ∧ w'.ownsRow w.heap.size 3 1 r (resS (goS now src dst hop fs cs fs.length)).length (i64s (resS (goS now src dst hop fs cs fs.length))) ∧
    Lnk w' b base v hop fs (cntL now src dst fs cs fs.length) ∧ Frm (oneB b) w w'

set_option maxRecDepth 100000 in
set_option maxHeartbeats 2000000 in
theorem send_some (b base g cap n : Nat) (hop now src dst : Int) (fs : List Flt) (cs : List Int) (w : World) (h : Lnk w b base (.slice (some ⟨g, 0, none⟩) n cap) hop fs cs) (hn : fs.length = n) (hn0 : 0 < n) (hgb : g ≠ b)
    (hnow : 0 ≤ now ∧ now ≤ 100000) (hhop : 0 ≤ hop ∧ hop ≤ 1000) (hcs : ∀ c ∈ cs, 0 ≤ c ∧ c ≤ 1000000) :
    Calls Try.prog 14 #[.pointer (some ⟨b, 0, none⟩), .int .i64 now, .int .i64 src, .int .i64 dst] w (Sent w b base (.slice (some ⟨g, 0, none⟩) n cap) hop now src dst fs cs) := by
  have hb0 := h.blk.cell 0
  have hb1 := h.blk.cell 1
  simp only [linkCells] at hb0 hb1
  simp at hb0 hb1
  have hn40 : n ≤ 40 := by have := h.few; omega
  have H := Lib.hid h
  have Hn := Lib.hid hn
  have Hcs := Lib.hid hcs
  obtain ⟨hnow0, hnow1⟩ := hnow
  obtain ⟨hhop0, hhop1⟩ := hhop
  clear h hn hcs
  go_enter Try.func14, Try.ntmps14
  go_wp2_with fail
  go_loopw [10, 11, 12, 32] (fun t lo tw i wr => ∃ k : Nat, k ≤ n ∧ i = .int .i64 k ∧ t = .int .i64 (goS now src dst hop fs cs k).tick ∧ lo = .bool (goS now src dst hop fs cs k).lost ∧ tw = .bool (goS now src dst hop fs cs k).twice ∧
      Lnk wr b base (.slice (some ⟨g, 0, none⟩) n cap) hop fs (cntL now src dst fs cs k) ∧ Frm (oneB b) w wr) (fun _ _ _ i _ => n - (intOf i).toNat)
  case atStart => exact ⟨0, by omega, rfl, rfl, rfl, rfl, H.out, Frm.refl _ _⟩
  case round =>
    obtain ⟨k, hk, rfl, rfl, rfl, rfl, hL, hf⟩ := hrel
    have HL := Lib.hid hL
    have Hf := Lib.hid hf
    clear hL hf
    by_cases hlt : k < n
    · obtain ⟨f, hfk⟩ := get_of_lt (l := fs) (j := k) (by rw [Hn.out]; exact hlt)
      have hfd : fs.getD k flt0 = f := by simp [List.getD, hfk]
      have hokf := HL.out.ok f (List.mem_of_getElem? hfk)
      obtain ⟨e0, e1, e2, e3, e4, e5⟩ := fltCells_get fs k f hfk
      have hown := HL.out.own
      rw [Hn.out] at hown
      have c0 := (hown.cellAt (k * 6) (by omega)).trans e0
      have c1 := (hown.cellAt (k * 6 + 1) (by omega)).trans e1
      have c2 := (hown.cellAt (k * 6 + 2) (by omega)).trans e2
      have c3 := (hown.cellAt (k * 6 + 3) (by omega)).trans e3
      have c4 := (hown.cellAt (k * 6 + 4) (by omega)).trans e4
      have c5 := (hown.cellAt (k * 6 + 5) (by omega)).trans e5
      have Hfd := Lib.hid hfd
      have Hokf := Lib.hid hokf
      have hgw : g < wr.heap.size := World.block_lt_of_cell? wr ⟨g, k * 6, none⟩ c0
      clear hfk hfd hokf e0 e1 e2 e3 e4 e5 hown
      go_wp2_with fail
      refine (seenBy_any f now src dst _).mono ?_
      rintro e w1 ⟨rfl, hf1⟩
      have fbox := (Frm.refl noB wr).alloc (.cells #[.int .i64 f.kind, .int .i64 f.frm, .int .i64 f.til, .int .i64 f.a, .int .i64 f.b, .int .i64 f.n] 41)
      have hbox := (Blk.made wr #[.int .i64 f.kind, .int .i64 f.frm, .int .i64 f.til, .int .i64 f.a, .int .i64 f.b, .int .i64 f.n] 41).frm hf1 (fun h => h)
      have HL1 := Lib.hid (HL.out.frm (fbox.trans hf1) (fun h => h) (fun _ _ _ _ h => h))
      have Hf1 := Lib.hid (Hf.out.trans ((fbox.trans hf1).mono (fun _ _ h => h.elim)))
      have hbsz : b < wr.heap.size := HL.out.blk.lt
      have hsz1 := (fbox.trans hf1).size
      clear hf1 fbox c0 c1 c2 c3 c4 c5
      cases hs : seesB f now src dst
      · have hst : goS now src dst hop fs cs (k + 1) = goS now src dst hop fs cs k := goS_not _ _ _ _ _ _ _ f Hfd.out hs
        have hct : cntL now src dst fs cs (k + 1) = cntL now src dst fs cs k := cntL_not _ _ _ _ _ _ f Hfd.out hs
        have Hst := Lib.hid hst
        have Hct := Lib.hid hct
        clear hst hct hs
        clear hbox
        go_wp2
        go_roundw
        case rel => exact ⟨k + 1, by omega, by go_num, by rw [Hst.out], by rw [Hst.out], by rw [Hst.out], by rw [Hct.out]; exact HL1.out, Hf1.out⟩
        case measure => simp [intOf]; omega
      · have hclen : (cntL now src dst fs cs k).length = 40 := HL1.out.len
        have hcell := HL1.out.blk.cell (2 + k)
        rw [linkCells_get _ _ _ k (by omega), cntL_get _ _ _ _ _ k k (by rw [← cntL_len now src dst fs cs k]; omega), if_neg (by omega)] at hcell
        have hfree := HL1.out.blk.free (2 + k)
        have hcb : 0 ≤ cs.getD k 0 ∧ cs.getD k 0 ≤ 1000000 := by
          have hk : k < cs.length := by rw [← cntL_len now src dst fs cs k]; omega
          have e : cs.getD k 0 = cs[k] := by simp [List.getD, hk]
          rw [e]; exact Hcs.out _ (List.getElem_mem hk)
        obtain ⟨hcb0, hcb1⟩ := hcb
        generalize hcc : cs.getD k 0 = c at *
        have Hcc := Lib.hid hcc
        clear hcc hclen
        have Hs := Lib.hid hs
        clear hs
        have b0 := hbox.cell 0
        have b5 := hbox.cell 5
        simp at b0 b5
        have Hbox := Lib.hid hbox
        clear hbox
        go_wp2_with fail
        go_region
        have hL2 : Lnk (w1.setCell ⟨b, 2 + k, none⟩ (.int .i64 (c + 1))).drew b base (.slice (some ⟨g, 0, none⟩) n cap) hop fs ((cntL now src dst fs cs k).set k (c + 1)) := by
          refine ⟨?_, by simpa using HL1.out.len, HL1.out.few, ?_, HL1.out.ok, HL1.out.apart⟩
          · have := (HL1.out.blk.set (2 + k) (.int .i64 (c + 1))).drew
            rwa [linkCells_set] at this
          · exact ownsRow_at HL1.out.own (fun k' hk' => Below.heap_setCell _ _ _ _ (by simp [Value.ownBlock] at hk'; subst hk'; exact hgb))
        have hf2 := (Hf1.out.setOne (2 + k) (.int .i64 (c + 1))).drew
        have d0 : (w1.setCell ⟨b, 2 + k, none⟩ (.int .i64 (c + 1))).drew.cell? ⟨b, 2 + k, none⟩ = some (.int .i64 (c + 1)) := World.cell?_setCell_same _ _ _ hcell
        have d1 : (w1.setCell ⟨b, 2 + k, none⟩ (.int .i64 (c + 1))).drew.cell? ⟨wr.heap.size, 0, none⟩ = some (.int .i64 f.kind) := (World.cell?_setCell_other _ _ _ _ (by intro e; have := congrArg Addr.block e; simp at this; omega)).trans b0
        have d2 : (w1.setCell ⟨b, 2 + k, none⟩ (.int .i64 (c + 1))).drew.cell? ⟨wr.heap.size, 5, none⟩ = some (.int .i64 f.n) := (World.cell?_setCell_other _ _ _ _ (by intro e; have := congrArg Addr.block e; simp at this; omega)).trans b5
        have hsz2 : wr.heap.size ≤ (w1.setCell ⟨b, 2 + k, none⟩ (.int .i64 (c + 1))).drew.heap.size := by simpa using hsz1
        clear hcell hfree b0 b5
        generalize (w1.setCell ⟨b, 2 + k, none⟩ (.int .i64 (c + 1))).drew = w2 at *
        have HL2 := Lib.hid hL2
        have Hf2 := Lib.hid hf2
        clear hL2 hf2 HL1 Hf1
        have hst := goS_see now src dst hop fs cs k f c Hfd.out Hcc.out Hs.out
        have hct := cntL_see now src dst fs cs k f c Hfd.out Hcc.out Hs.out
        have Hst := Lib.hid hst
        have Hct := Lib.hid hct
        clear hst hct
        by_cases hn1 : 0 < f.n
        · have hnz : (f.n == 0) = false := by simp; omega
          have heach : eachB f (c + 1) = ((c + 1) % f.n == 0) := by unfold eachB; rw [decide_eq_true hn1, Bool.true_and]; rfl
          go_wp2
          go_quiet (fail)
          have hL3 : Lnk (w2.drewN nq) b base (.slice (some ⟨g, 0, none⟩) n cap) hop fs ((cntL now src dst fs cs k).set k (c + 1)) := ⟨HL2.out.blk, HL2.out.len, HL2.out.few, HL2.out.own, HL2.out.ok, HL2.out.apart⟩
          have hf3 : Frm (oneB b) w (w2.drewN nq) := ⟨Hf2.out.os, Hf2.out.tape, Hf2.out.output, Hf2.out.size, Hf2.out.block⟩
          have d4 : (w2.drewN nq).cell? ⟨wr.heap.size, 0, none⟩ = some (.int .i64 f.kind) := d1
          have d5 : (w2.drewN nq).cell? ⟨wr.heap.size, 5, none⟩ = some (.int .i64 f.n) := d2
          have hsz3 : wr.heap.size ≤ (w2.drewN nq).heap.size := hsz2
          clear d0 d1 d2 hsz2 HL2 Hf2
          generalize w2.drewN nq = w3 at *
          have HL3 := Lib.hid hL3
          have Hf3 := Lib.hid hf3
          clear hL3 hf3
          rw [← heach]
          clear heach hnz
          generalize eachB f (c + 1) = ev at *
          have hbd := goS_bd now src dst hop fs cs (fun f hf => ⟨(HL3.out.ok f hf).n1, (HL3.out.ok f hf).n2⟩) k
          have hn20 := Hokf.out.n2
          have hn00 := Hokf.out.n1
          generalize hst0 : goS now src dst hop fs cs k = st at hbd Hst ⊢
          clear hst0
          obtain ⟨hbd0, hbd1⟩ := hbd
          obtain ⟨tk, lo, tw⟩ := st
          simp only at hbd0 hbd1
          dsimp only
          by_cases k4 : f.kind = 4
          · have t4 : (f.kind == 4) = true := by simp; omega
            have Hfin := Lib.hid (fin_4 f ev ⟨tk, lo, tw⟩ k4)
            clear k4
            go_wp2
            all_goals
              go_roundw
              case rel => exact ⟨k + 1, by omega, by go_num, by rw [Hst.out, Hfin.out], by rw [Hst.out, Hfin.out] <;> simp_all, by rw [Hst.out, Hfin.out] <;> simp_all, by rw [Hct.out]; exact HL3.out, Hf3.out⟩
              case measure => simp [intOf]; omega
          · by_cases k1 : f.kind = 1
            · have t4 : (f.kind == 4) = false := by simp; omega
              have t1 : (f.kind == 1) = true := by simp; omega
              have Hfin := Lib.hid (fin_1 f ev ⟨tk, lo, tw⟩ k4 k1)
              clear k4 k1
              go_wp2
              all_goals
                go_roundw
                case rel => exact ⟨k + 1, by omega, by go_num, by rw [Hst.out, Hfin.out], by rw [Hst.out, Hfin.out] <;> simp_all, by rw [Hst.out, Hfin.out] <;> simp_all, by rw [Hct.out]; exact HL3.out, Hf3.out⟩
                case measure => simp [intOf]; omega
            · by_cases k2 : f.kind = 2
              · have t4 : (f.kind == 4) = false := by simp; omega
                have t1 : (f.kind == 1) = false := by simp; omega
                have t2 : (f.kind == 2) = true := by simp; omega
                have Hfin := Lib.hid (fin_2 f ev ⟨tk, lo, tw⟩ k4 k1 k2)
                clear k4 k1 k2
                go_wp2
                all_goals
                  go_roundw
                  case rel => exact ⟨k + 1, by omega, by go_num, by rw [Hst.out, Hfin.out], by rw [Hst.out, Hfin.out] <;> simp_all, by rw [Hst.out, Hfin.out] <;> simp_all, by rw [Hct.out]; exact HL3.out, Hf3.out⟩
                  case measure => simp [intOf]; omega
              · by_cases k3 : f.kind = 3
                · have t4 : (f.kind == 4) = false := by simp; omega
                  have t1 : (f.kind == 1) = false := by simp; omega
                  have t2 : (f.kind == 2) = false := by simp; omega
                  have t3 : (f.kind == 3) = true := by simp; omega
                  have Hfin := Lib.hid (fin_3 f ev ⟨tk, lo, tw⟩ k4 k1 k2 k3)
                  clear k4 k1 k2 k3
                  go_wp2
                  all_goals
                    go_roundw
                    case rel => exact ⟨k + 1, by omega, by go_num, by rw [Hst.out, Hfin.out], by rw [Hst.out, Hfin.out] <;> simp_all, by rw [Hst.out, Hfin.out] <;> simp_all, by rw [Hct.out]; exact HL3.out, Hf3.out⟩
                    case measure => simp [intOf]; omega
                · have t4 : (f.kind == 4) = false := by simp; omega
                  have t1 : (f.kind == 1) = false := by simp; omega
                  have t2 : (f.kind == 2) = false := by simp; omega
                  have t3 : (f.kind == 3) = false := by simp; omega
                  have Hfin := Lib.hid (fin_0 f ev ⟨tk, lo, tw⟩ k4 k1 k2 k3)
                  clear k4 k1 k2 k3
                  go_wp2
                  all_goals
                    go_roundw
                    case rel => exact ⟨k + 1, by omega, by go_num, by rw [Hst.out, Hfin.out], by rw [Hst.out, Hfin.out] <;> simp_all, by rw [Hst.out, Hfin.out] <;> simp_all, by rw [Hct.out]; exact HL3.out, Hf3.out⟩
                    case measure => simp [intOf]; omega
        · have hn1d : decide (0 < f.n) = false := decide_eq_false hn1
          go_wp2
          go_quiet (fail)
          have hL3 : Lnk (w2.drewN nq) b base (.slice (some ⟨g, 0, none⟩) n cap) hop fs ((cntL now src dst fs cs k).set k (c + 1)) := ⟨HL2.out.blk, HL2.out.len, HL2.out.few, HL2.out.own, HL2.out.ok, HL2.out.apart⟩
          have hf3 : Frm (oneB b) w (w2.drewN nq) := ⟨Hf2.out.os, Hf2.out.tape, Hf2.out.output, Hf2.out.size, Hf2.out.block⟩
          have d4 : (w2.drewN nq).cell? ⟨wr.heap.size, 0, none⟩ = some (.int .i64 f.kind) := d1
          have d5 : (w2.drewN nq).cell? ⟨wr.heap.size, 5, none⟩ = some (.int .i64 f.n) := d2
          have hsz3 : wr.heap.size ≤ (w2.drewN nq).heap.size := hsz2
          clear d0 d1 d2 hsz2 HL2 Hf2
          generalize w2.drewN nq = w3 at *
          have HL3 := Lib.hid hL3
          have Hf3 := Lib.hid hf3
          clear hL3 hf3
          have heach : eachB f (c + 1) = false := by unfold eachB; rw [decide_eq_false (by omega), Bool.false_and]
          rw [heach] at Hst
          clear heach
          have hbd := goS_bd now src dst hop fs cs (fun f hf => ⟨(HL3.out.ok f hf).n1, (HL3.out.ok f hf).n2⟩) k
          have hn20 := Hokf.out.n2
          have hn00 := Hokf.out.n1
          generalize hst0 : goS now src dst hop fs cs k = st at hbd Hst ⊢
          clear hst0
          obtain ⟨hbd0, hbd1⟩ := hbd
          obtain ⟨tk, lo, tw⟩ := st
          simp only at hbd0 hbd1
          dsimp only
          by_cases k4 : f.kind = 4
          · have t4 : (f.kind == 4) = true := by simp; omega
            have Hfin := Lib.hid (fin_4 f false ⟨tk, lo, tw⟩ k4)
            clear k4
            go_wp2
            all_goals
              go_roundw
              case rel => exact ⟨k + 1, by omega, by go_num, by rw [Hst.out, Hfin.out], by rw [Hst.out, Hfin.out] <;> simp_all, by rw [Hst.out, Hfin.out] <;> simp_all, by rw [Hct.out]; exact HL3.out, Hf3.out⟩
              case measure => simp [intOf]; omega
          · by_cases k1 : f.kind = 1
            · have t4 : (f.kind == 4) = false := by simp; omega
              have t1 : (f.kind == 1) = true := by simp; omega
              have Hfin := Lib.hid (fin_1 f false ⟨tk, lo, tw⟩ k4 k1)
              clear k4 k1
              go_wp2
              all_goals
                go_roundw
                case rel => exact ⟨k + 1, by omega, by go_num, by rw [Hst.out, Hfin.out], by rw [Hst.out, Hfin.out] <;> simp_all, by rw [Hst.out, Hfin.out] <;> simp_all, by rw [Hct.out]; exact HL3.out, Hf3.out⟩
                case measure => simp [intOf]; omega
            · by_cases k2 : f.kind = 2
              · have t4 : (f.kind == 4) = false := by simp; omega
                have t1 : (f.kind == 1) = false := by simp; omega
                have t2 : (f.kind == 2) = true := by simp; omega
                have Hfin := Lib.hid (fin_2 f false ⟨tk, lo, tw⟩ k4 k1 k2)
                clear k4 k1 k2
                go_wp2
                all_goals
                  go_roundw
                  case rel => exact ⟨k + 1, by omega, by go_num, by rw [Hst.out, Hfin.out], by rw [Hst.out, Hfin.out] <;> simp_all, by rw [Hst.out, Hfin.out] <;> simp_all, by rw [Hct.out]; exact HL3.out, Hf3.out⟩
                  case measure => simp [intOf]; omega
              · by_cases k3 : f.kind = 3
                · have t4 : (f.kind == 4) = false := by simp; omega
                  have t1 : (f.kind == 1) = false := by simp; omega
                  have t2 : (f.kind == 2) = false := by simp; omega
                  have t3 : (f.kind == 3) = true := by simp; omega
                  have Hfin := Lib.hid (fin_3 f false ⟨tk, lo, tw⟩ k4 k1 k2 k3)
                  clear k4 k1 k2 k3
                  go_wp2
                  all_goals
                    go_roundw
                    case rel => exact ⟨k + 1, by omega, by go_num, by rw [Hst.out, Hfin.out], by rw [Hst.out, Hfin.out] <;> simp_all, by rw [Hst.out, Hfin.out] <;> simp_all, by rw [Hct.out]; exact HL3.out, Hf3.out⟩
                    case measure => simp [intOf]; omega
                · have t4 : (f.kind == 4) = false := by simp; omega
                  have t1 : (f.kind == 1) = false := by simp; omega
                  have t2 : (f.kind == 2) = false := by simp; omega
                  have t3 : (f.kind == 3) = false := by simp; omega
                  have Hfin := Lib.hid (fin_0 f false ⟨tk, lo, tw⟩ k4 k1 k2 k3)
                  clear k4 k1 k2 k3
                  go_wp2
                  all_goals
                    go_roundw
                    case rel => exact ⟨k + 1, by omega, by go_num, by rw [Hst.out, Hfin.out], by rw [Hst.out, Hfin.out] <;> simp_all, by rw [Hst.out, Hfin.out] <;> simp_all, by rw [Hct.out]; exact HL3.out, Hf3.out⟩
                    case measure => simp [intOf]; omega
    · obtain rfl : k = n := by omega
      have hbd := goS_bd now src dst hop fs cs (fun f hf => ⟨(HL.out.ok f hf).n1, (HL.out.ok f hf).n2⟩) k
      have hres : resS (goS now src dst hop fs cs k) = if (goS now src dst hop fs cs k).lost then [] else if (goS now src dst hop fs cs k).twice then [(goS now src dst hop fs cs k).tick, (goS now src dst hop fs cs k).tick + 1] else [(goS now src dst hop fs cs k).tick] := rfl
      have hbsz := HL.out.blk.lt
      have Hres := Lib.hid (show Sent w b base (.slice (some ⟨g, 0, none⟩) k cap) hop now src dst fs cs = fun e w' => ∃ (r : Value), e = .returned r ∧ w'.ownsRow w.heap.size 3 1 r (resS (goS now src dst hop fs cs k)).length (i64s (resS (goS now src dst hop fs cs k))) ∧
        Lnk w' b base (.slice (some ⟨g, 0, none⟩) k cap) hop fs (cntL now src dst fs cs k) ∧ Frm (oneB b) w w' from by unfold Sent; rw [Hn.out])
      rw [hres] at Hres
      clear hres
      have hwsz := Hf.out.size
      generalize goS now src dst hop fs cs k = st at hbd Hres ⊢
      obtain ⟨tk, lo, tw⟩ := st
      obtain ⟨hbd0, hbd1⟩ := hbd
      simp only at hbd0 hbd1 Hres
      dsimp only
      have hnw : ∀ (v1 : List Int) (o : Obj), Lnk (wr.alloc o) b base (.slice (some ⟨g, 0, none⟩) k cap) hop fs (cntL now src dst fs cs k) ∧ Frm (oneB b) w (wr.alloc o) := fun _ o =>
        ⟨HL.out.frm ((Frm.refl noB wr).alloc o) (fun h => h) (fun _ _ _ _ h => h), Hf.out.alloc o⟩
      have Hnw := Lib.hid hnw
      clear hnw
      cases lo
      · cases tw
        · go_wp2
          go_ret
          rw [Hres.out]
          exact ⟨_, rfl, World.ownsRow_lit wr #[.int .i64 tk] 1 hwsz (by decide) rfl, (Hnw.out [] _).1, (Hnw.out [] _).2⟩
        · go_wp2
          go_ret
          rw [Hres.out]
          exact ⟨_, rfl, World.ownsRow_lit wr #[.int .i64 tk, .int .i64 (tk + 1)] 2 hwsz (by decide) rfl, (Hnw.out [] _).1, (Hnw.out [] _).2⟩
      · go_wp2
        go_ret
        rw [Hres.out]
        exact ⟨_, rfl, World.ownsRow_nil wr _ _ _, HL.out, Hf.out⟩

set_option maxRecDepth 100000 in
set_option maxHeartbeats 1000000 in
theorem send_nil (b base : Nat) (a : Option Addr) (cap : Nat) (hop now src dst : Int) (cs : List Int) (w : World) (h : Lnk w b base (.slice a 0 cap) hop [] cs)
    (hnow : 0 ≤ now ∧ now ≤ 100000) (hhop : 0 ≤ hop ∧ hop ≤ 1000) :
    Calls Try.prog 14 #[.pointer (some ⟨b, 0, none⟩), .int .i64 now, .int .i64 src, .int .i64 dst] w (Sent w b base (.slice a 0 cap) hop now src dst [] cs) := by
  have hb0 := h.blk.cell 0
  have hb1 := h.blk.cell 1
  simp only [linkCells] at hb0 hb1
  simp at hb0 hb1
  have H := Lib.hid h
  obtain ⟨hnow0, hnow1⟩ := hnow
  obtain ⟨hhop0, hhop1⟩ := hhop
  clear h
  go_enter Try.func14, Try.ntmps14
  go_wp2_with fail
  refine wp_loop_once ?_
  go_wp2
  go_ret
  exact ⟨_, rfl, World.ownsRow_lit w #[.int .i64 (now + hop)] 1 (Nat.le_refl _) (by decide) rfl, H.out.frm ((Frm.refl noB w).alloc _) (fun h => h) (fun _ _ _ _ h => h), (Frm.refl _ w).alloc _⟩

theorem send_any (b base : Nat) (v : Value) (hop now src dst : Int) (fs : List Flt) (cs : List Int) (w : World) (h : Lnk w b base v hop fs cs)
    (hnow : 0 ≤ now ∧ now ≤ 100000) (hhop : 0 ≤ hop ∧ hop ≤ 1000) (hcs : ∀ c ∈ cs, 0 ≤ c ∧ c ≤ 1000000) :
    Calls Try.prog 14 #[.pointer (some ⟨b, 0, none⟩), .int .i64 now, .int .i64 src, .int .i64 dst] w (Sent w b base v hop now src dst fs cs) := by
  rcases h.own.2 with ⟨hv, h0⟩ | ⟨g, cap, cur, hv, h1, h2, h3, h4, h5, h6⟩
  · have : fs = [] := List.eq_nil_of_length_eq_zero h0
    subst this; subst hv
    exact send_nil b base none 0 hop now src dst cs w h hnow hhop
  · subst hv
    by_cases hn : fs.length = 0
    · have hf : fs = [] := List.eq_nil_of_length_eq_zero hn
      subst hf
      exact send_nil b base (some ⟨g, 0, none⟩) cap hop now src dst cs w h hnow hhop
    · refine send_some b base g cap fs.length hop now src dst fs cs w h rfl (by omega) (fun e => h.apart (by rw [e]; rfl)) hnow hhop hcs
end Go.Proofs.Ytmohmjanglkggaa
