/- The references' Send. -/
import Derived.Test.YtmohmjanglkggaaLinkSend
import Derived.StillTailTactics
import Derived.Deep.DeepCutAuto
set_option linter.unusedVariables false
namespace Go.Proofs.Ytmohmjanglkggaa
open Go.RowKit

/-- What the reference counts. -/
def refC (now src dst : Int) (fs : List Flt) (cs : List Int) (k : Nat) : List Int := (List.range k).map fun j => upd now src dst (fs.getD j flt0) (cs.getD j 0)
theorem refC_len (now src dst : Int) (fs : List Flt) (cs : List Int) (k : Nat) : (refC now src dst fs cs k).length = k := by unfold refC; simp
theorem refC_succ (now src dst : Int) (fs : List Flt) (cs : List Int) (k : Nat) : refC now src dst fs cs (k + 1) = refC now src dst fs cs k ++ [upd now src dst (fs.getD k flt0) (cs.getD k 0)] := by
  unfold refC; rw [List.range_succ]; simp

theorem info_i64 : (Try.prog.info? 3).map (fun i => (i.zero, i.size, i.bytes)) = some (some (.int .i64 0), 1, 8) := by kernel_rfl

/-- The shape of a row that holds something. -/
theorem ownsRow_shape' {w : World} {base : Nat} {e : TypeId} {size : Nat} {a : Option Addr} {n c m : Nat} {xs : List Value} (h : w.ownsRow base e size (.slice a n c) m xs) : 0 < m → ∃ g, a = some ⟨g, 0, none⟩ ∧ base ≤ g ∧ g < w.heap.size := by
  obtain ⟨a', c', hv, _, hg⟩ := ownsRow_shape h
  simp only [Value.slice.injEq] at hv
  obtain ⟨rfl, rfl, rfl⟩ := hv
  exact hg

def RefSent (w : World) (hop now src dst : Int) (fs : List Flt) (cs : List Int) (e : Ending) (w' : World) : Prop :=
  ∃ (r c : Value), e = .returned (.tuple #[r, c]) ∧ w'.ownsRow w.heap.size 3 1 r (resS (goS now src dst hop fs cs fs.length)).length (i64s (resS (goS now src dst hop fs cs fs.length))) ∧
    w'.ownsRow w.heap.size 3 1 c fs.length (i64s (refC now src dst fs cs fs.length)) ∧ Frm noB w w'

set_option maxRecDepth 100000 in
set_option maxHeartbeats 4000000 in
theorem ref_send_some (base g cap n : Nat) (basec : Nat) (ca : Option Addr) (cc : Nat) (hop now src dst : Int) (fs : List Flt) (cs : List Int) (w : World)
    (h : w.ownsRow base 41 6 (.slice (some ⟨g, 0, none⟩) n cap) n (fltCells fs)) (hok : ∀ f ∈ fs, Okf f) (hn : fs.length = n) (hn40 : n ≤ 40)
    (hc : w.ownsRow basec 3 1 (.slice ca cs.length cc) cs.length (i64s cs)) (hcl : cs.length ≤ 40)
    (hnow : 0 ≤ now ∧ now ≤ 100000) (hhop : 0 ≤ hop ∧ hop ≤ 1000) (hcs : ∀ c ∈ cs, 0 ≤ c ∧ c ≤ 1000000) :
    Calls Try.prog 12 #[.int .i64 hop, .slice (some ⟨g, 0, none⟩) n cap, .slice ca cs.length cc, .int .i64 now, .int .i64 src, .int .i64 dst] w (RefSent w hop now src dst fs cs) := by
  obtain ⟨i1, hj, hy0, hy1, hy2⟩ := info_parts info_i64
  have H := Lib.hid h
  have Hok := Lib.hid hok
  have Hn := Lib.hid hn
  have Hc := Lib.hid hc
  have Hcs := Lib.hid hcs
  obtain ⟨hnow0, hnow1⟩ := hnow
  obtain ⟨hhop0, hhop1⟩ := hhop
  obtain ⟨q, hq⟩ : ∃ q, q = cs.length := ⟨_, rfl⟩
  rw [← hq] at Hc hcl ⊢
  have Hq := Lib.hid hq
  clear h hok hn hc hcs hq
  go_enter Try.func12, Try.ntmps12
  go_wp2_with fail
  go_loopw [14, 15, 16, 17, 18] (fun nx lo tw t i wr => ∃ k : Nat, k ≤ n ∧ i = .int .i64 k ∧ t = .int .i64 (goS now src dst hop fs cs k).tick ∧ lo = .bool (goS now src dst hop fs cs k).lost ∧ tw = .bool (goS now src dst hop fs cs k).twice ∧
      wr.ownsRow w.heap.size 3 1 nx k (i64s (refC now src dst fs cs k)) ∧ Frm noB w wr) (fun _ _ _ _ i _ => n - (intOf i).toNat)
  case atStart => exact ⟨0, by omega, rfl, rfl, rfl, rfl, World.ownsRow_nil _ _ _ _, Frm.refl _ _⟩
  case round =>
    obtain ⟨k, hk, rfl, rfl, rfl, rfl, ho, hf⟩ := hrel
    have HO := Lib.hid ho
    have Hf := Lib.hid hf
    clear ho hf
    by_cases hlt : k < n
    · obtain ⟨f, hfk⟩ := get_of_lt (l := fs) (j := k) (by rw [Hn.out]; exact hlt)
      have hfd : fs.getD k flt0 = f := by simp [List.getD, hfk]
      have hokf := Hok.out f (List.mem_of_getElem? hfk)
      obtain ⟨e0, e1, e2, e3, e4, e5⟩ := fltCells_get fs k f hfk
      have hown := ownsRow_frm H.out Hf.out (fun _ _ h => h)
      have c0 := (hown.cellAt (k * 6) (by omega)).trans e0
      have c1 := (hown.cellAt (k * 6 + 1) (by omega)).trans e1
      have c2 := (hown.cellAt (k * 6 + 2) (by omega)).trans e2
      have c3 := (hown.cellAt (k * 6 + 3) (by omega)).trans e3
      have c4 := (hown.cellAt (k * 6 + 4) (by omega)).trans e4
      have c5 := (hown.cellAt (k * 6 + 5) (by omega)).trans e5
      have Hfd := Lib.hid hfd
      have Hokf := Lib.hid hokf
      have hgw : g < wr.heap.size := World.block_lt_of_cell? wr ⟨g, k * 6, none⟩ c0
      clear hfk hfd hokf e0 e1 e2 e3 e4 e5 hown
      -- the count so far: what is there, or nought
      have hcnt : 0 ≤ cs.getD k 0 ∧ cs.getD k 0 ≤ 1000000 := by
        by_cases hk : k < cs.length
        · have : cs.getD k 0 = cs[k] := by simp [List.getD, hk]
          rw [this]; exact Hcs.out _ (List.getElem_mem hk)
        · have : cs.getD k 0 = 0 := by simp [List.getD, List.getElem?_eq_none (Nat.le_of_not_lt hk)]
          rw [this]; omega
      obtain ⟨hcnt0, hcnt1⟩ := hcnt
      obtain ⟨c, hcc⟩ : ∃ c, cs.getD k 0 = c := ⟨_, rfl⟩
      rw [hcc] at hcnt0 hcnt1
      have Hcc := Lib.hid hcc
      clear hcc
      go_upto_if 32 with fail
      go_cut [19] (fun s wx => s = .int .i64 c ∧ wx = wr)
      case first =>
        by_cases hkq : k < q
        · obtain ⟨x, hx⟩ := get_of_lt (l := cs) (j := k) (by rw [← Hq.out]; exact hkq)
          have hxd : cs.getD k 0 = x := by simp [List.getD, hx]
          obtain ⟨gc, hgc, _, _⟩ := (ownsRow_shape' Hc.out) (by omega)
          subst hgc
          have hxc := ((ownsRow_frm Hc.out Hf.out (fun _ _ h => h)).cellAt k (by omega)).trans (i64s_get hx)
          have hxe : x = c := by rw [← hxd, Hcc.out]
          subst hxe
          clear hx hxd
          go_wp2_with fail
          go_meet
          exact ⟨rfl, rfl⟩
        · have hxd : cs.getD k 0 = 0 := by simp [List.getD, List.getElem?_eq_none (show cs.length ≤ k by rw [← Hq.out]; omega)]
          have hxe : c = 0 := by rw [← Hcc.out, hxd]
          subst hxe
          go_wp2_with fail
          go_meet
          exact ⟨rfl, rfl⟩
      case rest =>
        obtain ⟨rfl, rfl⟩ := hcut
        go_wp2_with fail
        refine (Sees_any f now src dst _).mono ?_
        rintro e w1 ⟨rfl, hf1⟩
        have HO1 := Lib.hid (ownsRow_frm HO.out hf1 (fun _ _ h => h))
        have Hf1 := Lib.hid (Hf.out.trans hf1)
        replace c0 := cell_frm hf1 (fun h => h) c0
        replace c1 := cell_frm hf1 (fun h => h) c1
        replace c2 := cell_frm hf1 (fun h => h) c2
        replace c3 := cell_frm hf1 (fun h => h) c3
        replace c4 := cell_frm hf1 (fun h => h) c4
        replace c5 := cell_frm hf1 (fun h => h) c5
        have hsz1 := Hf1.out.size
        clear hf1
        go_upto_if 44 with fail
        go_cut [15, 16, 17, 19] (fun lo tw t s wx => lo = .bool (goS now src dst hop fs cs (k + 1)).lost ∧ tw = .bool (goS now src dst hop fs cs (k + 1)).twice ∧ t = .int .i64 (goS now src dst hop fs cs (k + 1)).tick ∧ s = .int .i64 (upd now src dst f c) ∧ wx = w1)
        case first =>
          cases hs : seesB f now src dst
          · have hst := goS_not now src dst hop fs cs k f Hfd.out hs
            have hup : upd now src dst f c = c := by unfold upd; rw [hs]; rfl
            have Hst := Lib.hid hst
            have Hup := Lib.hid hup
            clear hst hup hs
            go_wp2_with fail
            go_meet
            exact ⟨by rw [Hst.out], by rw [Hst.out], by rw [Hst.out], by rw [Hup.out], rfl⟩
          · have hcc := Hcc.out
            have hst := goS_see now src dst hop fs cs k f c Hfd.out hcc hs
            have hbd := goS_bd now src dst hop fs cs (fun f hf => ⟨(Hok.out f hf).n1, (Hok.out f hf).n2⟩) k
            have hn20 := Hokf.out.n2
            have hn00 := Hokf.out.n1
            have hup : upd now src dst f c = c + 1 := by unfold upd; rw [hs]; rfl
            have Hup := Lib.hid hup
            have heach : f.kind = 1 ∨ f.kind = 3 → eachB f (c + 1) = ((c + 1) % f.n == 0) ∧ (f.n == 0) = false ∧ 0 < f.n := by
              intro h
              have h1 := Hokf.out.each h
              refine ⟨?_, by simp; omega, by omega⟩
              unfold eachB
              rw [decide_eq_true (show 0 < f.n by omega), Bool.true_and]
              rfl
            generalize hst0 : goS now src dst hop fs cs k = st at hbd hst ⊢
            clear hst0 hcc hs hup
            have Hst := Lib.hid hst
            clear hst
            obtain ⟨hbd0, hbd1⟩ := hbd
            obtain ⟨tk, lo, tw⟩ := st
            simp only at hbd0 hbd1
            dsimp only
            have hk40 : k < 40 := by omega
            by_cases k4 : f.kind = 4
            · clear heach
              generalize eachB f (c + 1) = ev at *
              have t4 : (f.kind == 4) = true := by simp; omega
              have t1 : (f.kind == 1) = false := by simp; omega
              have t2 : (f.kind == 2) = false := by simp; omega
              have t3 : (f.kind == 3) = false := by simp; omega
              have Hfin := Lib.hid (fin_4 f ev ⟨tk, lo, tw⟩ k4)
              clear k4
              go_wp2_with fail
              all_goals (go_meet; exact ⟨by rw [Hst.out, Hfin.out] <;> simp_all, by rw [Hst.out, Hfin.out] <;> simp_all, by rw [Hst.out, Hfin.out], by rw [Hup.out], rfl⟩)
            · by_cases k1 : f.kind = 1
              · obtain ⟨he1, he2, he3⟩ := heach (.inl k1)
                rw [he1] at Hst
                clear he1 heach
                have t4 : (f.kind == 4) = false := by simp; omega
                have t1 : (f.kind == 1) = true := by simp; omega
                have t2 : (f.kind == 2) = false := by simp; omega
                have t3 : (f.kind == 3) = false := by simp; omega
                have Hfin := Lib.hid (fin_1 f ((c + 1) % f.n == 0) ⟨tk, lo, tw⟩ k4 k1)
                clear k4 k1
                go_wp2_with fail
                all_goals (go_meet; exact ⟨by rw [Hst.out, Hfin.out] <;> simp_all, by rw [Hst.out, Hfin.out] <;> simp_all, by rw [Hst.out, Hfin.out], by rw [Hup.out], rfl⟩)
              · by_cases k2 : f.kind = 2
                · clear heach
                  generalize eachB f (c + 1) = ev at *
                  have t4 : (f.kind == 4) = false := by simp; omega
                  have t1 : (f.kind == 1) = false := by simp; omega
                  have t2 : (f.kind == 2) = true := by simp; omega
                  have t3 : (f.kind == 3) = false := by simp; omega
                  have Hfin := Lib.hid (fin_2 f ev ⟨tk, lo, tw⟩ k4 k1 k2)
                  clear k4 k1 k2
                  go_wp2_with fail
                  all_goals (go_meet; exact ⟨by rw [Hst.out, Hfin.out] <;> simp_all, by rw [Hst.out, Hfin.out] <;> simp_all, by rw [Hst.out, Hfin.out], by rw [Hup.out], rfl⟩)
                · by_cases k3 : f.kind = 3
                  · obtain ⟨he1, he2, he3⟩ := heach (.inr k3)
                    rw [he1] at Hst
                    clear he1 heach
                    have t4 : (f.kind == 4) = false := by simp; omega
                    have t1 : (f.kind == 1) = false := by simp; omega
                    have t2 : (f.kind == 2) = false := by simp; omega
                    have t3 : (f.kind == 3) = true := by simp; omega
                    have Hfin := Lib.hid (fin_3 f ((c + 1) % f.n == 0) ⟨tk, lo, tw⟩ k4 k1 k2 k3)
                    clear k4 k1 k2 k3
                    go_wp2_with fail
                    all_goals (go_meet; exact ⟨by rw [Hst.out, Hfin.out] <;> simp_all, by rw [Hst.out, Hfin.out] <;> simp_all, by rw [Hst.out, Hfin.out], by rw [Hup.out], rfl⟩)
                  · clear heach
                    generalize eachB f (c + 1) = ev at *
                    have t4 : (f.kind == 4) = false := by simp; omega
                    have t1 : (f.kind == 1) = false := by simp; omega
                    have t2 : (f.kind == 2) = false := by simp; omega
                    have t3 : (f.kind == 3) = false := by simp; omega
                    have Hfin := Lib.hid (fin_0 f ev ⟨tk, lo, tw⟩ k4 k1 k2 k3)
                    clear k4 k1 k2 k3
                    go_wp2_with fail
                    all_goals (go_meet; exact ⟨by rw [Hst.out, Hfin.out] <;> simp_all, by rw [Hst.out, Hfin.out] <;> simp_all, by rw [Hst.out, Hfin.out], by rw [Hup.out], rfl⟩)
        case rest =>
          obtain ⟨rfl, rfl, rfl, rfl, hwx⟩ := hcut
          have hwx := hwx.symm
          subst hwx
          have hrc : refC now src dst fs cs (k + 1) = refC now src dst fs cs k ++ [upd now src dst f c] := by rw [refC_succ, Hfd.out, Hcc.out]
          have Hrc := Lib.hid hrc
          clear hrc c0 c1 c2 c3 c4 c5
          generalize upd now src dst f c = c' at *
          generalize hst2 : goS now src dst hop fs cs (k + 1) = st2 at *
          have Hst2 := Lib.hid hst2
          clear hst2
          go_wp2_with (at_builtin; refine wpList_append_own _ rfl _ _ 22 rfl w.heap.size 3 i1 (.int .i64 0) 1 8 Try.underlying22 hj hy0 hy1 hy2 rfl (by decide) _ k _ rfl (HO1.out.alloc _) ⟨w1.heap.size, 0, none⟩ 1 1 [.int .i64 c'] rfl rfl ?d1 ?d2 ?d3 ?d4 ?d5 ?_)
          case d2 => simp [Value.oneCell']
          case d3 => simp only [maxLen]; omega
          case d4 => omega
          case d5 => first | omega | (simp; omega)
          intro v' w2 hown' hg _
          have Hown' := Lib.hid hown'
          have Hf2 := Lib.hid (Hf1.out.grownOwn hg HO1.out (Nat.le_refl _))
          clear hown' hg
          go_wp2
          go_roundw
          case rel => exact ⟨k + 1, by omega, by go_num, by rw [Hst2.out], by rw [Hst2.out], by rw [Hst2.out], by rw [Hrc.out, i64s_snoc]; exact Hown'.out, Hf2.out⟩
          case measure => simp [intOf]; omega
    · obtain rfl : k = n := by omega
      have hbd := goS_bd now src dst hop fs cs (fun f hf => ⟨(Hok.out f hf).n1, (Hok.out f hf).n2⟩) k
      have Hres := Lib.hid (show RefSent w hop now src dst fs cs = fun e w' => ∃ (r c : Value), e = .returned (.tuple #[r, c]) ∧ w'.ownsRow w.heap.size 3 1 r (resS (goS now src dst hop fs cs k)).length (i64s (resS (goS now src dst hop fs cs k))) ∧
        w'.ownsRow w.heap.size 3 1 c k (i64s (refC now src dst fs cs k)) ∧ Frm noB w w' from by unfold RefSent; rw [Hn.out])
      have hres : resS (goS now src dst hop fs cs k) = if (goS now src dst hop fs cs k).lost then [] else if (goS now src dst hop fs cs k).twice then [(goS now src dst hop fs cs k).tick, (goS now src dst hop fs cs k).tick + 1] else [(goS now src dst hop fs cs k).tick] := rfl
      rw [hres] at Hres
      clear hres
      have hwsz := Hf.out.size
      generalize goS now src dst hop fs cs k = st at hbd Hres ⊢
      obtain ⟨tk, lo, tw⟩ := st
      obtain ⟨hbd0, hbd1⟩ := hbd
      simp only at hbd0 hbd1 Hres
      dsimp only
      cases lo
      · cases tw
        · go_wp2
          go_ret2
          rw [Hres.out]
          exact ⟨_, _, rfl, World.ownsRow_lit wr #[.int .i64 tk] 1 hwsz (by decide) rfl, HO.out.alloc _, Hf.out.alloc _⟩
        · go_wp2
          go_ret2
          rw [Hres.out]
          exact ⟨_, _, rfl, World.ownsRow_lit wr #[.int .i64 tk, .int .i64 (tk + 1)] 2 hwsz (by decide) rfl, HO.out.alloc _, Hf.out.alloc _⟩
      · go_wp2
        go_ret2
        rw [Hres.out]
        exact ⟨_, _, rfl, World.ownsRow_nil wr _ _ _, HO.out, Hf.out⟩

set_option maxRecDepth 100000 in
set_option maxHeartbeats 1000000 in
theorem ref_send_nil (a ca : Option Addr) (cap q cc : Nat) (hop now src dst : Int) (cs : List Int) (w : World) (hnow : 0 ≤ now ∧ now ≤ 100000) (hhop : 0 ≤ hop ∧ hop ≤ 1000) :
    Calls Try.prog 12 #[.int .i64 hop, .slice a 0 cap, .slice ca q cc, .int .i64 now, .int .i64 src, .int .i64 dst] w (RefSent w hop now src dst [] cs) := by
  obtain ⟨hnow0, hnow1⟩ := hnow
  obtain ⟨hhop0, hhop1⟩ := hhop
  go_enter Try.func12, Try.ntmps12
  go_wp2_with fail
  refine wp_loop_once ?_
  go_wp2
  go_ret2
  exact ⟨_, _, rfl, World.ownsRow_lit w #[.int .i64 (now + hop)] 1 (Nat.le_refl _) (by decide) rfl, World.ownsRow_nil _ _ _ _, (Frm.refl _ w).alloc _⟩

theorem ref_send_any (base basec : Nat) (v cv : Value) (hop now src dst : Int) (fs : List Flt) (cs : List Int) (w : World)
    (h : w.ownsRow base 41 6 v fs.length (fltCells fs)) (hok : ∀ f ∈ fs, Okf f) (hn40 : fs.length ≤ 40)
    (hc : w.ownsRow basec 3 1 cv cs.length (i64s cs)) (hcl : cs.length ≤ 40)
    (hnow : 0 ≤ now ∧ now ≤ 100000) (hhop : 0 ≤ hop ∧ hop ≤ 1000) (hcs : ∀ c ∈ cs, 0 ≤ c ∧ c ≤ 1000000) :
    Calls Try.prog 12 #[.int .i64 hop, v, cv, .int .i64 now, .int .i64 src, .int .i64 dst] w (RefSent w hop now src dst fs cs) := by
  obtain ⟨ca, cc, rfl, _, _⟩ := ownsRow_shape hc
  obtain ⟨va, vc, rfl, _, hg⟩ := ownsRow_shape h
  by_cases hn : fs.length = 0
  · have hf : fs = [] := List.eq_nil_of_length_eq_zero hn
    subst hf
    exact ref_send_nil va ca vc _ cc hop now src dst cs w hnow hhop
  · obtain ⟨g, rfl, _, _⟩ := hg (by omega)
    exact ref_send_some base g vc fs.length basec ca cc hop now src dst fs cs w h hok rfl hn40 hc hcl hnow hhop hcs
end Go.Proofs.Ytmohmjanglkggaa
