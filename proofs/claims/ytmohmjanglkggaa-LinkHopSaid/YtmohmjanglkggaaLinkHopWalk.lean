/- The walk of the statement LinkHop. -/
import Derived.Test.YtmohmjanglkggaaLinkLives
import Derived.Test.YtmohmjanglkggaaLinkMsg
import Derived.StillTailTactics
set_option linter.unusedVariables false
namespace Go.Proofs.Ytmohmjanglkggaa
open Go.RowKit

theorem resS_facts (st : St) (lo : Int) (h : lo ≤ st.tick) : (resS st).length ≤ 2 ∧ (∀ x, (resS st)[0]? = some x → lo ≤ x) ∧ ∀ x y, (resS st)[0]? = some x → (resS st)[1]? = some y → y = x + 1 := by
  unfold resS
  split
  · simp
  · split
    · simp; omega
    · simp; omega

set_option maxRecDepth 100000 in
set_option maxHeartbeats 2000000 in
theorem linkHop_walk (a0 : Option Addr) (len0 cap0 : Nat) (z0 : List Int) (a1 : Option Addr) (len1 cap1 : Nat) (z1 : List Int) (a2 : Int) (w : World) (w0 : IsRow .i64 w a0 len0 cap0 z0) (w1 : IsRow .i64 w a1 len1 cap1 z1) (w2 : (Lit.int .i64 a2).wf = true) :
    Calls Try.prog 4 #[.slice a0 len0 cap0, .slice a1 len1 cap1, .int .i64 a2] w fun e w' => e = .returned (.bool true) ∧ Below w.heap.size w w' := by
  have H0 := Lib.hid w0.ints
  have H1 := Lib.hid w1.ints
  have b2 := wf_i64 w2
  clear w0 w1 w2
  go_enter Try.func4, Try.ntmps4
  go_wp2_with fail
  refine (around_any a2 5 _ b2.1 b2.2 (by omega) (by omega)).mono ?_
  rintro e w' ⟨rfl, rfl⟩
  have hm0 := around_lt a2 5 (by omega)
  clear b2
  generalize around a2 5 = m0 at *
  go_wp2_with fail
  refine (faults_any a0 len0 cap0 w H0.out).mono ?_
  rintro e w1 ⟨fs, v, rfl, hlen, hok, hown, hf⟩
  have Hok := Lib.hid hok
  have Hown := Lib.hid hown
  have Hf := Lib.hid hf
  clear hok hown hf
  go_wp2_with fail
  refine (new_link _ _ _ v fs _ rfl (by omega) Hown.out Hok.out).mono ?_
  rintro e w2 ⟨b, u, rfl, hb, hl, hf⟩
  have HL := Lib.hid hl
  have Hf2 := Lib.hid (Hf.out.trans hf)
  have hbl := hl.blk.lt
  have hws := Hf.out.size
  clear hl hf
  go_wp2_with fail
  refine (messages_any a1 len1 cap1 w2 (H1.out.frm Hf2.out (fun _ _ h => h))).mono ?_
  rintro e w3 ⟨ms, mv, rfl, hmlen, hmok, hmown, hf⟩
  have HL3 := Lib.hid (HL.out.frm hf (fun h => h) (fun _ _ _ _ h => h))
  have Hf3 := Lib.hid (Hf2.out.trans hf)
  have Hmok := Lib.hid hmok
  have Hmown := Lib.hid hmown
  have hsz3 := hf.size
  clear hmok hmown hf HL Hf Hf2 Hown H0 H1
  obtain ⟨ma, mc, hmv, hmn, hmg⟩ := ownsRow_shape Hmown.out
  subst hmv
  obtain ⟨n, hn⟩ : ∃ n, n = ms.length := ⟨_, rfl⟩
  rw [← hn] at hmlen hmn hmg Hmown ⊢
  have Hn := Lib.hid hn
  have Hmg := Lib.hid hmg
  clear hn hmg
  have hbw : w.heap.size ≤ b := by omega
  go_wp2_with fail
  go_loopw [10] (fun i wr => ∃ (k : Nat) (cs : List Int), k ≤ n ∧ i = .int .i64 k ∧ Lnk wr b w1.heap.size u (1 + (m0 : Int)) fs cs ∧ (∀ c ∈ cs, 0 ≤ c ∧ c ≤ (k : Int)) ∧ Frm noB w wr ∧ Frm (oneB b) w3 wr) (fun i _ => n - (intOf i).toNat)
  case atStart => exact ⟨0, _, by omega, rfl, HL3.out, by simp, Hf3.out, Frm.refl _ _⟩
  case round =>
    obtain ⟨k, cs, hk, rfl, hl, hcs, hf, hf3⟩ := hrel
    have HLr := Lib.hid hl
    have Hcs := Lib.hid hcs
    have Hfr := Lib.hid hf
    have Hfr3 := Lib.hid hf3
    clear hl hcs hf hf3
    by_cases hlt : k < n
    · obtain ⟨m, hmk⟩ := get_of_lt (l := ms) (j := k) (by rw [← Hn.out]; exact hlt)
      have hokm := Hmok.out m (List.mem_of_getElem? hmk)
      obtain ⟨g, hga, hg1, hg2⟩ := Hmg.out (by omega)
      subst hga
      obtain ⟨e0, e1, e2⟩ := msgCells_get ms k m hmk
      have hgb : ¬ oneB b g := by simp only [oneB]; omega
      have c0 := cell_frm Hfr3.out hgb ((Hmown.out.cellAt (k * 3) (by omega)).trans e0)
      have c1 := cell_frm Hfr3.out hgb ((Hmown.out.cellAt (k * 3 + 1) (by omega)).trans e1)
      have c2 := cell_frm Hfr3.out hgb ((Hmown.out.cellAt (k * 3 + 2) (by omega)).trans e2)
      obtain ⟨q1, q2, q3, q4, q5, q6⟩ := hokm
      have hgw : g < wr.heap.size := Nat.lt_of_lt_of_le hg2 Hfr3.out.size
      clear hmk e0 e1 e2 hgb
      go_wp2
      go_still_tail 16, (by kernel_rfl)
      change wpList _ _ _ _ _ wr.drew
      have HLd : Hid (Lnk wr.drew b w1.heap.size u (1 + (m0 : Int)) fs cs) := Lib.hid (HLr.out.frm (Frm.drew (Frm.refl noB wr)) (fun h => h) (fun _ _ _ _ h => h))
      have Hfd : Hid (Frm noB w wr.drew) := Lib.hid Hfr.out.drew
      have Hfd3 : Hid (Frm (oneB b) w3 wr.drew) := Lib.hid Hfr3.out.drew
      have d0 : wr.drew.cell? ⟨g, k * 3, none⟩ = some (.int .i64 m.now) := c0
      have hgd : g < wr.drew.heap.size := hgw
      clear HLr Hfr Hfr3 c0 c1 c2 hgw
      generalize wr.drew = wd at *
      go_wp2_with fail
      refine (send_any b w1.heap.size u _ m.now m.src m.dst fs cs wd HLd.out ⟨q1, by omega⟩ ⟨by omega, by omega⟩ (fun c hc => by have := Hcs.out c hc; omega)).mono ?_
      rintro e w4 ⟨x, rfl, ho, hl, hf⟩
      have hbd := (goS_bd m.now m.src m.dst (1 + (m0 : Int)) fs cs (fun f hf => ⟨(Hok.out f hf).n1, (Hok.out f hf).n2⟩) fs.length).1
      have hbu := (goS_bd m.now m.src m.dst (1 + (m0 : Int)) fs cs (fun f hf => ⟨(Hok.out f hf).n1, (Hok.out f hf).n2⟩) fs.length).2
      have hlx : Lnk w4 b w1.heap.size u (1 + (m0 : Int)) fs (cntL m.now m.src m.dst fs cs fs.length) ∧ (∀ c ∈ cntL m.now m.src m.dst fs cs fs.length, 0 ≤ c ∧ c ≤ ((k + 1 : Nat) : Int)) ∧ Frm noB w w4 ∧ Frm (oneB b) w3 w4 :=
        ⟨hl, fun c hc => by have := cntL_bd m.now m.src m.dst fs cs fs.length (k : Int) (by omega) Hcs.out c hc; omega, Hfd.out.new hf (fun i hi h => by simp only [oneB] at h; omega), Hfd3.out.trans hf⟩
      have c0 := cell_frm hf (show ¬ oneB b g by simp only [oneB]; omega) d0
      clear hl hf d0
      generalize cntL m.now m.src m.dst fs cs fs.length = cs' at *
      generalize goS m.now m.src m.dst (1 + (m0 : Int)) fs cs fs.length = st at *
      obtain ⟨tk, lo, tw⟩ := st
      simp only at hbd hbu
      have hdq : ∀ q, Lnk (w4.drewN q) b w1.heap.size u (1 + (m0 : Int)) fs cs' ∧ (∀ c ∈ cs', 0 ≤ c ∧ c ≤ ((k + 1 : Nat) : Int)) ∧ Frm noB w (w4.drewN q) ∧ Frm (oneB b) w3 (w4.drewN q) := fun q =>
        ⟨hlx.1.frm (Frm.drewN (Frm.refl noB w4) q) (fun h => h) (fun _ _ _ _ h => h), hlx.2.1, hlx.2.2.1.drewN q, hlx.2.2.2.drewN q⟩
      have Hdq := Lib.hid hdq
      clear hdq hlx
      have hk40 : k < 40 := by omega
      clear HLd Hfd Hfd3
      cases lo
      · cases tw
        · have ho' : w4.ownsRow wd.heap.size 3 1 x 1 (i64s [tk]) := ho
          obtain ⟨xa, xc, hx, hx1, hx2⟩ := ownsRow_shape ho'
          subst hx
          obtain ⟨gx, hgx, _, _⟩ := hx2 (by omega)
          subst hgx
          have x0 := ho'.cellAt 0 (by omega)
          simp [i64s] at x0
          have tst : decide (tk < m.now + (1 + (m0 : Int))) = false := by rw [decide_eq_false_iff_not]; omega
          have s1 : IntKind.i64.wrap (m.now + (1 + (m0 : Int))) = m.now + (1 + (m0 : Int)) := IntWalk.i64_in _ (by omega)
          clear ho ho' hx2 hx1
          go_wp2_with fail
          go_quiet (fail)
          go_wp2
          go_roundw
          case rel => exact ⟨k + 1, _, by omega, by go_num, (Hdq.out _).1, (Hdq.out 0).2.1, (Hdq.out _).2.2.1, (Hdq.out _).2.2.2⟩
          case measure => simp [intOf]; omega
        · have ho' : w4.ownsRow wd.heap.size 3 1 x 2 (i64s [tk, tk + 1]) := ho
          obtain ⟨xa, xc, hx, hx1, hx2⟩ := ownsRow_shape ho'
          subst hx
          obtain ⟨gx, hgx, _, _⟩ := hx2 (by omega)
          subst hgx
          have x0 := ho'.cellAt 0 (by omega)
          have x1 := ho'.cellAt 1 (by omega)
          simp [i64s] at x0 x1
          have s2 : IntKind.i64.wrap (tk + 1) = tk + 1 := IntWalk.i64_in _ (by omega)
          have tst : decide (tk < m.now + (1 + (m0 : Int))) = false := by rw [decide_eq_false_iff_not]; omega
          have s1 : IntKind.i64.wrap (m.now + (1 + (m0 : Int))) = m.now + (1 + (m0 : Int)) := IntWalk.i64_in _ (by omega)
          clear ho ho' hx2 hx1
          go_wp2_with fail
          go_quiet (fail)
          go_wp2
          go_roundw
          case rel => exact ⟨k + 1, _, by omega, by go_num, (Hdq.out _).1, (Hdq.out 0).2.1, (Hdq.out _).2.2.1, (Hdq.out _).2.2.2⟩
          case measure => simp [intOf]; omega
      · have ho' : w4.ownsRow wd.heap.size 3 1 x 0 (i64s []) := ho
        obtain ⟨xa, xc, hx, hx1, hx2⟩ := ownsRow_shape ho'
        subst hx
        clear ho ho' hx2 hx1
        go_wp2_with fail
        go_quiet (fail)
        go_wp2
        go_roundw
        case rel => exact ⟨k + 1, _, by omega, by go_num, (Hdq.out _).1, (Hdq.out 0).2.1, (Hdq.out _).2.2.1, (Hdq.out _).2.2.2⟩
        case measure => simp [intOf]; omega
    · obtain rfl : k = n := by omega
      go_wp2_with fail
      refine (lives_any _).mono ?_
      rintro e w' ⟨rfl, hf⟩
      have Hf5 := Lib.hid (Hfr.out.trans hf)
      clear hf
      go_wp2
      go_ret
      exact ⟨rfl, Hf5.out.below (Nat.le_refl _) (fun _ _ h => h)⟩
end Go.Proofs.Ytmohmjanglkggaa
