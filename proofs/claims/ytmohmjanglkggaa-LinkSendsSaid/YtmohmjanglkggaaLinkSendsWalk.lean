/- The walk of the statement LinkSends. -/
import Derived.Test.YtmohmjanglkggaaLinkLives
import Derived.Test.YtmohmjanglkggaaLinkMsg
import Derived.Test.YtmohmjanglkggaaLinkRef
import Derived.Deep.RegionHeld3
import Derived.Deep.DeepCutAuto
set_option linter.unusedVariables false
namespace Go.Proofs.Ytmohmjanglkggaa
open Go.RowKit

theorem goS_congr (now src dst hop : Int) (fs : List Flt) (cs ds : List Int) (n : Nat) (h : ∀ j, j < n → cs.getD j 0 = ds.getD j 0) : ∀ k, k ≤ n → goS now src dst hop fs cs k = goS now src dst hop fs ds k := by
  intro k
  induction k with
  | zero => intro _; rfl
  | succ k ih =>
    intro hk
    show stepSt _ _ _ _ _ _ = stepSt _ _ _ _ _ _
    rw [ih (by omega), h k (by omega)]
theorem rep_get (n j : Nat) : (List.replicate n (0 : Int)).getD j 0 = 0 := by
  simp only [List.getD, List.getElem?_replicate]
  split <;> rfl
theorem zeros_get {n : Nat} : ∀ j, j < n → (List.replicate 40 (0 : Int)).getD j 0 = ([] : List Int).getD j 0 := fun j _ => rep_get 40 j
theorem refC_getD (now src dst : Int) (fs : List Flt) (cs : List Int) (n j : Nat) (hj : j < n) : (refC now src dst fs cs n).getD j 0 = upd now src dst (fs.getD j flt0) (cs.getD j 0) := by
  unfold refC
  simp [List.getD, hj]

theorem refC_bd (now src dst : Int) (fs : List Flt) (cs : List Int) (n : Nat) (K : Int) (hK : 0 ≤ K) (h : ∀ c ∈ cs, 0 ≤ c ∧ c ≤ K) : ∀ c ∈ refC now src dst fs cs n, 0 ≤ c ∧ c ≤ K + 1 := by
  intro c hc
  unfold refC at hc
  obtain ⟨j, _, rfl⟩ := List.mem_map.1 hc
  have hb : 0 ≤ cs.getD j 0 ∧ cs.getD j 0 ≤ K := by
    by_cases hk : j < cs.length
    · have : cs.getD j 0 = cs[j] := by simp [List.getD, hk]
      rw [this]; exact h _ (List.getElem_mem hk)
    · have : cs.getD j 0 = 0 := by simp [List.getD, List.getElem?_eq_none (Nat.le_of_not_lt hk)]
      rw [this]; omega
  unfold upd
  split <;> omega
theorem ownsRow_base {w : World} {base base' : Nat} {e : TypeId} {size : Nat} {v : Value} {n : Nat} {xs : List Value} (h : w.ownsRow base e size v n xs) (hb : base' ≤ base) : w.ownsRow base' e size v n xs := by
  refine ⟨h.1, ?_⟩
  rcases h.2 with h1 | ⟨g, cap, cur, h1, h2, h3⟩
  · exact .inl h1
  · exact .inr ⟨g, cap, cur, h1, Nat.le_trans hb h2, h3⟩

set_option maxRecDepth 100000 in
set_option maxHeartbeats 4000000 in
theorem linkSends_walk (a0 : Option Addr) (len0 cap0 : Nat) (z0 : List Int) (a1 : Option Addr) (len1 cap1 : Nat) (z1 : List Int) (a2 : Int) (w : World) (w0 : IsRow .i64 w a0 len0 cap0 z0) (w1 : IsRow .i64 w a1 len1 cap1 z1) (w2 : (Lit.int .i64 a2).wf = true) :
    Calls Try.prog 3 #[.slice a0 len0 cap0, .slice a1 len1 cap1, .int .i64 a2] w fun e w' => e = .returned (.bool true) ∧ Below w.heap.size w w' := by
  have H0 := Lib.hid w0.ints
  have H1 := Lib.hid w1.ints
  have b2 := wf_i64 w2
  clear w0 w1 w2
  go_enter Try.func3, Try.ntmps3
  go_wp2_with fail
  refine (faults_any a0 len0 cap0 w H0.out).mono ?_
  rintro e w1 ⟨fs, v, rfl, hlen, hok, hown, hf⟩
  have Hok := Lib.hid hok
  have Hown := Lib.hid hown
  have Hf := Lib.hid hf
  clear hok hown hf
  go_wp2_with fail
  refine (around_any a2 5 _ b2.1 b2.2 (by omega) (by omega)).mono ?_
  rintro e w' ⟨rfl, rfl⟩
  have hm0 := around_lt a2 5 (by omega)
  clear b2
  generalize around a2 5 = m0 at *
  go_wp2_with fail
  refine (new_link _ _ _ v fs _ rfl (by omega) Hown.out Hok.out).mono ?_
  rintro e w2 ⟨b, u, rfl, hb, hl, hf⟩
  have HL := Lib.hid hl
  have Hown2 := Lib.hid (ownsRow_frm Hown.out hf (fun _ _ h => h))
  have hvb : ∀ k, v.ownBlock = some k → k < w1.heap.size := fun k hk => (Hown.out.lt k hk).2
  have Hvb := Lib.hid hvb
  have Hf2 := Lib.hid (Hf.out.trans hf)
  have hbl := hl.blk.lt
  have hws := Hf.out.size
  clear hl hf hvb
  go_wp2_with fail
  refine (messages_any a1 len1 cap1 w2 (H1.out.frm Hf2.out (fun _ _ h => h))).mono ?_
  rintro e w3 ⟨ms, mv, rfl, hmlen, hmok, hmown, hf⟩
  have HL3 := Lib.hid (HL.out.frm hf (fun h => h) (fun _ _ _ _ h => h))
  have Hown3 := Lib.hid (ownsRow_frm Hown2.out hf (fun _ _ h => h))
  have Hf3 := Lib.hid (Hf2.out.trans hf)
  have Hmok := Lib.hid hmok
  have Hmown := Lib.hid hmown
  have hsz3 := hf.size
  clear hmok hmown hf HL Hf Hf2 Hown Hown2 H0 H1
  obtain ⟨ma, mc, hmv, hmn, hmg⟩ := ownsRow_shape Hmown.out
  subst hmv
  obtain ⟨n, hn⟩ : ∃ n, n = ms.length := ⟨_, rfl⟩
  rw [← hn] at hmlen hmn hmg Hmown ⊢
  have Hn := Lib.hid hn
  have Hmg := Lib.hid hmg
  clear hn hmg
  have hbw : w.heap.size ≤ b := by omega
  go_wp2_with fail
  go_loopw [10, 12] (fun cv i wr => ∃ (k : Nat) (cs rs : List Int), k ≤ n ∧ i = .int .i64 k ∧ Lnk wr b w1.heap.size u (1 + (m0 : Int)) fs cs ∧ wr.ownsRow w3.heap.size 3 1 cv rs.length (i64s rs) ∧ (rs = [] ∨ rs.length = fs.length) ∧ (∀ j, j < fs.length → cs.getD j 0 = rs.getD j 0) ∧
      (∀ c ∈ cs, 0 ≤ c ∧ c ≤ (k : Int)) ∧ (∀ c ∈ rs, 0 ≤ c ∧ c ≤ (k : Int)) ∧ Frm noB w wr ∧ Frm (oneB b) w3 wr) (fun _ i _ => n - (intOf i).toNat)
  case atStart => exact ⟨0, _, [], by omega, rfl, HL3.out, World.ownsRow_nil _ _ _ _, .inl rfl, zeros_get, by simp, by simp, Hf3.out, Frm.refl _ _⟩
  case round =>
    obtain ⟨k, cs, rs, hk, rfl, hl, hrs, hrl, heq, hcs, hrb, hf, hf3⟩ := hrel
    have HLr := Lib.hid hl
    have Hrs := Lib.hid hrs
    have Heq := Lib.hid heq
    have Hrl := Lib.hid hrl
    have Hcs := Lib.hid hcs
    have Hrb := Lib.hid hrb
    have Hfr := Lib.hid hf
    have Hfr3 := Lib.hid hf3
    clear hl hcs hf hf3 hrs heq hrl hrb
    by_cases hlt : k < n
    · obtain ⟨m, hmk⟩ := get_of_lt (l := ms) (j := k) (by rw [← Hn.out]; exact hlt)
      have hokm := Hmok.out m (List.mem_of_getElem? hmk)
      obtain ⟨g, hga, hg1, hg2⟩ := Hmg.out (by omega)
      subst hga
      obtain ⟨e0, e1, e2⟩ := msgCells_get ms k m hmk
      have hgb : ¬ oneB b g := by simp only [oneB]; omega
      have c0 := cell_frm Hfr3.out hgb ((Hmown.out.cellAt (k * 3) (by omega)).trans e0)
      have c1 := cell_frm Hfr3.out hgb ((Hmown.out.cellAt (k * 3 + 1) (by omega)).trans e1)
      have c2 := cell_frm Hfr3.out hgb ((Hmown.out.cellAt (k * 3 + 2) (by omega)).trans e2)
      obtain ⟨q1, q2, q3, q4, q5, q6⟩ := hokm
      have hgw : g < wr.heap.size := Nat.lt_of_lt_of_le hg2 Hfr3.out.size
      clear hmk e0 e1 e2
      have HvR := Lib.hid (ownsRow_at Hown3.out (w' := wr) (fun j hj => Hfr3.out.block j (by have := Hvb.out j hj; omega) (by simp only [oneB]; have := Hvb.out j hj; omega)))
      have hrl40 : rs.length ≤ 40 := by have h0 := Hrl.out; rcases h0 with h | h <;> simp [h] <;> omega
      have Hbr : Hid (∀ c ∈ rs, 0 ≤ c ∧ c ≤ 1000000) := Lib.hid (fun c hc => by have := Hrb.out c hc; omega)
      go_upto_region 9 with fail
      go_cut [13, 14] (fun s13 s14 wx => wx.ownsRow wr.heap.size 3 1 s13 (resS (goS m.now m.src m.dst (1 + (m0 : Int)) fs rs fs.length)).length (i64s (resS (goS m.now m.src m.dst (1 + (m0 : Int)) fs rs fs.length))) ∧
        wx.ownsRow wr.heap.size 3 1 s14 fs.length (i64s (refC m.now m.src m.dst fs rs fs.length)) ∧ Frm noB wr wx)
      case first =>
        go_region_held3 (fun w' => w'.cell? ⟨g, k * 3, none⟩ = some (.int .i64 m.now) ∧ w'.cell? ⟨g, k * 3 + 1, none⟩ = some (.int .i64 m.src) ∧ w'.cell? ⟨g, k * 3 + 2, none⟩ = some (.int .i64 m.dst))
          (first | exact ⟨c0, c1, c2⟩ | exact ⟨cell_frm (by assumption) (fun h => h) c0, cell_frm (by assumption) (fun h => h) c1, cell_frm (by assumption) (fun h => h) c2⟩)
          (first | (go_at_call 12; refine (ref_send_any w.heap.size w3.heap.size v _ _ m.now m.src m.dst fs rs wr.drew HvR.out Hok.out (by omega) Hrs.out hrl40 ⟨q1, by omega⟩ ⟨by omega, by omega⟩ Hbr.out).mono ?_; rintro e wz ⟨r, c, rfl, ho1, ho2, hfz⟩; have hfz2 : Frm noB wr wz := ⟨hfz.os, hfz.tape, hfz.output, hfz.size, hfz.block⟩))
        go_wp2_with fail
        go_meet
        exact ⟨ho1, ho2, hfz2⟩
      case rest =>
        obtain ⟨ho1, ho2, hfx⟩ := hcut
        have HW1 := Lib.hid ho1
        have HW2 := Lib.hid ho2
        have HLx := Lib.hid (HLr.out.frm hfx (fun h => h) (fun _ _ _ _ h => h))
        have Hfx := Lib.hid (Hfr.out.trans hfx)
        have Hfx3 := Lib.hid (Hfr3.out.trans (hfx.mono (fun _ _ h => h.elim)))
        have d0 := cell_frm hfx (fun h => h) c0
        have d1 := cell_frm hfx (fun h => h) c1
        have d2 := cell_frm hfx (fun h => h) c2
        have hbr : b < wr.heap.size := HLr.out.blk.lt
        have hszx := hfx.size
        clear ho1 ho2 hfx c0 c1 c2
        have Hcsb : Hid (∀ c ∈ cs, 0 ≤ c ∧ c ≤ 1000000) := Lib.hid (fun c hc => by have := Hcs.out c hc; omega)
        have hsame : goS m.now m.src m.dst (1 + (m0 : Int)) fs rs fs.length = goS m.now m.src m.dst (1 + (m0 : Int)) fs cs fs.length := (goS_congr _ _ _ _ fs cs rs fs.length Heq.out fs.length (Nat.le_refl _)).symm
        rw [hsame] at HW1
        clear hsame
        go_upto_region 11 with fail
        go_cut [73] (fun s wx => s = .bool false ∧ Lnk wx b w1.heap.size u (1 + (m0 : Int)) fs (cntL m.now m.src m.dst fs cs fs.length) ∧ Frm (oneB b) wc wx)
        case first =>
          go_region_held3 (fun w' => w'.cell? ⟨g, k * 3, none⟩ = some (.int .i64 m.now) ∧ w'.cell? ⟨g, k * 3 + 1, none⟩ = some (.int .i64 m.src) ∧ w'.cell? ⟨g, k * 3 + 2, none⟩ = some (.int .i64 m.dst))
            (first | exact ⟨d0, d1, d2⟩ | exact ⟨x0, x1, x2⟩ | exact ⟨y0, y1, y2⟩)
            (first
              | (go_at_call 14; refine (send_any b w1.heap.size u _ m.now m.src m.dst fs cs wc.drew (HLx.out.frm (Frm.drew (Frm.refl noB wc)) (fun h => h) (fun _ _ _ _ h => h)) ⟨q1, by omega⟩ ⟨by omega, by omega⟩ Hcsb.out).mono ?_; rintro e wz ⟨x, rfl, hox, hlx, hfz⟩; have hfz2 : Frm (oneB b) wc wz := ⟨hfz.os, hfz.tape, hfz.output, hfz.size, hfz.block⟩; have x0 := cell_frm hfz2 hgb d0; have x1 := cell_frm hfz2 hgb d1; have x2 := cell_frm hfz2 hgb d2; have hwant := ownsRow_frm HW1.out hfz2 (by simp only [oneB]; intro b hb; omega))
              | (go_at_call 13; refine (sameInts_own hox hwant).mono ?_; rintro e wy ⟨rfl, hfy⟩; have y0 := cell_frm hfy (fun h => h) x0; have y1 := cell_frm hfy (fun h => h) x1; have y2 := cell_frm hfy (fun h => h) x2))
          go_wp2_with fail
          go_meet
          exact ⟨by simp [sameL], hlx.frm hfy (fun h => h) (fun _ _ _ _ h => h), hfz2.trans (hfy.mono (fun _ _ h => h.elim))⟩
        case rest =>
          obtain ⟨rfl, hlz, hfz⟩ := hcut
          have HLz := Lib.hid hlz
          have Hfz := Lib.hid (Hfx.out.new hfz (fun i hi h => by simp only [oneB] at h; omega))
          have Hfz3 := Lib.hid (Hfx3.out.trans hfz)
          have HRz := Lib.hid (ownsRow_frm (ownsRow_base HW2.out (show w3.heap.size ≤ wr.heap.size from Hfr3.out.size)) hfz (by simp only [oneB]; intro b hb; omega))
          have Hgd : Hid (∀ j, j < fs.length → (cntL m.now m.src m.dst fs cs fs.length).getD j 0 = (refC m.now m.src m.dst fs rs fs.length).getD j 0) := Lib.hid (fun j hj => by
            rw [refC_getD _ _ _ _ _ _ _ hj, cntL_get _ _ _ _ _ _ _ (by have h1 := HLx.out.len; have h2 := HLx.out.few; omega), if_pos hj, Heq.out j hj])
          have Hcb : Hid (∀ c ∈ cntL m.now m.src m.dst fs cs fs.length, 0 ≤ c ∧ c ≤ ((k + 1 : Nat) : Int)) := Lib.hid (fun c hc => by have := cntL_bd m.now m.src m.dst fs cs fs.length (k : Int) (by omega) Hcs.out c hc; omega)
          have Hrcb : Hid (∀ c ∈ refC m.now m.src m.dst fs rs fs.length, 0 ≤ c ∧ c ≤ ((k + 1 : Nat) : Int)) := Lib.hid (fun c hc => by
            have := refC_bd m.now m.src m.dst fs rs fs.length (k : Int) (by omega) Hrb.out c hc; omega)
          clear hlz hfz d0 d1 d2
          go_wp2
          go_roundw
          case rel => exact ⟨k + 1, _, refC m.now m.src m.dst fs rs fs.length, by omega, by go_num, HLz.out, by rw [refC_len]; exact HRz.out, .inr (refC_len _ _ _ _ _ _), Hgd.out, Hcb.out, Hrcb.out, Hfz.out, Hfz3.out⟩
          case measure => simp [intOf]; omega
    · obtain rfl : k = n := by omega
      go_wp2_with fail
      refine (lives_any _).mono ?_
      rintro e w' ⟨rfl, hf⟩
      have Hf5 := Lib.hid (Hfr.out.trans hf)
      clear hf
      go_wp2
      go_ret
      exact ⟨rfl, Hf5.out.below (Nat.le_refl _) (fun _ _ h => h)⟩
end Go.Proofs.Ytmohmjanglkggaa
