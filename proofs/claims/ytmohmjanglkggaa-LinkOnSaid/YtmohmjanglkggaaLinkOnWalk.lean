/- The walk of the statement LinkOn. -/
import Derived.Test.YtmohmjanglkggaaLinkLives
import Derived.Test.YtmohmjanglkggaaLinkMsg
import Derived.Test.YtmohmjanglkggaaLinkOnRef
import Derived.Deep.RegionHeld3
import Derived.Deep.DeepCutAuto
import Derived.Outline
set_option linter.unusedVariables false
namespace Go.Proofs.Ytmohmjanglkggaa
open Go.RowKit

theorem info_i64' : (Try.prog.info? 3).map (fun i => (i.zero, i.size, i.bytes)) = some (some (.int .i64 0), 1, 8) := by kernel_rfl

set_option maxRecDepth 100000 in
set_option maxHeartbeats 2000000 in
theorem linkOn_walk (a0 : Option Addr) (len0 cap0 : Nat) (z0 : List Int) (a1 : Int) (a2 : Int) (a3 : Int) (w : World) (w0 : IsRow .i64 w a0 len0 cap0 z0) (w1 : (Lit.int .i64 a1).wf = true) (w2 : (Lit.int .i64 a2).wf = true) (w3 : (Lit.int .i64 a3).wf = true) :
    Calls Try.prog 7 #[.slice a0 len0 cap0, .int .i64 a1, .int .i64 a2, .int .i64 a3] w fun e w' => e = .returned (.bool true) ∧ Below w.heap.size w w' := by
  have H0 := Lib.hid w0.ints
  have b1 := wf_i64 w1
  have b2 := wf_i64 w2
  have b3 := wf_i64 w3
  clear w0 w1 w2 w3
  obtain ⟨i1, hj, hy0, hy1, hy2⟩ := info_parts info_i64'
  go_enter Try.func7, Try.ntmps7
  go_wp2_with fail
  refine (faults_any a0 len0 cap0 w H0.out).mono ?_
  rintro e w1 ⟨fs, v, rfl, hlen, hok, hown, hf⟩
  have Hok := Lib.hid hok
  have Hown := Lib.hid hown
  have Hf := Lib.hid hf
  have hws := hf.size
  clear hok hown hf
  go_wp2_with fail
  refine (new_link _ _ _ v fs _ rfl (by omega) Hown.out Hok.out).mono ?_
  rintro e w2 ⟨b, u, rfl, hb, hl, hf⟩
  have HL := Lib.hid hl
  have Hown2 := Lib.hid (ownsRow_frm Hown.out hf (fun _ _ h => h))
  have Hf2 := Lib.hid (Hf.out.trans hf)
  clear hl hf Hf Hown H0
  go_wp2_with fail
  refine (around_any a3 321 _ b3.1 b3.2 (by omega) (by omega)).mono ?_
  rintro e w' ⟨rfl, rfl⟩
  generalize around a3 321 = t at *
  go_wp2_with fail
  refine (around_any a1 12 _ b1.1 b1.2 (by omega) (by omega)).mono ?_
  rintro e w' ⟨rfl, rfl⟩
  generalize around a1 12 = kd at *
  go_wp2_with fail
  refine (some_any a2 _ b2.1 b2.2).mono ?_
  rintro e w' ⟨rfl, rfl⟩
  generalize someN a2 = sn at *
  obtain ⟨va, vc, hv, hvn, hvg⟩ := ownsRow_shape Hown2.out
  subst hv
  go_upto_if 34 with fail
  go_cut [12, 13] (fun s12 s13 wx => ∃ (kq : Int) (ns : List Int), s12 = .int .i64 kq ∧ wx.ownsRow w2.heap.size 3 1 s13 ns.length (i64s ns) ∧ ns.length ≤ 3 ∧ Frm noB w2 wx)
  case first =>
    have hlit := World.ownsRow_lit (base := w2.heap.size) (e := 3) (size := 1) w2 #[.int .i64 a2, .int .i64 sn] 2 (Nat.le_refl _) (by decide) rfl
    have Hlit := Lib.hid hlit
    clear hlit
    by_cases hpos : 0 < fs.length
    · obtain ⟨g, hga, hg1, hg2⟩ := hvg hpos
      subst hga
      go_wp2_with fail
      refine (around_any a2 (fs.length : Int) _ b2.1 b2.2 (by omega) (by omega)).mono ?_
      rintro e w' ⟨rfl, rfl⟩
      have hq := around_lt a2 (fs.length : Int) (by omega)
      generalize around a2 (fs.length : Int) = q at *
      obtain ⟨f, hfk⟩ := get_of_lt (l := fs) (j := q) (by omega)
      obtain ⟨e0, e1, e2, e3, e4, e5⟩ := fltCells_get fs q f hfk
      have hown := Hown2.out.alloc (.cells #[.int .i64 a2, .int .i64 sn] 3)
      have c0 := (hown.cellAt (q * 6) (by omega)).trans e0
      have c1 := (hown.cellAt (q * 6 + 1) (by omega)).trans e1
      have c2 := (hown.cellAt (q * 6 + 2) (by omega)).trans e2
      have c3 := (hown.cellAt (q * 6 + 3) (by omega)).trans e3
      have c4 := (hown.cellAt (q * 6 + 4) (by omega)).trans e4
      have c5 := (hown.cellAt (q * 6 + 5) (by omega)).trans e5
      clear hfk e0 e1 e2 e3 e4 e5 hown
      go_wp2_with (at_builtin; refine wpList_append_own _ rfl _ _ 22 rfl w2.heap.size 3 i1 (.int .i64 0) 1 8 Try.underlying22 hj hy0 hy1 hy2 rfl (by decide) _ 2 _ rfl ((Hlit.out.alloc _).alloc _) ⟨w2.heap.size + 1 + 1, 0, none⟩ 1 1 [.int .i64 f.a] rfl rfl ?d1 ?d2 ?d3 ?d4 ?d5 ?_)
      case d1 =>
        intro j u hu
        have h := one_new ((w2.alloc (.cells #[.int .i64 a2, .int .i64 sn] 3)).alloc (.cells #[.int .i64 f.kind, .int .i64 f.frm, .int .i64 f.til, .int .i64 f.a, .int .i64 f.b, .int .i64 f.n] 41)) (.int .i64 f.a) 3 j u hu
        rw [World.size_alloc, World.size_alloc] at h
        exact h
      case d2 => simp [Value.oneCell']
      case d3 => simp only [maxLen]; omega
      case d4 => omega
      case d5 => simp; omega
      intro v' w' ho hg _
      have Ho := Lib.hid ho
      have Hff : Hid (Frm noB w2 w') := Lib.hid ((((Frm.refl noB w2).alloc (.cells #[.int .i64 a2, .int .i64 sn] 3)).alloc (.cells #[.int .i64 f.kind, .int .i64 f.frm, .int .i64 f.til, .int .i64 f.a, .int .i64 f.b, .int .i64 f.n] 41)).grownOwn hg (Hlit.out.alloc _) (Nat.le_refl _))
      have bx : Blk w' (w2.heap.size + 1) #[.int .i64 f.kind, .int .i64 f.frm, .int .i64 f.til, .int .i64 f.a, .int .i64 f.b, .int .i64 f.n] 41 := by
        have h := (Blk.made (w2.alloc (.cells #[.int .i64 a2, .int .i64 sn] 3)) #[.int .i64 f.kind, .int .i64 f.frm, .int .i64 f.til, .int .i64 f.a, .int .i64 f.b, .int .i64 f.n] 41)
        rw [World.size_alloc] at h
        exact (h.alloc _).frm (Frm.ofGrown hg) (by simp [Value.ownBlock])
      have x0 : w'.cell? ⟨w2.heap.size + 1, 0, none⟩ = some (.int .i64 f.kind) := bx.cell 0
      clear ho hg bx
      go_wp2_with fail
      go_meet
      exact ⟨f.kind, [a2, sn, f.a], rfl, Ho.out, by simp, Hff.out⟩
    · go_wp2_with fail
      go_meet
      exact ⟨kd, [a2, sn], rfl, Hlit.out, by simp, (Frm.refl _ _).alloc _⟩
  case rest =>
    obtain ⟨kq, ns, rfl, ho, hns, hf⟩ := hcut
    have Ho := Lib.hid ho
    have Hf := Lib.hid hf
    clear ho hf
    obtain ⟨na, nc, hnv, hnn, hng⟩ := ownsRow_shape Ho.out
    subst hnv
    go_wp2_with fail
    go_loopw [15] (fun i wr => ∃ k : Nat, k ≤ ns.length ∧ i = .int .i64 k ∧ Frm noB w2 wr ∧ wr.ownsRow w2.heap.size 3 1 (.slice na ns.length nc) ns.length (i64s ns)) (fun i _ => ns.length - (intOf i).toNat)
    case atStart => exact ⟨0, by omega, rfl, Hf.out, Ho.out⟩
    case round =>
      obtain ⟨k, hk, rfl, hfr, hor⟩ := hrel
      have Hfr := Lib.hid hfr
      have Hor := Lib.hid hor
      clear hfr hor
      have hL := Lib.hid (HL.out.frm Hfr.out (fun h => h) (fun _ _ _ _ h => h))
      by_cases hlt : k < ns.length
      · obtain ⟨g, rfl, hg1, hg2⟩ := hng (by omega)
        obtain ⟨y, hyk⟩ := get_of_lt (l := ns) (j := k) hlt
        have c0 := (Hor.out.cellAt k (by omega)).trans (i64s_get hyk)
        have Hyk := Lib.hid hyk
        clear hyk
        go_wp2_with fail
        refine (on_any b w1.heap.size _ 1 kq y t fs _ _ hL.out).mono ?_
        rintro e w3 ⟨rfl, hf3⟩
        have Hf3 := Lib.hid (Hfr.out.trans hf3)
        have HL3 := Lib.hid (hL.out.frm hf3 (fun h => h) (fun _ _ _ _ h => h))
        have Ho3 := Lib.hid (ownsRow_frm Hor.out hf3 (fun _ _ h => h))
        have Hv3 := Lib.hid (ownsRow_frm Hown2.out Hf3.out (fun _ _ h => h))
        clear hf3
        generalize hoa : onAns kq y t fs = oa at *
        have Hoa := Lib.hid hoa
        clear hoa c0
        obtain ⟨⟨v0, v1, v2, v3, v4, v5⟩, is⟩ := oa
        rw [show fltV ((⟨v0, v1, v2, v3, v4, v5⟩ : Flt), is).1 = .agg #[.int .i64 v0, .int .i64 v1, .int .i64 v2, .int .i64 v3, .int .i64 v4, .int .i64 v5] from rfl]
        have c0 := (Ho3.out.cellAt k (by omega)).trans (i64s_get Hyk.out)
        have hg3 : g < w3.heap.size := World.block_lt_of_cell? w3 ⟨g, k, none⟩ c0
        go_wp2_with fail
        refine (ref_on_any w.heap.size _ kq y t fs _ (Hv3.out.alloc _) (by omega)).mono ?_
        rintro e w4 ⟨rfl, hf4⟩
        rw [Hoa.out]
        rw [show fltV ((⟨v0, v1, v2, v3, v4, v5⟩ : Flt), is).1 = .agg #[.int .i64 v0, .int .i64 v1, .int .i64 v2, .int .i64 v3, .int .i64 v4, .int .i64 v5] from rfl]
        have hB4 : Blk w4 w3.heap.size #[.int .i64 v0, .int .i64 v1, .int .i64 v2, .int .i64 v3, .int .i64 v4, .int .i64 v5] 41 := (Blk.made w3 _ _).frm hf4 (fun h => h)
        have hl4 := hB4.lt
        have x0 := hB4.cell 0
        have x1 := hB4.cell 1
        have x2 := hB4.cell 2
        have x3 := hB4.cell 3
        have x4 := hB4.cell 4
        have x5 := hB4.cell 5
        simp at x0 x1 x2 x3 x4 x5
        have Hf5 := Lib.hid ((Hf3.out.alloc _).trans hf4)
        have Ho5 := Lib.hid (ownsRow_frm (ownsRow_frm Ho3.out (Frm.alloc (Frm.refl noB w3) _) (fun _ _ h => h)) hf4 (fun _ _ h => h))
        clear hf4 hB4 c0
        go_wp2
        go_roundw
        case rel => exact ⟨k + 1, by omega, by go_num, Hf5.out.alloc _, Ho5.out.alloc _⟩
        case measure => simp [intOf]; omega
      · go_wp2_with fail
        refine (end_any b w1.heap.size _ 1 fs _ _ hL.out).mono ?_
        rintro e w5 ⟨rfl, hf⟩
        have Hf7 := Lib.hid (Hfr.out.trans hf)
        clear hf
        go_wp2_with fail
        refine (ref_end_any w.heap.size _ fs _ (ownsRow_frm Hown2.out Hf7.out (fun _ _ h => h)) (by omega)).mono ?_
        rintro e w' ⟨rfl, rfl⟩
        go_wp2_with fail
        refine (lives_any _).mono ?_
        rintro e w' ⟨rfl, hf⟩
        have Hf6 := Lib.hid ((Hf2.out.trans Hf7.out).trans hf)
        clear hf
        go_wp2
        go_ret
        exact ⟨rfl, Hf6.out.below (Nat.le_refl _) (fun _ _ h => h)⟩
end Go.Proofs.Ytmohmjanglkggaa
