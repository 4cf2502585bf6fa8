/- Tree of the reference. -/
import Derived.Test.YtpgcfeplcibhoaaDoorColRTreeP
import Derived.Test.YtpgcfeplcibhoaaDoorPutC
import Derived.Test.YtpgcfeplcibhoaaDoorColRSpans
import Derived.Test.YtpgcfeplcibhoaaDoorColRef
import Derived.Test.YtpgcfeplcibhoaaDoorColWithin
set_option linter.unusedVariables false
set_option linter.unusedSimpArgs false
namespace Go.Proofs.YtpgcfeplcibhoaaDoor
open Go.RowKit

theorem refT_all (L : List Spn) (r : Int) (n : Nat) (h : n = L.length) : putAll (putAll [] (cameR (L.take n) r)) (goneR (L.take n) r) = refT L r := by
  rw [List.take_of_length_le (by rw [h]; exact Nat.le_refl _)]; rfl
set_option maxRecDepth 100000 in
set_option maxHeartbeats 4000000 in
theorem rtree_any (base : Nat) (v : Value) (L : List Spn) (r : Int) (w : World) (h : Own spnE w base 30 v L) (hL : L.length ≤ 100) (hG : ∀ s ∈ L, GoodS s) :
    Calls Tryd.prog 15 #[v, .int .i64 r] w fun e w' => ∃ v', e = .returned v' ∧ Own nodE w' w.heap.size 37 v' (refT L r) ∧ Frm noB w w' := by
  obtain ⟨n, hn⟩ : ∃ n, n = L.length := ⟨_, rfl⟩
  obtain ⟨a, c, hv, _, hg⟩ := h.shape
  rw [← hn] at hv hg hL
  subst hv
  have Hn := Lib.hid hn
  have Hg := Lib.hid hg
  have Hh := Lib.hid h
  have HG := Lib.hid hG
  clear hn hg h hG
  go_enter Tryd.func15, Tryd.ntmps15
  go_wp2_with fail
  go_loopw [5, 6] (fun o i wr => ∃ k : Nat, k ≤ n ∧ i = .int .i64 k ∧ Own nodE wr w.heap.size 37 o (putAll [] (cameR (L.take k) r)) ∧ Frm noB w wr) (fun _ i _ => n - (intOf i).toNat)
  case atStart => exact ⟨0, by omega, rfl, Own.nil _ _ _ _, Frm.refl _ _⟩
  case round =>
    obtain ⟨k, hk, rfl, ho, hf⟩ := hrel
    by_cases hlt : k < n
    · obtain ⟨x, hx⟩ := get_of_lt (l := L) (j := k) (by rw [← Hn.out]; exact hlt)
      obtain ⟨g, rfl, hg1, hg2⟩ := Hg.out (by omega)
      obtain ⟨c0, c1, c2, c3, c4, c5⟩ := spn_cells (Hh.out.keep hf) hx
      have hgx := HG.out x (List.mem_of_getElem? hx)
      have hxs := goods_size hgx
      have hreq := fun W => rreq_any x.name W (by omega)
      have hsn := cameR_snoc hx r
      have hgw : g < wr.heap.size := Nat.lt_of_lt_of_le hg2 hf.size
      have hol : (putAll [] (cameR (L.take k) r)).length ≤ 100000 := by
        have h1 := putAll_len (cameR (L.take k) r) []
        have h2 := cameR_len (L.take k) r
        rw [List.length_take] at h2
        simp only [List.length_nil] at h1; omega
      obtain ⟨rx, hrx⟩ : ∃ q, q = rq30 x.name.data.toList := ⟨_, rfl⟩
      rw [← hrx] at hreq
      have hix : isR r x = (rx == r) := by rw [hrx]; rfl
      have hbs := hf.size
      obtain ⟨oa, oc, ov, _, _⟩ := ho.shape
      obtain ⟨N, hN⟩ : ∃ N, N = (putAll [] (cameR (L.take k) r)).length := ⟨_, rfl⟩
      rw [← hN] at ov
      subst ov
      by_cases hq : rx = r
      · have hrr : (rx == r) = true := by simpa using hq
        rw [hix, hrr, if_pos rfl] at hsn
        obtain ⟨x0, x1, x2, x3, x4, x5⟩ := x
        simp only at c0 c1 c2 c3 c4 c5 hreq hxs
        have hput := put_any wr.drew w.heap.size (.slice oa N oc) _ x0 false x0 x1 x2 x3 x4 x5 (ho.keep (Frm.refl noB wr).drew) hol (show w.heap.size ≤ wr.drew.heap.size from hf.size)
        have hpe : putAll [] (cameR (L.take k) r ++ [cameOne ⟨x0, x1, x2, x3, x4, x5⟩]) = putL (putAll [] (cameR (L.take k) r)) ⟨x0, false, ⟨x0, x1, x2, x3, x4, x5⟩⟩ := by rw [putAll_app]; rfl
        rw [← hsn] at hpe
        rw [← hpe] at hput
        have hfd := hf.drew
        have Ho := Lib.hid ho
        have Hf := Lib.hid hf
        have Hx := Lib.hid hx
        have Hgx := Lib.hid hgx
        have Hsn := Lib.hid hsn
        have Hol := Lib.hid hol
        have Hrx := Lib.hid hrx
        have Hix := Lib.hid hix
        have Hq := Lib.hid hq
        have Hbs := Lib.hid hbs
        have Hput := Lib.hid hput
        have Hpe := Lib.hid hpe
        have Hreq := Lib.hid hreq
        have Hxs := Lib.hid hxs
        have HN := Lib.hid hN
        have Hfd := Lib.hid hfd
        clear ho hf hx hgx hsn hol hrx hix hq hbs hput hpe hreq hxs hN hfd
        go_wp2_with (go_at_call 26; refine (Hreq.out _).mono ?_; rintro e w' ⟨rfl, rfl⟩)
        go_still_tail 11, (by kernel_rfl)
        change wpList _ _ _ _ _ wr.drew
        have d0 : wr.drew.cell? ⟨g, k * 6, none⟩ = some (.string x0) := c0
        have d1 : wr.drew.cell? ⟨g, k * 6 + 1, none⟩ = some (.int .i64 x1) := c1
        have d2 : wr.drew.cell? ⟨g, k * 6 + 2, none⟩ = some (.int .i64 x2) := c2
        have d3 : wr.drew.cell? ⟨g, k * 6 + 3, none⟩ = some (.int .i64 x3) := c3
        have d4 : wr.drew.cell? ⟨g, k * 6 + 4, none⟩ = some (.bool x4) := c4
        have d5 : wr.drew.cell? ⟨g, k * 6 + 5, none⟩ = some (.int .i64 x5) := c5
        have hgd : g < wr.drew.heap.size := hgw
        have hput := Hput.out
        have hfd := Hfd.out
        clear c0 c1 c2 c3 c4 c5 hgw Hput Hfd
        generalize wr.drew = wd at *
        have Hput := Lib.hid hput
        have Hfd := Lib.hid hfd
        clear hput hfd
        go_wp2_with (go_at_call 36; refine Hput.out.mono ?_; rintro e w2 ⟨v2, rfl, ho2, hf2⟩; have Ho2 := Lib.hid ho2; have Hf2 := Lib.hid (Hfd.out.trans hf2); clear ho2 hf2)
        go_roundw
        case rel => exact ⟨k + 1, by omega, by go_num, Ho2.out, Hf2.out⟩
        case measure => simp [intOf]; omega
      · have hrr : (rx == r) = false := by simpa using hq
        rw [hix, hrr, if_neg (by decide)] at hsn
        rw [← hsn] at ho
        have Ho := Lib.hid ho
        have Hf := Lib.hid hf
        have Hx := Lib.hid hx
        have Hgx := Lib.hid hgx
        have Hsn := Lib.hid hsn
        have Hol := Lib.hid hol
        have Hrx := Lib.hid hrx
        have Hix := Lib.hid hix
        have Hq := Lib.hid hq
        have Hbs := Lib.hid hbs
        have Hreq := Lib.hid hreq
        have Hxs := Lib.hid hxs
        have HN := Lib.hid hN
        clear ho hf hx hgx hsn hol hrx hix hq hbs hreq hxs hN
        go_wp2_with (go_at_call 26; refine (Hreq.out _).mono ?_; rintro e w' ⟨rfl, rfl⟩)
        go_roundw
        case rel => exact ⟨k + 1, by omega, by go_num, Ho.out, Hf.out⟩
        case measure => simp [intOf]; omega
    · obtain rfl : k = n := by omega
      rw [List.take_of_length_le (by rw [← Hn.out]; exact Nat.le_refl _)] at ho
      obtain ⟨wa, hwa⟩ : ∃ W : World, W = wr := ⟨_, rfl⟩
      subst hwa
      have ho0 : Own nodE wa w.heap.size 37 _ (putAll (putAll [] (cameR L r)) (goneR (L.take 0) r)) := ho
      have Ho := Lib.hid ho
      have Ho0 := Lib.hid ho0
      have Hf := Lib.hid hf
      clear ho ho0 hf
      go_wp2_with fail
      go_loopw [5, 7, 8] (fun o i u wr => ∃ (j : Nat), j ≤ k ∧ i = .int .i64 j ∧ Own nodE wr w.heap.size 37 o (putAll (putAll [] (cameR L r)) (goneR (L.take j) r)) ∧ Frm noB w wr) (fun _ i _ _ => k - (intOf i).toNat)
      case atStart => exact ⟨0, by omega, rfl, Ho0.out, Hf.out⟩
      case round =>
        obtain ⟨j, hj, rfl, ho, hf⟩ := hrel
        by_cases hlt : j < k
        · obtain ⟨x, hx⟩ := get_of_lt (l := L) (j := j) (by rw [← Hn.out]; exact hlt)
          obtain ⟨g, rfl, hg1, hg2⟩ := Hg.out (by omega)
          obtain ⟨c0, c1, c2, c3, c4, c5⟩ := spn_cells (Hh.out.keep hf) hx
          have hgx := HG.out x (List.mem_of_getElem? hx)
          have hxs := goods_size hgx
          have hreq := fun W => rreq_any x.name W (by omega)
          have hup := fun W => rup_any x.name W (by omega)
          have hsn := goneR_snoc hx r
          have hgw : g < wr.heap.size := Nat.lt_of_lt_of_le hg2 hf.size
          obtain ⟨P, hP⟩ : ∃ P, P = putAll (putAll [] (cameR L r)) (goneR (L.take j) r) := ⟨_, rfl⟩
          rw [← hP] at ho
          have hPl : P.length ≤ 3000 := by
            have h1 := putAll_len (goneR (L.take j) r) (putAll [] (cameR L r))
            have h2 := putAll_len (cameR L r) []
            have h3 := cameR_len L r
            have h4 := goneR_len (L.take j) r (fun s hs => HG.out s (List.mem_of_mem_take hs))
            rw [List.length_take] at h4
            rw [← hP] at h1
            have h5 : L.length ≤ 100 := by rw [← Hn.out]; exact hL
            have h6 := hgx
            simp only [List.length_nil] at h2
            have h7 : min j L.length * 16 ≤ 1600 := Nat.mul_le_mul (show min j L.length ≤ 100 by omega) (Nat.le_refl 16)
            omega
          obtain ⟨rx, hrx⟩ : ∃ q, q = rq30 x.name.data.toList := ⟨_, rfl⟩
          rw [← hrx] at hreq
          have hix : isR r x = (rx == r) := by rw [hrx]; rfl
          obtain ⟨u0, hu0⟩ : ∃ u, u = upL x.name.data.toList := ⟨_, rfl⟩
          rw [← hu0] at hup
          have hul : u0.length ≤ 16 := by
            have := upL_le x.name.data.toList
            rw [ba_len] at this
            rw [hu0]; omega
          have hbs := hf.size
          have hups : ups (nmB x) = upsFrom u0 := by rw [hu0]; exact ups_from _
          have hcell := fun W (hW : Frm noB w W) => (spn_cells (Hh.out.keep hW) hx).1
          have hgW := fun W (hW : Frm noB w W) => (show g < W.heap.size from Nat.lt_of_lt_of_le hg2 hW.size)
          clear c1 c2 c3 c4 c5
          by_cases hq : rx = r
          · have hrr : (rx == r) = true := by simpa using hq
            rw [hix, hrr, if_pos rfl, hups] at hsn
            have hT : putAll (putAll [] (cameR L r)) (goneR (L.take (j + 1)) r) = putAll P ((upsFrom u0).map goneB) := by rw [hsn, putAll_app, ← hP]
            obtain ⟨T, hTT⟩ : ∃ T, T = putAll P ((upsFrom u0).map goneB) := ⟨_, rfl⟩
            rw [← hTT] at hT
            have Ho := Lib.hid ho
            have Hf := Lib.hid hf
            have Hx := Lib.hid hx
            have Hgx := Lib.hid hgx
            have Hsn := Lib.hid hsn
            have Hrx := Lib.hid hrx
            have Hix := Lib.hid hix
            have Hq := Lib.hid hq
            have Hbs := Lib.hid hbs
            have Hreq := Lib.hid hreq
            have Hxs := Lib.hid hxs
            have Hup := Lib.hid hup
            have Hu0 := Lib.hid hu0
            have Hul := Lib.hid hul
            have Hups := Lib.hid hups
            have HP := Lib.hid hP
            have HPl := Lib.hid hPl
            have Hcell := Lib.hid hcell
            have HgW := Lib.hid hgW
            have HT := Lib.hid hT
            have HTT := Lib.hid hTT
            clear ho hf hx hgx hsn hrx hix hq hbs hreq hxs hup hu0 hul hups hP hPl hcell hgW hT hTT
            go_wp2_with (go_at_call 27; refine (Hup.out _).mono ?_; rintro e w' ⟨rfl, rfl⟩)
            clear c0 hgw
            go_loopw [5, 8] (fun o u W => ∃ (y : List UInt8) (Q : List Nod), u = .string (bs y) ∧ y.length ≤ 16 ∧ Own nodE W w.heap.size 37 o Q ∧ Q.length + y.length ≤ 4000 ∧ putAll Q ((upsFrom y).map goneB) = T ∧ Frm noB w W) (fun _ u _ => lenV u)
            case atStart => exact ⟨u0, P, rfl, Hul.out, Ho.out, by have := Hul.out; have := HPl.out; omega, HTT.out.symm, Hf.out⟩
            case round =>
              obtain ⟨y, Q, rfl, hy, ho2, hQ, hput, hf2⟩ := hrel
              by_cases hu : y = []
              · have he := bs_empty hu
                have hQT : Q = T := by rw [← hput, hu]; rfl
                rw [hQT] at ho2
                have Hu := Lib.hid hu
                have Hy := Lib.hid hy
                have Ho2 := Lib.hid ho2
                have HQ := Lib.hid hQ
                have Hput := Lib.hid hput
                have Hf2 := Lib.hid hf2
                have HQT := Lib.hid hQT
                clear hu hy ho2 hQ hput hf2 hQT
                go_wp2_with fail
                go_roundw
                case rel => exact ⟨j + 1, by omega, by go_num, by rw [HT.out]; exact Ho2.out, Hf2.out⟩
                case measure => simp [intOf]; omega
              · have he := bs_full hu
                have d0 := Hcell.out _ hf2
                have hgw := HgW.out _ hf2
                have hlt2 : (upL y).length < y.length := by
                  by_cases h0 : upL y = []
                  · rw [h0]
                    cases y with
                    | nil => exact absurd rfl hu
                    | cons => simp
                  · exact upL_len h0
                rw [upsFrom_cons hu, List.map_cons] at hput
                have hput2 : putAll (putL Q (goneB y)) ((upsFrom (upL y)).map goneB) = T := hput
                have hbs2 := hf2.size
                have hQl : Q.length ≤ 100000 := by omega
                have hQ3 := putL_len Q (goneB y)
                have hput3 := fun W (hW : wr = W) v (hO : Own nodE W w.heap.size 37 v Q) => put_any W w.heap.size v Q (bs y) true ⟨#[]⟩ 0 0 0 false 0 hO hQl (by rw [← hW]; exact hbs2)
                have hput4 := hput3 wr rfl _ ho2
                have hgb : (⟨bs y, true, ⟨⟨#[]⟩, 0, 0, 0, false, 0⟩⟩ : Nod) = goneB y := rfl
                rw [hgb] at hput4
                obtain ⟨oa2, oc2, ov2, _, _⟩ := ho2.shape
                obtain ⟨N2, hN2⟩ : ∃ N, N = Q.length := ⟨_, rfl⟩
                rw [← hN2] at ov2
                subst ov2
                have hup2 := fun W => rup_any (bs y) W (by rw [bs_size]; omega)
                rw [show (bs y).data.toList = y from rfl] at hup2
                clear hput3
                have Hu := Lib.hid hu
                have Hy := Lib.hid hy
                have Ho2 := Lib.hid ho2
                have HQ := Lib.hid hQ
                have Hput := Lib.hid hput
                have Hf2 := Lib.hid hf2
                have Hlt2 := Lib.hid hlt2
                have Hput2 := Lib.hid hput2
                have Hbs2 := Lib.hid hbs2
                have HQl := Lib.hid hQl
                have HQ3 := Lib.hid hQ3
                have Hput4 := Lib.hid hput4
                have Hgb := Lib.hid hgb
                have HN2 := Lib.hid hN2
                have Hup2 := Lib.hid hup2
                clear hu hy ho2 hQ hput hf2 hlt2 hput2 hbs2 hQl hQ3 hput4 hgb hN2 hup2
                go_wp2_with (first | (go_at_call 26; refine (Hreq.out _).mono ?_; rintro e w' ⟨rfl, rfl⟩) | (go_at_call 36; refine Hput4.out.mono ?_; rintro e w2 ⟨v2, rfl, ho3, hf3⟩; have Ho3 := Lib.hid ho3; have Hf3 := Lib.hid (Hf2.out.trans hf3); clear ho3 hf3) | (go_at_call 27; refine (Hup2.out _).mono ?_; rintro e w' ⟨rfl, rfl⟩))
                go_roundw
                case rel => exact ⟨upL y, putL Q (goneB y), rfl, by have := Hlt2.out; have := Hy.out; omega, Ho3.out, by have := HQ3.out; have := HQ.out; have := Hlt2.out; omega, Hput2.out, Hf3.out⟩
                case measure => rw [lenV_bs, lenV_bs]; exact Hlt2.out
          · have hrr : (rx == r) = false := by simpa using hq
            rw [hix, hrr, if_neg (by decide)] at hsn
            rw [hP, ← hsn] at ho
            by_cases hu : u0 = []
            · have he := bs_empty hu
              have Ho := Lib.hid ho
              have Hf := Lib.hid hf
              have Hx := Lib.hid hx
              have Hgx := Lib.hid hgx
              have Hsn := Lib.hid hsn
              have Hrx := Lib.hid hrx
              have Hix := Lib.hid hix
              have Hq := Lib.hid hq
              have Hbs := Lib.hid hbs
              have Hreq := Lib.hid hreq
              have Hxs := Lib.hid hxs
              have Hup := Lib.hid hup
              have Hu0 := Lib.hid hu0
              have Hul := Lib.hid hul
              have Hups := Lib.hid hups
              have HP := Lib.hid hP
              have HPl := Lib.hid hPl
              have Hcell := Lib.hid hcell
              have HgW := Lib.hid hgW
              have Hu := Lib.hid hu
              clear ho hf hx hgx hsn hrx hix hq hbs hreq hxs hup hu0 hul hups hP hPl hcell hgW hu
              go_wp2_with (go_at_call 27; refine (Hup.out _).mono ?_; rintro e w' ⟨rfl, rfl⟩)
              refine wp_loop_once ?_
              go_wp2_with fail
              go_roundw
              case rel => exact ⟨j + 1, by omega, by go_num, Ho.out, Hf.out⟩
              case measure => simp [intOf]; omega
            · have he := bs_full hu
              have Ho := Lib.hid ho
              have Hf := Lib.hid hf
              have Hx := Lib.hid hx
              have Hgx := Lib.hid hgx
              have Hsn := Lib.hid hsn
              have Hrx := Lib.hid hrx
              have Hix := Lib.hid hix
              have Hq := Lib.hid hq
              have Hbs := Lib.hid hbs
              have Hreq := Lib.hid hreq
              have Hxs := Lib.hid hxs
              have Hup := Lib.hid hup
              have Hu0 := Lib.hid hu0
              have Hul := Lib.hid hul
              have Hups := Lib.hid hups
              have HP := Lib.hid hP
              have HPl := Lib.hid hPl
              have Hcell := Lib.hid hcell
              have HgW := Lib.hid hgW
              have Hu := Lib.hid hu
              clear ho hf hx hgx hsn hrx hix hq hbs hreq hxs hup hu0 hul hups hP hPl hcell hgW hu
              go_wp2_with (go_at_call 27; refine (Hup.out _).mono ?_; rintro e w' ⟨rfl, rfl⟩)
              refine wp_loop_once ?_
              go_wp2_with (go_at_call 26; refine (Hreq.out _).mono ?_; rintro e w' ⟨rfl, rfl⟩)
              go_roundw
              case rel => exact ⟨j + 1, by omega, by go_num, Ho.out, Hf.out⟩
              case measure => simp [intOf]; omega
        · obtain rfl : j = k := by omega
          have hall := refT_all L r j Hn.out
          rw [List.take_of_length_le (by rw [← Hn.out]; exact Nat.le_refl _)] at ho hall
          have Ho := Lib.hid ho
          have Hf := Lib.hid hf
          have Hall := Lib.hid hall
          clear ho hf hall
          go_wp2_with fail
          go_ret
          exact ⟨_, rfl, by rw [← show putAll (putAll [] (cameR L r)) (goneR L r) = refT L r from rfl]; exact Ho.out, Hf.out⟩
end Go.Proofs.YtpgcfeplcibhoaaDoor
