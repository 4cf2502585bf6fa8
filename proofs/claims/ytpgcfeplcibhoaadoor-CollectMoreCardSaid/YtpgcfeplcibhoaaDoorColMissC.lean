/- missing of the collector, walked. -/
import Derived.Test.YtpgcfeplcibhoaaDoorColMiss
import Derived.Test.YtpgcfeplcibhoaaDoorColTake
set_option linter.unusedVariables false
set_option linter.unusedSimpArgs false
namespace Go.Proofs.YtpgcfeplcibhoaaDoor
open Go.RowKit Go.Shelf
attribute [local go_sem] Oper.semAt_some

theorem ups_count : ∀ (k : Nat) (l : List UInt8), l.length ≤ k → (ups l).length ≤ l.length
  | 0, l, h => by
    have : upL l = [] := by
      by_cases h0 : upL l = []
      · exact h0
      · have := upL_len h0; omega
    rw [ups_nil this]; simp
  | k + 1, l, h => by
    by_cases h0 : upL l = []
    · rw [ups_nil h0]; simp
    · have h1 := upL_len h0
      have := ups_count k (upL l) (by omega)
      rw [ups_cons h0, List.length_cons]; omega
theorem seenL_take {nms : List ByteArray} {S : List (List UInt8)} : ∀ (j : Nat) (nm : ByteArray), nms[j]? = some nm → seenL S (nms.take (j + 1)) = addUps (seenL S (nms.take j)) (ups nm.data.toList) := by
  induction nms generalizing S with
  | nil => intro j nm h; simp at h
  | cons a r ih =>
    intro j nm h
    cases j with
    | zero => simp at h; subst h; rfl
    | succ j =>
      simp at h
      show seenL (addUps S (ups a.data.toList)) (r.take (j + 1)) = _
      rw [ih j nm h]; rfl
def intOfV : Value → Int
  | .int _ x => x
  | _ => 0
theorem namesL_in {L : List Spn} {r : Int} {x : ByteArray} (h : x ∈ namesL L r) : ∃ s ∈ L, s.name = x := by
  unfold namesL at h
  rw [List.mem_map] at h
  obtain ⟨s, hs, rfl⟩ := h
  exact ⟨s, (List.mem_filter.1 hs).1, rfl⟩
set_option maxRecDepth 100000 in
set_option maxHeartbeats 4000000 in
theorem missing_map (b m1 m2 k : Nat) (L : List Spn) (rows : Int → Value) (O : Nat → Prop) (r : Int) (w : World) (h : ColM w b m1 m2 L rows k O) (hr : (Lit.int .i64 r).wf = true) (hnm : ∀ s ∈ L, s.name.size ≤ 1000) (hL : L.length ≤ 500) :
    CallsIn Fence.wide 5 Tryd.prog 32 #[.pointer (some ⟨b, 0, none⟩), .int .i64 r] w fun e w' => ∃ v base, e = .returned v ∧ w.heap.size ≤ base ∧ Own strE w' base 9 v (misS L (seenL [] (namesL L r))) ∧ Frm noB w w' := by
  have hmm := @run_makeMap Tryd.prog
  obtain ⟨ra, rc, hrv, hrd⟩ := (h.row r).rd
  have hlk := fun W (hW : Frm noB w W) => (h.keep hW).lookN r hr
  rw [hrv] at hlk
  have hBc := fun W (hW : Frm noB w W) => (h.blk.frm hW (fun h => h))
  have hlen : (namesL L r).length ≤ 500 := Nat.le_trans (by unfold namesL; rw [List.length_map]; exact List.length_filter_le _ _) hL
  have hnn : ∀ x ∈ namesL L r, x.size ≤ 1000 := fun x hx => by
    obtain ⟨s, hs, rfl⟩ := namesL_in hx
    exact hnm s hs
  obtain ⟨nms, hnms⟩ : ∃ l, l = namesL L r := ⟨_, rfl⟩
  rw [← hnms] at hlk hrd hlen hnn ⊢
  clear hrv hnms
  obtain ⟨N, hN⟩ : ∃ N, N = nms.length := ⟨_, rfl⟩
  rw [← hN] at hlk hrd hlen
  refine callsIn_of_wp_marks Tryd.func32 rfl trivial ?_ rfl
  simp only [Tryd.ntmps32, List.size_toArray, List.length_cons, List.length_nil, Nat.reduceAdd, Nat.reduceSub, Array.replicate_succ, Array.replicate_zero, List.push_toArray, List.append_toArray, List.nil_append, List.cons_append]
  have hf0 : Frm noB w ((((w.alloc (.cells #[.pointer (some ⟨b, 0, none⟩)] 23)).alloc (.cells #[.slice none 0 0] 61)).alloc (.map #[] 0)).alloc (.cells #[.map (some (w.heap.size + 1 + 1))] 81)) := ((((Frm.refl noB w).alloc _).alloc _).alloc _).alloc _
  have hm0 : MSt w ((((w.alloc (.cells #[.pointer (some ⟨b, 0, none⟩)] 23)).alloc (.cells #[.slice none 0 0] 61)).alloc (.map #[] 0)).alloc (.cells #[.map (some (w.heap.size + 1 + 1))] 81)) b L w.heap.size (w.heap.size + 1) (w.heap.size + 1 + 1) (w.heap.size + 1 + 1 + 1) (w.heap.size + 4) [] (.slice none 0 0) 0 [] := by
    have a1 := (((Blk.made w #[.pointer (some ⟨b, 0, none⟩)] 23).alloc (.cells #[.slice none 0 0] 61)).alloc (.map #[] 0)).alloc (.cells #[.map (some (w.heap.size + 1 + 1))] 81)
    have a2 := ((Blk.made (w.alloc (.cells #[.pointer (some ⟨b, 0, none⟩)] 23)) #[.slice none 0 0] 61).alloc (.map #[] 0)).alloc (.cells #[.map (some (w.heap.size + 1 + 1))] 81)
    have a3 := (VMap.made ((w.alloc (.cells #[.pointer (some ⟨b, 0, none⟩)] 23)).alloc (.cells #[.slice none 0 0] 61)) Tryd.prog 9).frm ((Frm.refl noB _).alloc (.cells #[.map (some (w.heap.size + 1 + 1))] 81)) (fun h => h)
    have a4 := Blk.made (((w.alloc (.cells #[.pointer (some ⟨b, 0, none⟩)] 23)).alloc (.cells #[.slice none 0 0] 61)).alloc (.map #[] 0)) #[.map (some (w.heap.size + 1 + 1))] 81
    simp only [World.size_alloc] at a2 a3 a4
    exact ⟨hf0, a1, a2, a4, ⟨0, a3.congr (fun l _ => by unfold seenF; split <;> simp)⟩, Own.nil _ _ _ _, fun D hD => by simp at hD, by simp⟩
  obtain ⟨W1, hW1⟩ : ∃ Y, Y = ((((w.alloc (.cells #[.pointer (some ⟨b, 0, none⟩)] 23)).alloc (.cells #[.slice none 0 0] 61)).alloc (.map #[] 0)).alloc (.cells #[.map (some (w.heap.size + 1 + 1))] 81)) := ⟨_, rfl⟩
  rw [← hW1] at hf0 hm0
  have hl1 := hlk _ hf0
  have hb1 := hBc _ hf0
  have hc0 := hb1.cell 0
  have hc1 := hb1.cell 1
  simp at hc0 hc1
  subst hW1
  have Hh := Lib.hid h
  have Hr := Lib.hid hr
  have Hnm := Lib.hid hnm
  have HL := Lib.hid hL
  have Hrd := Lib.hid hrd
  have Hlen := Lib.hid hlen
  have Hnn := Lib.hid hnn
  have HN := Lib.hid hN
  have Hlk := Lib.hid hlk
  have HBc := Lib.hid hBc
  have Hb1 := Lib.hid hb1
  have Hm0 := Lib.hid hm0
  have Hf0 := Lib.hid hf0
  clear h hr hnm hL hrd hlen hnn hN hlk hBc hb1 hm0 hf0
  gi_wp2
  refine wpIn_loop (fun a' W => ∃ (u8 u21 u22 u23 u24 u25 u47 : Value) (j : Nat) (v : Value) (Ds : List Nat), j ≤ N ∧ Ds.Nodup ∧ (seenL [] (nms.take j)).length ≤ 1000 * j ∧
      MSt w W b L w.heap.size (w.heap.size + 1) (w.heap.size + 1 + 1) (w.heap.size + 1 + 1 + 1) (w.heap.size + 4) (seenL [] (nms.take j)) v (seenL [] (nms.take j)).length Ds ∧
      a' = { tmps := #[.pointer (some ⟨b, 0, none⟩), .int .i64 r, .pointer (some ⟨w.heap.size, 0, none⟩), undef, .slice none 0 0, .pointer (some ⟨w.heap.size + 1, 0, none⟩), .pointer (some ⟨w.heap.size + 1 + 1 + 1, 0, none⟩), undef, u8, undef, undef, undef, .map (some (w.heap.size + 1 + 1)), .pointer (some ⟨b, 0, none⟩), .pointer (some ⟨b, 0, none⟩), .pointer (some ⟨b, 1, none⟩), .map (some m2), .int .i64 r, .slice ra N rc, .int .i64 N, .int .i64 j, u21, u22, u23, u24, u25, undef, undef, undef, undef, undef, undef, undef, undef, undef, undef, undef, undef, undef, undef, undef, undef, undef, undef, undef, undef, undef, u47, undef], defers := Ds.map fun D => { target := .collected D, args := #[] } })
    (fun a' W => N - (intOfV (a'.tmps.getD 20 undef)).toNat) ?_ ?_
  · exact ⟨undef, undef, undef, undef, undef, undef, undef, 0, _, [], by omega, by simp, by simp [seenL], Hm0.out, rfl⟩
  · rintro _ W ⟨u8, u21, u22, u23, u24, u25, u47, j, v, Ds, hj, hnd, hsl, hM, rfl⟩
    by_cases hjN : j < N
    · have hjl : j < nms.length := by rw [← HN.out]; exact hjN
      obtain ⟨x, hx⟩ : ∃ x, nms[j]? = some x := ⟨_, List.getElem?_eq_getElem hjl⟩
      obtain ⟨xl, rfl⟩ : ∃ l, x = bs l := ⟨x.data.toList, rfl⟩
      have hxs := Hnn.out _ (List.mem_of_getElem? hx)
      obtain ⟨rb, off, rfl, hrb, hrc⟩ := str_rd Hrd.out hx
      have hcW := cell_frm hM.frm (fun h => h) hrc
      have hlt : decide ((j : Int) < (N : Int)) = true := decide_eq_true (by omega)
      have Hj := Lib.hid hj
      have Hnd := Lib.hid hnd
      have Hsl := Lib.hid hsl
      have HM := Lib.hid hM
      have Hjl := Lib.hid hjl
      have Hx := Lib.hid hx
      have Hxs := Lib.hid hxs
      have Hrb := Lib.hid hrb
      have Hrc := Lib.hid hrc
      clear hj hnd hsl hM hjl hx hxs hrb hrc
      gi_wp2_with (refine ⟨trivial, ?_⟩; gi_at_call 46; refine (around_in xl _ _).mono ?_; rintro e w' ⟨rfl, rfl⟩)
      obtain ⟨W0, hW0⟩ : ∃ Y, Y = W.alloc (.cells #[.string (bs xl)] 9) := ⟨_, rfl⟩
      have hz0 : W0.heap.size = W.heap.size + 1 := by rw [hW0]; simp
      have hcB : W0.cell? ⟨W.heap.size, 0, none⟩ = some (.string (bs xl)) := by rw [hW0]; exact (Blk.made W _ _).cell 0
      have hM0 : MSt w W0 b L w.heap.size (w.heap.size + 1) (w.heap.size + 1 + 1) (w.heap.size + 1 + 1 + 1) (w.heap.size + 4) (seenL [] (nms.take j)) v (seenL [] (nms.take j)).length Ds := by
        rw [hW0]; exact HM.out.frmS ((Frm.refl noB W).alloc _) (fun _ _ h => h) (fun h => h) (fun h => h) (fun h => h) (fun h => h) (fun _ _ h => h) (fun _ _ h => h)
      rw [← hW0]
      clear hW0
      have hsB := hM0.sz
      have hdB : ∀ D ∈ Ds, D < W0.heap.size := fun D hD => (Array.getElem?_eq_some_iff.1 (hM0.ds D hD).2).1
      obtain ⟨S0, hS0⟩ : ∃ S, S = seenL [] (nms.take j) := ⟨_, rfl⟩
      rw [← hS0] at hM0 HM Hsl
      have hxl : xl.length ≤ 1000 := by have := Hxs.out; rw [bs_size] at this; exact this
      have hupl := ups_count xl.length xl (Nat.le_refl _)
      have hjb : j < 500 := by have := Hlen.out; omega
      have HM0 := Lib.hid hM0
      have HS0 := Lib.hid hS0
      have Hxl := Lib.hid hxl
      have Hupl := Lib.hid hupl
      have Hjb := Lib.hid hjb
      clear hM0 hS0 hxl hupl hjb
      refine wpIn_rangeFunc_ownG (α := UpX xl) (encs := fun x => #[Value.string (bs x.1)]) rfl (by omega) (gf := 59) (lb := #[.pointer (some ⟨W.heap.size, 0, none⟩)]) rfl trivial (enters_of Tryd.func59 (by kernel_rfl) rfl)
        (around_stops _ W.heap.size xl (Nat.le_trans Hxl.out (by omega)) W0 (by omega) hcB) (fun _ _ => trivial) (fun _ _ _ _ _ _ _ _ => trivial) (Below.refl _ _) (fun _ => rfl)
        (fun pre Y => ∃ S v, (MSt w Y b L w.heap.size (w.heap.size + 1) (w.heap.size + 1 + 1) (w.heap.size + 1 + 1 + 1) (w.heap.size + 4) S v S.length Ds ∧ W0.heap.size ≤ Y.heap.size) ∧ S.length = S0.length + pre.length ∧ ∀ t, addUps S0 (pre.map (·.1) ++ t) = addUps S t)
        (fun c pre Y => c = Code.exit 2 ∧ ∃ S v, (MSt w Y b L w.heap.size (w.heap.size + 1) (w.heap.size + 1 + 1) (w.heap.size + 1 + 1 + 1) (w.heap.size + 4) S v S.length Ds ∧ W0.heap.size ≤ Y.heap.size) ∧ S.length ≤ S0.length + pre.length ∧ ∀ t, addUps S0 (pre.map (·.1) ++ t) = S)
        ?hI ?hIx ?h0 ?a1 ?assign ?body ?done ?stop
      case hI =>
        rintro pre Y Y' row ⟨S, v, ⟨hm, hz⟩, he⟩ hg hr
        exact ⟨S, v, ⟨hm.grown hg hr (by omega) (by omega) (by omega) hdB, Nat.le_trans hz hg.size⟩, he⟩
      case hIx =>
        rintro c pre Y Y' row ⟨hc, S, v, ⟨hm, hz⟩, he⟩ hg hr
        exact ⟨hc, S, v, ⟨hm.grown hg hr (by omega) (by omega) (by omega) hdB, Nat.le_trans hz hg.size⟩, he⟩
      case h0 => exact ⟨S0, v, ⟨HM0.out, Nat.le_refl _⟩, rfl, fun t => rfl⟩
      case assign =>
        intro l x Y K hK
        gi_wp2
        exact hK
      case body =>
        rintro l pre ⟨x, hxm⟩ Y ⟨S, v, ⟨hm, hz⟩, hSl, hadd⟩ hlt
        have hxl2 := (ups_len hxm).1
        have hxs : (bs x).size ≤ 1000 := by rw [bs_size]; have := Hxl.out; omega
        have hxk := Go.WideMaps.keyOf_string_mk Tryd.underlying9 (show (bs x).size ≤ maxLen by simp only [maxLen]; omega)
        have hSb : S.length < 1000000 := by have := Hsl.out; have := Hupl.out; have := Hjb.out; have := Hxl.out; omega
        obtain ⟨sz, hmp⟩ := hm.mp
        have hlk1 := hmp.look (t := 81) keyS Tryd.underlying81 (zeroBl _) hxk
        have hq0 := hm.qb.cell 0
        simp at hq0
        dsimp only
        by_cases hin : x ∈ S
        · have hv1 : (seenF S (.string (bs x).data.toList)).getD (.bool false) = .bool true := by show (if x ∈ S then some (Value.bool true) else none).getD _ = _; rw [if_pos hin]; rfl
          rw [hv1] at hlk1
          have Hm := Lib.hid hm
          have Hadd := Lib.hid hadd
          have HSl := Lib.hid hSl
          have Hin := Lib.hid hin
          have Hlt := Lib.hid hlt
          have Hxs := Lib.hid hxs
          have Hxk := Lib.hid hxk
          have Hmp := Lib.hid hmp
          have Hv1 := Lib.hid hv1
          have HSb := Lib.hid hSb
          clear hm hadd hSl hin hlt hxs hxk hmp hv1 hSb
          gi_wp2
          refine ⟨KeepsFrom.refl _ _, rfl, S, v, ⟨Hm.out, hz⟩, ?_, fun t => ?_⟩
          · rw [List.length_append]; have := HSl.out; omega
          · rw [List.map_append, List.append_assoc, Hadd.out]
            show addUps S (x :: t) = S
            rw [addUps, if_pos Hin.out]
        · have hv1 : (seenF S (.string (bs x).data.toList)).getD (.bool false) = .bool false := by show (if x ∈ S then some (Value.bool true) else none).getD _ = _; rw [if_neg hin]; rfl
          rw [hv1] at hlk1
          obtain ⟨Y1, hrun, hst, hf1⟩ := hmp.store (t := 81) keyS Tryd.underlying81 (by simp only [maxLen]; omega) hxk (.bool true)
          have fw1 : Frm noB w Y1 := hm.frm.new hf1 (fun i hi e => by have e : i = w.heap.size + 1 + 1 := e; omega)
          have hlk2 := (Hh.out.keep fw1).look (bs x) (by omega)
          have hcb1 := hm.cb.frm hf1 (fun e => by have e : w.heap.size = w.heap.size + 1 + 1 := e; omega)
          have hlb1 := hm.lb.frm hf1 (fun e => by have e : w.heap.size + 1 = w.heap.size + 1 + 1 := e; omega)
          have hqb1 := hm.qb.frm hf1 (fun e => by have e : w.heap.size + 1 + 1 + 1 = w.heap.size + 1 + 1 := e; omega)
          have hcol := HBc.out _ fw1
          have hcb0 := hcb1.cell 0
          have hcol0 := hcol.cell 0
          simp at hcb0 hcol0
          have hrow1 := hm.row.frm hf1 (fun g hg e => by have := (hm.row.lt g hg).1; have e : g = w.heap.size + 1 + 1 := e; omega)
          have hds1 : ∀ D, D ∈ Ds → w.heap.size + 4 ≤ D ∧ Y1.heap[D]? = some (.deferred (some [])) := fun D hD => ⟨(hm.ds D hD).1, by
            rw [hf1.block D (Array.getElem?_eq_some_iff.1 (hm.ds D hD).2).1 (fun e => by have := (hm.ds D hD).1; have e : D = w.heap.size + 1 + 1 := e; omega)]; exact (hm.ds D hD).2⟩
          cases hfn : fndS L (bs x).data.toList with
          | some y =>
            rw [hfn] at hlk2
            obtain ⟨y0, y1, y2, y3, y4, y5⟩ := y
            simp only [Option.getD_some, Option.isSome_some, spnV] at hlk2
            have Hm := Lib.hid hm
            have Hadd := Lib.hid hadd
            have HSl := Lib.hid hSl
            have Hin := Lib.hid hin
            have Hlt := Lib.hid hlt
            have Hxs := Lib.hid hxs
            have Hxk := Lib.hid hxk
            have Hmp := Lib.hid hmp
            have Hv1 := Lib.hid hv1
            have HSb := Lib.hid hSb
            have Hst := Lib.hid hst
            have Hf1 := Lib.hid hf1
            have Hfw1 := Lib.hid fw1
            have Hcb1 := Lib.hid hcb1
            have Hlb1 := Lib.hid hlb1
            have Hqb1 := Lib.hid hqb1
            have Hcol := Lib.hid hcol
            have Hrow1 := Lib.hid hrow1
            have Hds1 := Lib.hid hds1
            have Hfn := Lib.hid hfn
            clear hm hadd hSl hin hlt hxs hxk hmp hv1 hSb hst hf1 fw1 hcb1 hlb1 hqb1 hcol hrow1 hds1 hfn
            gi_wp2
            have hfz := (Frm.refl noB Y1).alloc (.cells #[.string y0, .int .i64 y1, .int .i64 y2, .int .i64 y3, .bool y4, .int .i64 y5] 30)
            refine ⟨keepsFrom_frm (Hf1.out.trans (hfz.mono (fun _ _ h => h.elim))) (fun i o e hB _ => by have e : i = w.heap.size + 1 + 1 := e; omega), trivial, S ++ [x], v, ⟨Hm.out.came (by omega) (by omega) (by omega) (by omega) (by omega) Hst.out Hf1.out hfz Hfn.out, ?_⟩, ?_, fun t => ?_⟩
            · have := Hf1.out.size; have := hfz.size; omega
            · rw [List.length_append, List.length_append, HSl.out]; simp only [List.length_cons, List.length_nil]; omega
            · rw [List.map_append, List.append_assoc, Hadd.out]
              show addUps S (x :: t) = addUps (S ++ [x]) t
              rw [addUps, if_neg Hin.out]
          | none =>
            rw [hfn] at hlk2
            simp only [Option.getD_none, Option.isSome_none, spnV, spn0] at hlk2
            have hfz := (Frm.refl noB Y1).alloc (.cells #[.string ⟨#[]⟩, .int .i64 0, .int .i64 0, .int .i64 0, .bool false, .int .i64 0] 30)
            have hrowz := hrow1.frm hfz (fun _ _ h => h)
            have hlz := (hlb1.frm hfz (fun h => h)).cell 0
            have hlzf := (hlb1.frm hfz (fun h => h)).free 0
            simp at hlz
            have hmis : (misS L S).length ≤ 1000000 := by unfold misS; rw [List.length_map]; exact Nat.le_trans (List.length_filter_le _ _) (by omega)
            have hbz : w.heap.size + 4 ≤ (Y1.alloc (.cells #[.string ⟨#[]⟩, .int .i64 0, .int .i64 0, .int .i64 0, .bool false, .int .i64 0] 30)).heap.size := Nat.le_trans hm.sz (Nat.le_trans hf1.size hfz.size)
            have hM2 : ∀ W2, Frm (fun i => some i = v.ownBlock) (Y1.alloc (.cells #[.string ⟨#[]⟩, .int .i64 0, .int .i64 0, .int .i64 0, .bool false, .int .i64 0] 30)) W2 → W2.cell? ⟨w.heap.size + 1, 0, none⟩ = some v ∧ W2.frozen? ⟨w.heap.size + 1, 0, none⟩ = false := fun W2 hf2 => by
              have hb2 := (hlb1.frm hfz (fun h => h)).frm hf2 (fun e => by have := (hm.row.lt _ e.symm).1; omega)
              exact ⟨hb2.cell 0, hb2.free 0⟩
            have Hm := Lib.hid hm
            have Hadd := Lib.hid hadd
            have HSl := Lib.hid hSl
            have Hin := Lib.hid hin
            have Hlt := Lib.hid hlt
            have Hxs := Lib.hid hxs
            have Hxk := Lib.hid hxk
            have Hmp := Lib.hid hmp
            have Hv1 := Lib.hid hv1
            have HSb := Lib.hid hSb
            have Hst := Lib.hid hst
            have Hf1 := Lib.hid hf1
            have Hfw1 := Lib.hid fw1
            have Hcb1 := Lib.hid hcb1
            have Hlb1 := Lib.hid hlb1
            have Hqb1 := Lib.hid hqb1
            have Hcol := Lib.hid hcol
            have Hrow1 := Lib.hid hrow1
            have Hds1 := Lib.hid hds1
            have Hfn := Lib.hid hfn
            have Hfz := Lib.hid hfz
            have Hrowz := Lib.hid hrowz
            have Hmis := Lib.hid hmis
            have Hbz := Lib.hid hbz
            have HM2 := Lib.hid hM2
            clear hm hadd hSl hin hlt hxs hxk hmp hv1 hSb hst hf1 fw1 hcb1 hlb1 hqb1 hcol hrow1 hds1 hfn hfz hrowz hmis hbz hM2
            gi_wp2_with (gi_at_builtin; refine appIn_str _ _ _ rfl _ _ rfl (w.heap.size + 4) v (misS L S) rfl Hrowz.out (bs x) _ rfl (Y1.heap.size + 1) (by simp) rfl Hmis.out Hbz.out ?_; rintro v' w2 hown2 hf2; have hlw := (HM2.out w2 hf2).1; have hlwf := (HM2.out w2 hf2).2; have Hf2 := Lib.hid hf2; clear hf2; obtain ⟨a', c', hv', _, _⟩ := hown2.shape; obtain ⟨n', hn'⟩ : ∃ q, q = (misS L S ++ [bs x]).length := ⟨_, rfl⟩; rw [← hn'] at hv'; subst hv'; have Hown2 := Lib.hid hown2; have Hn' := Lib.hid hn'; clear hown2 hn')
            obtain ⟨hg1, hg2⟩ := Hm.out.gone (by omega) (by omega) (by omega) (by omega) (by omega) (by omega) (by omega) (by omega) (by omega) (by omega) (by omega) Hst.out Hf1.out Hfz.out Hf2.out Hown2.out Hfn.out (by omega)
            refine ⟨hg2 _ (by omega) (by omega), trivial, S ++ [x], _, ⟨hg1, ?_⟩, ?_, fun t => ?_⟩
            · have h1 := Hf1.out.size; have h2 := Hfz.out.size; have h3 := Hf2.out.size
              have : (w2.setCell ⟨w.heap.size + 1, 0, none⟩ (Value.slice a' n' c')).heap.size = w2.heap.size := by simp [World.setCell]
              omega
            · rw [List.length_append, List.length_append, HSl.out]; simp only [List.length_cons, List.length_nil]; omega
            · rw [List.map_append, List.append_assoc, Hadd.out]
              show addUps S (x :: t) = addUps (S ++ [x]) t
              rw [addUps, if_neg Hin.out]
      case done =>
        rintro D ys Z hD hpre ⟨S, v2, ⟨hm2, hz2⟩, hSl2, hadd2⟩ hK
        have hpl : ys.length = (ups xl).length := by rw [← hpre, List.length_map]
        have hSS : seenL [] (nms.take (j + 1)) = S := by rw [seenL_take j _ Hx.out, ← HS0.out]; exact (by have := hadd2 []; rw [List.append_nil, hpre] at this; exact this)
        have hn2 : (D :: Ds).Nodup := by rw [List.nodup_cons]; exact ⟨fun hd => by have := hdB D hd; omega, Hnd.out⟩
        have hl2 : (seenL [] (nms.take (j + 1))).length ≤ 1000 * (j + 1) := by rw [hSS]; have := Hsl.out; have := Hupl.out; have := Hxl.out; omega
        have hm3 : MSt w Z b L w.heap.size (w.heap.size + 1) (w.heap.size + 1 + 1) (w.heap.size + 1 + 1 + 1) (w.heap.size + 4) (seenL [] (nms.take (j + 1))) v2 (seenL [] (nms.take (j + 1))).length (D :: Ds) := by
          rw [hSS]
          exact ⟨hm2.frm, hm2.cb, hm2.lb, hm2.qb, hm2.mp, hm2.row, fun E hE => by rcases List.mem_cons.1 hE with rfl | hE; exact ⟨by omega, hK⟩; exact hm2.ds E hE, hm2.sz⟩
        have hwr : wrap64 ((j : Int) + 1) = ((j + 1 : Nat) : Int) := by have := Hjb.out; unfold wrap64; omega
        have HSS := Lib.hid hSS
        have Hn2 := Lib.hid hn2
        have Hl2 := Lib.hid hl2
        have Hm3 := Lib.hid hm3
        have Hm2 := Lib.hid hm2
        have HSl2 := Lib.hid hSl2
        have Hadd2 := Lib.hid hadd2
        have HK := Lib.hid hK
        have Hpl := Lib.hid hpl
        have HD := Lib.hid hD
        have Hz2 := Lib.hid hz2
        have Hpre := Lib.hid hpre
        clear hSS hn2 hl2 hm3 hm2 hSl2 hadd2 hK hpl hD hz2 hpre
        gi_wp2
        rw [hwr]
        refine ⟨⟨_, _, _, _, _, _, _, j + 1, v2, D :: Ds, by omega, Hn2.out, Hl2.out, Hm3.out, rfl⟩, ?_⟩
        show N - (Int.toNat ((j + 1 : Nat) : Int)) < N - (Int.toNat (j : Int))
        omega
      case stop =>
        rintro D c pre Z hD hpre ⟨rfl, S, v2, ⟨hm2, hz2⟩, hSl2, hadd2⟩ hK
        have hpl : pre.length ≤ (ups xl).length := by have := hpre.length_le; rw [List.length_map] at this; exact this
        have hSS : seenL [] (nms.take (j + 1)) = S := by rw [seenL_take j _ Hx.out, ← HS0.out]; exact (by obtain ⟨t, ht⟩ := hpre; have := hadd2 t; rw [ht] at this; exact this)
        have hn2 : (D :: Ds).Nodup := by rw [List.nodup_cons]; exact ⟨fun hd => by have := hdB D hd; omega, Hnd.out⟩
        have hl2 : (seenL [] (nms.take (j + 1))).length ≤ 1000 * (j + 1) := by rw [hSS]; have := Hsl.out; have := Hupl.out; have := Hxl.out; omega
        have hm3 : MSt w Z b L w.heap.size (w.heap.size + 1) (w.heap.size + 1 + 1) (w.heap.size + 1 + 1 + 1) (w.heap.size + 4) (seenL [] (nms.take (j + 1))) v2 (seenL [] (nms.take (j + 1))).length (D :: Ds) := by
          rw [hSS]
          exact ⟨hm2.frm, hm2.cb, hm2.lb, hm2.qb, hm2.mp, hm2.row, fun E hE => by rcases List.mem_cons.1 hE with rfl | hE; exact ⟨by omega, hK⟩; exact hm2.ds E hE, hm2.sz⟩
        have hwr : wrap64 ((j : Int) + 1) = ((j + 1 : Nat) : Int) := by have := Hjb.out; unfold wrap64; omega
        have HSS := Lib.hid hSS
        have Hn2 := Lib.hid hn2
        have Hl2 := Lib.hid hl2
        have Hm3 := Lib.hid hm3
        have Hm2 := Lib.hid hm2
        have HSl2 := Lib.hid hSl2
        have Hadd2 := Lib.hid hadd2
        have HK := Lib.hid hK
        have Hpl := Lib.hid hpl
        have HD := Lib.hid hD
        have Hz2 := Lib.hid hz2
        have Hpre := Lib.hid hpre
        clear hSS hn2 hl2 hm3 hm2 hSl2 hadd2 hK hpl hD hz2 hpre
        gi_wp2
        rw [hwr]
        refine ⟨⟨_, _, _, _, _, _, _, j + 1, v2, D :: Ds, by omega, Hn2.out, Hl2.out, Hm3.out, rfl⟩, ?_⟩
        show N - (Int.toNat ((j + 1 : Nat) : Int)) < N - (Int.toNat (j : Int))
        omega
    · obtain rfl : j = N := by omega
      have htk : nms.take j = nms := List.take_of_length_le (by rw [← HN.out]; exact Nat.le_refl _)
      rw [htk] at hM hsl
      have hlt : decide ((j : Int) < (j : Int)) = false := decide_eq_false (by omega)
      have hl0 := hM.lb.cell 0
      simp at hl0
      have Hj := Lib.hid hj
      have Hnd := Lib.hid hnd
      have Hsl := Lib.hid hsl
      have HM := Lib.hid hM
      have Htk := Lib.hid htk
      have HjN := Lib.hid hjN
      clear hj hnd hsl hM htk hjN
      gi_wp2
      refine leaves_marks Ds W Hnd.out (fun D hD => (HM.out.ds D hD).2) (fun W' hW' => ?_)
      refine ⟨_, results_tmp rfl _ _ _, v, w.heap.size + 4, rfl, by omega, HM.out.row.frm hW' (fun g hg hd => ?_), HM.out.frm.new hW' (fun i hi hd => ?_)⟩
      · have h1 := HM.out.ds g hd
        have := own_cells HM.out.row hg h1.2
        simp [Obj.isCells] at this
      · have h1 := HM.out.ds i hd; omega
theorem missing_any (b k : Nat) (L : List Spn) (O : Nat → Prop) (r : Int) (w : World) (h : ColIs w b L k O) (hr : (Lit.int .i64 r).wf = true) (hnm : ∀ s ∈ L, s.name.size ≤ 1000) (hL : L.length ≤ 500) :
    Calls Tryd.prog 32 #[.pointer (some ⟨b, 0, none⟩), .int .i64 r] w fun e w' => ∃ v, e = .returned v ∧ Own strE w' w.heap.size 9 v (misS L (seenL [] (namesL L r))) ∧ Frm noB w w' := by
  obtain ⟨m1, m2, rows, h⟩ := h
  refine (callsIn_wide.1 (missing_map b m1 m2 k L rows O r w h hr hnm hL)).mono ?_
  rintro e w' ⟨v, base, he, hb, ho, hf⟩
  exact ⟨v, he, ho.base hb, hf⟩
end Go.Proofs.YtpgcfeplcibhoaaDoor
