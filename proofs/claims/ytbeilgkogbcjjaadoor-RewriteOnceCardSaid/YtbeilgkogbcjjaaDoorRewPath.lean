/- rewrite.Path. -/
import Derived.Test.YtbeilgkogbcjjaaDoorRewC
import Derived.Deep.RegionHeld3
import Derived.Outline
set_option linter.unusedVariables false
namespace Go.Proofs.YtbeilgkogbcjjaaDoor
open Go.RowKit

/-- A rule's cells, and its value. -/
def ruleC (mp : ByteArray) (ex : Bool) (pfx : ByteArray) (sv dv : Value) : Array Value :=
  #[.string mp, .bool ex, .slice none 0 0, .slice none 0 0, .int .i64 0, .int .i64 0, .int .i64 0, .int .i64 0, .string pfx, sv, dv, .int .i64 0, .int .i64 0, .int .i64 0, .int .i64 0, .int .i64 0, .int .i64 0, .int .i64 0, .int .i64 0]
def ruleV (mp : ByteArray) (ex : Bool) (pfx : ByteArray) (sv dv : Value) : Value := .agg (ruleC mp ex pfx sv dv)

set_option maxRecDepth 100000 in
set_option maxHeartbeats 4000000 in
theorem rew_path_empty (mp : ByteArray) (ex : Bool) (sa : Option Addr) (sn sc : Nat) (da : Option Addr) (dn dc : Nat) (path : ByteArray) (w : World) :
    Calls Tryd.prog 13 #[ruleV mp ex ⟨#[]⟩ (.slice sa sn sc) (.slice da dn dc), .string path] w fun e w' => e = .returned (.string path) ∧ Frm noB w w' := by
  have fa := (Frm.refl noB w).alloc (.cells (ruleC mp ex ⟨#[]⟩ (.slice sa sn sc) (.slice da dn dc)) 35)
  unfold ruleC at fa
  unfold ruleV ruleC
  have Hfa := Lib.hid fa
  clear fa
  go_enter Tryd.func13, Tryd.ntmps13
  go_wp2_with fail
  go_ret
  exact ⟨rfl, Hfa.out⟩

theorem run_sl_from (a : Option Addr) (n c k : Nat) (hk : k ≤ n) (hn : n ≤ c) (w : World) :
    (Instr.slice 29 (.slice a n c) (some (.int .i64 (k : Int))) none none).run Tryd.prog w = .ok (.slice (if c = k then a else a.map (·.add (k * 1))) (n - k) (c - k)) w := by
  have h1 : (0 : Int) ≤ (k : Int) ∧ (k : Int) ≤ (n : Int) := by omega
  simp [Instr.slice, Instr.sliceBounds, Instr.sliceBound, asIntOf, run_underlying Tryd.underlying29, h1, hk, Tryd.sizeOf9]
theorem Rd.from {w : World} {a : Option Addr} {n c k : Nat} {l : List ByteArray} (h : Rd strE w a n l) (hk : k ≤ n) (hn : n ≤ c) : Rd strE w (if c = k then a else a.map (·.add (k * 1))) (n - k) (l.drop k) := by
  refine ⟨by rw [List.length_drop, h.1], by have := h.2.1; omega, fun j x hj => ?_⟩
  rw [List.getElem?_drop] at hj
  have hlt := get_lt hj
  rw [h.1] at hlt
  obtain ⟨b, off, rfl, hb, hc⟩ := h.2.2 (k + j) x hj
  rw [if_neg (by omega)]
  refine ⟨b, off + k, by simp [Addr.add], hb, fun i u hu => ?_⟩
  have := hc i u hu
  rwa [show off + k + (j * strE.k + i) = off + ((k + j) * strE.k + i) from by show off + k + (j * 1 + i) = off + ((k + j) * 1 + i); omega]
theorem from_block {a : Option Addr} {c k : Nat} {x : Addr} (h : (if c = k then a else a.map (·.add (k * 1))) = some x) : ∃ y, a = some y ∧ x.block = y.block := by
  split at h
  · exact ⟨x, h, rfl⟩
  · rw [Option.map_eq_some_iff] at h
    obtain ⟨y, hy, rfl⟩ := h
    exact ⟨y, hy, by unfold Addr.add; split <;> rfl⟩
theorem MaxL.frm {S : Nat → Prop} {w w' : World} (h : MaxL w) (f : Frm S w w') (hs : ¬ S 0) : MaxL w' := by
  obtain ⟨m, hm⟩ := h
  exact ⟨m, cell_frm f hs hm⟩
theorem slice_from (a : Option Addr) (n c k : Nat) (hk : k ≤ n) (hn : n ≤ c) : ∃ a', (∀ w, (Instr.slice 29 (.slice a n c) (some (.int .i64 (k : Int))) none none).run Tryd.prog w = .ok (.slice a' (n - k) (c - k)) w) ∧
    (∀ w l, Rd strE w a n l → Rd strE w a' (n - k) (l.drop k)) ∧ ∀ x, a' = some x → ∃ y, a = some y ∧ x.block = y.block :=
  ⟨_, fun w => run_sl_from a n c k hk hn w, fun w l h => h.from hk hn, fun x h => from_block h⟩

theorem ne_from {a2 a3 : Option Addr} {n c B H : Nat} (hbf : ∀ x, a3 = some x → ∃ y, a2 = some y ∧ x.block = y.block) (hlt : ∀ k, (Value.slice a2 n c).ownBlock = some k → H ≤ k) (hB : B < H) : ∀ x, a3 = some x → x.block ≠ B := fun x hx => by
  obtain ⟨y, hy, e⟩ := hbf x hx
  have := hlt y.block (by rw [hy]; rfl)
  omega
theorem Own.cap' {α : Type} {E : Enc α} {w : World} {base : Nat} {v : Value} {T : TypeId} {l : List α} (h : Own E w base T v l) : ∀ a c, v = .slice a l.length c → l.length ≤ c := fun a c e => by
  subst e
  exact h.cap.1
set_option maxRecDepth 100000 in
set_option maxHeartbeats 4000000 in
theorem rew_path_any (b : List (List UInt8)) (hb : PartsOk b) (hbl : (pathOf b).length ≤ 1000) (ex : Bool) (pfx : ByteArray) (hpl : pfx.size ≤ 1000) (sa : Option Addr) (sn sc : Nat) (da : Option Addr) (dn dc : Nat) (path : ByteArray) (hps : path.size ≤ 1000) (w : World) (hm : MaxL w) :
    Calls Tryd.prog 13 #[ruleV (bs (pathOf b)) ex pfx (.slice sa sn sc) (.slice da dn dc), .string path] w fun e w' => e = .returned (.string (bs (rewP pfx.data.toList b ex path.data.toList))) ∧ Frm noB w w' := by
  by_cases h0 : pfx.data.toList = []
  · have hr : bs (rewP pfx.data.toList b ex path.data.toList) = path := by unfold rewP; rw [if_pos h0, bs_of]
    rw [hr]
    obtain rfl : pfx = ⟨#[]⟩ := ba_ext h0
    exact rew_path_empty _ _ _ _ _ _ _ _ _ _
  have he := empty_test h0
  have he2 : ¬ pfx.toList = [] := by rw [ByteArray.toList_eq]; exact h0
  have hpar : partsL (pathOf b) = b := parts_path hb
  have hmpl : (bs (pathOf b)).size ≤ 1000 := by rw [bs_size]; exact hbl
  have hmpe : (bs (pathOf b) = path) ↔ (pathOf b = path.data.toList) := ⟨fun h => by rw [← h, bs_list], fun h => by rw [h, bs_of]⟩
  have hdef : rewP pfx.data.toList b ex path.data.toList = if onL (bs (pathOf b)) ex path = false then path.data.toList else if ex then pfx.data.toList else fin path.data.toList (joinP (partsL pfx.data.toList) ++ joinP ((partsL path.data.toList).drop b.length)) := by
    unfold rewP onL
    rw [if_neg h0, bs_list]
    simp only [hmpe]
  have hpl1 : (joinP (partsL pfx.data.toList)).length ≤ 2000 := by
    unfold partsL; split
    · simp [joinP]
    · rw [join_cut, List.length_cons, List.length_tail, ba_len]; omega
  have hpl2 : (joinP (partsL path.data.toList)).length ≤ 2000 := by
    unfold partsL; split
    · simp [joinP]
    · rw [join_cut, List.length_cons, List.length_tail, ba_len]; omega
  have hpl3 : (joinP ((partsL path.data.toList).drop b.length)).length ≤ 2000 := by
    have := joinP_app ((partsL path.data.toList).take b.length) ((partsL path.data.toList).drop b.length)
    rw [List.take_append_drop] at this
    rw [this, List.length_append] at hpl2; omega
  have hblen : onL (bs (pathOf b)) ex path = true → ex = false → b.length ≤ (partsL path.data.toList).length := by
    intro h hx
    subst hx
    unfold onL at h
    rw [Bool.and_eq_true, if_neg Bool.false_ne_true, bs_list] at h
    obtain ⟨a, ha, e, _⟩ := (isPath_iff _).1 h.1
    rw [e] at h ⊢
    have h2 := h.2
    rw [begins_path ha hb, List.isPrefixOf_iff_prefix] at h2
    rw [parts_path ha]
    exact h2.length_le
  have hB0 := Blk.made w (ruleC (bs (pathOf b)) ex pfx (.slice sa sn sc) (.slice da dn dc)) 35
  have fa := (Frm.refl noB w).alloc (.cells (ruleC (bs (pathOf b)) ex pfx (.slice sa sn sc) (.slice da dn dc)) 35)
  have hm0 := hm.keep fa
  have hw0 : 0 < w.heap.size := by obtain ⟨m, h⟩ := hm; exact World.block_lt_of_cell? w ⟨0, 0, none⟩ h
  have hpa := fun (s : ByteArray) (h : s.size ≤ 1000) (w : World) (hm : MaxL w) => parts_any s w (by omega) hm
  have hpm := fun w hm => hpa (bs (pathOf b)) hmpl w hm
  rw [bs_list, hpar] at hpm
  have hpp := fun w hm => hpa pfx hpl w hm
  have hpq := fun w hm => hpa path hps w hm
  have hon := fun w hm => on_any (bs (pathOf b)) ex none 0 0 path w (by omega) hm
  generalize rewP pfx.data.toList b ex path.data.toList = R at *
  generalize bs (pathOf b) = mp at *
  cases honb : onL mp ex path
  · rw [honb] at hon hdef
    rw [if_pos rfl] at hdef
    have hr : bs R = path := by rw [hdef, bs_of]
    rw [hr]
    unfold ruleV ruleC at *
    have H0 := Lib.hid h0
    have Hpar := Lib.hid hpar
    have Hmpl := Lib.hid hmpl
    have Hmpe := Lib.hid hmpe
    have Hdef := Lib.hid hdef
    have Hpl1 := Lib.hid hpl1
    have Hpl2 := Lib.hid hpl2
    have Hpl3 := Lib.hid hpl3
    have Hblen := Lib.hid hblen
    have HB0 := Lib.hid hB0
    have Hfa := Lib.hid fa
    have Hm := Lib.hid hm
    have Hm0 := Lib.hid hm0
    have Hpa := Lib.hid hpa
    have Hpm := Lib.hid hpm
    have Hpp := Lib.hid hpp
    have Hpq := Lib.hid hpq
    have Hon := Lib.hid hon
    have Hr := Lib.hid hr
    have Honb := Lib.hid honb
    clear h0 hpar hmpl hmpe hdef hpl1 hpl2 hpl3 hblen hB0 fa hm hm0 hpa hpm hpp hpq hon hr honb
    go_enter Tryd.func13, Tryd.ntmps13
    go_wp2_with fail
    refine (Hon.out _ Hm0.out).mono ?_
    rintro e x1 ⟨rfl, hf1⟩
    have hf2 := Hfa.out.trans hf1
    have Hf2 := Lib.hid hf2
    clear hf2
    clear hf1
    go_wp2_with fail
    go_ret
    exact ⟨rfl, Hf2.out⟩
  rw [honb] at hon hdef hblen
  rw [if_neg (by simp)] at hdef
  cases ex
  · rw [if_neg (by simp)] at hdef
    have hbl2 := hblen rfl rfl
    generalize hP1 : partsL pfx.data.toList = P1 at *
    generalize hP2 : partsL path.data.toList = P2 at *
    obtain ⟨n1, hn1⟩ : ∃ n, n = (P1.map bs).length := ⟨_, rfl⟩
    obtain ⟨n2, hn2⟩ : ∃ n, n = (P2.map bs).length := ⟨_, rfl⟩
    obtain ⟨n3, hn3⟩ : ∃ n, n = (b.map bs).length := ⟨_, rfl⟩
    have hn32 : n3 ≤ n2 := by rw [hn3, hn2, List.length_map, List.length_map]; exact hbl2
    have hdr : (P2.map bs).drop n3 = (P2.drop b.length).map bs := by rw [List.map_drop, hn3, List.length_map]
    unfold ruleV ruleC at *
    have H0 := Lib.hid h0
    have Hpar := Lib.hid hpar
    have Hmpl := Lib.hid hmpl
    have Hmpe := Lib.hid hmpe
    have Hdef := Lib.hid hdef
    have Hpl1 := Lib.hid hpl1
    have Hpl2 := Lib.hid hpl2
    have Hpl3 := Lib.hid hpl3
    have Hblen := Lib.hid hblen
    have HB0 := Lib.hid hB0
    have Hfa := Lib.hid fa
    have Hm := Lib.hid hm
    have Hm0 := Lib.hid hm0
    have Hpa := Lib.hid hpa
    have Hpm := Lib.hid hpm
    have Hpp := Lib.hid hpp
    have Hpq := Lib.hid hpq
    have Hon := Lib.hid hon
    have Honb := Lib.hid honb
    have HP1 := Lib.hid hP1
    have HP2 := Lib.hid hP2
    have Hn1 := Lib.hid hn1
    have Hn2 := Lib.hid hn2
    have Hn3 := Lib.hid hn3
    have Hdr := Lib.hid hdr
    have Hbl2 := Lib.hid hbl2
    clear h0 hpar hmpl hmpe hdef hpl1 hpl2 hpl3 hblen hB0 fa hm hm0 hpa hpm hpp hpq hon honb hP1 hP2 hn1 hn2 hn3 hdr hbl2
    go_enter Tryd.func13, Tryd.ntmps13
    go_wp2_with fail
    refine (Hon.out _ Hm0.out).mono ?_
    rintro e x1 ⟨rfl, hf1⟩
    have hB1 := HB0.out.frm hf1 (fun h => h)
    have b1 := (hB1.cell 1).trans (show _ = some (Value.bool false) from rfl)
    have b8 := (hB1.cell 8).trans (show _ = some (Value.string pfx) from rfl)
    have hm1 := Hm0.out.keep hf1
    have hf2 := Hfa.out.trans hf1
    have hO := Blk.made x1 #[.string ⟨#[]⟩] 9
    have fb := (Frm.refl noB x1).alloc (.cells #[.string ⟨#[]⟩] 9)
    have hm2 := hm1.keep fb
    have hB2 := hB1.frm fb (fun h => h)
    have hf3 := hf2.trans fb
    have hw1 : w.heap.size < x1.heap.size := by have := hf1.size; simp at this; omega
    have Hf2 := Lib.hid hf2
    have HB1 := Lib.hid hB1
    have Hf1 := Lib.hid hf1
    have Hm1 := Lib.hid hm1
    have HO := Lib.hid hO
    have Hfb := Lib.hid fb
    have Hm2 := Lib.hid hm2
    have HB2 := Lib.hid hB2
    have Hf3 := Lib.hid hf3
    clear hf2 hB1 hf1 hm1 hO fb hm2 hB2 hf3
    go_wp2_with fail
    refine (Hpp.out _ Hm2.out).mono ?_
    rintro e x2 ⟨v1, rfl, ho1, hf4⟩
    have hO2 := HO.out.frm hf4 (fun h => h)
    have hB3 := HB2.out.frm hf4 (fun h => h)
    have hm3 := Hm2.out.keep hf4
    have hf5 := Hf3.out.trans hf4
    have hlt1 := fun k h => (ho1.lt k h).1
    obtain ⟨a1, c1, rfl, hr1⟩ := ho1.rd
    have hne1 : ∀ x, a1 = some x → x.block ≠ x1.heap.size := fun x hx => by
      have := hlt1 x.block (by rw [hx]; rfl)
      simp at this; omega
    rw [← Hn1.out] at hr1 ⊢
    have HO2 := Lib.hid hO2
    have HB3 := Lib.hid hB3
    have Hm3 := Lib.hid hm3
    have Hf5 := Lib.hid hf5
    have Ho1 := Lib.hid ho1
    have Hr1 := Lib.hid hr1
    have Hne1 := Lib.hid hne1
    have Hlt1 := Lib.hid hlt1
    have Hf4 := Lib.hid hf4
    clear hO2 hB3 hm3 hf5 ho1 hr1 hne1 hlt1 hf4
    go_wp2_with fail
    refine (put_any a1 n1 c1 P1 [] x1.heap.size _ HO2.out Hr1.out Hne1.out (by have := Hpl1.out; simp; omega)).mono ?_
    rintro e x3 ⟨rfl, hO3, hf6⟩
    rw [List.nil_append] at hO3
    have hB4 := HB3.out.frm hf6 (fun h => Nat.ne_of_lt hw1 h)
    have hm4 := Hm3.out.frm hf6 (fun h => by have : 0 = x1.heap.size := h; omega)
    have hf7 := Hf5.out.new hf6 (fun i hi h => by have : i = x1.heap.size := h; omega)
    have d0 := (hB4.cell 0).trans (show _ = some (Value.string mp) from rfl)
    have hx13 : x1.heap.size < x3.heap.size := by have h1 := Hf4.out.size; have h2 := hf6.size; simp at h1; omega
    have HO3 := Lib.hid hO3
    have HB4 := Lib.hid hB4
    have Hf6 := Lib.hid hf6
    clear hO3 hB4 hf6
    go_upto_region 8 with fail
    have hm5 := hm4
    have hpq := Hpq.out
    have hpm := Hpm.out
    have i1 : (0 : Int) ≤ (n3 : Int) := by omega
    have i2 : (n3 : Int) ≤ (n2 : Int) := by omega
    have hO5 := HO3.out
    have hsum : (joinP P1).length + (joinP (P2.drop b.length)).length ≤ 1000000 := by have h1 := Hpl1.out; have h3 := Hpl3.out; omega
    have hneB : ¬ oneB x1.heap.size w.heap.size := fun h => Nat.ne_of_lt hw1 h
    clear Hf4 hm4 Ho1 Hr1 HO2 HB3 Hf5 HO Hfb HB2 Hf3 Hm3 Hm2 Hm1 HB1 Hf2 Hf1 b1 b8
    go_region_held3 (fun W => W.cell? ⟨w.heap.size, 0, none⟩ = some (.string mp)) (first | (with_reducible assumption) | exact d0)
      (first
        | (go_at_call 31; (with_reducible refine (hpq _ ?_).mono ?_); (focus ((with_reducible refine MaxL.keep hm5 ?_); (repeat (first | (with_reducible exact Frm.refl _ _) | assumption | (with_reducible refine Frm.alloc ?_ _) | (with_reducible refine Frm.drew ?_) | (with_reducible refine Frm.trans ?_ (by assumption)))))); rintro e x4 ⟨v2, rfl, ho2, hg1⟩; have d1 := cell_frm hg1 (fun h => h) d0; have hlt2 := fun k h => (ho2.lt k h).1; have hcp := ho2.cap'; obtain ⟨a2, c2, rfl, hr2⟩ := ho2.rd; rw [← Hn2.out] at hr2 hcp hlt2 ⊢; obtain ⟨a3, hsl, hrf, hbf⟩ := slice_from a2 n2 c2 n3 hn32 (hcp _ _ rfl); have hne3 := ne_from hbf hlt2 hx13)
        | (go_at_call 31; (with_reducible refine (hpm _ ?_).mono ?_); (focus ((with_reducible refine MaxL.keep hm5 ?_); (repeat (first | (with_reducible exact Frm.refl _ _) | assumption | (with_reducible refine Frm.alloc ?_ _) | (with_reducible refine Frm.drew ?_) | (with_reducible refine Frm.trans ?_ (by assumption)))))); rintro e x5 ⟨v3, rfl, ho3, hg2⟩; have d2 := cell_frm hg2 (fun h => h) d1; obtain ⟨a4, c4, rfl, hr3⟩ := ho3.rd; rw [← Hn3.out])
        | (go_at_call 30; (with_reducible refine (put_any a3 (n2 - n3) (c2 - n3) (P2.drop b.length) (joinP P1) x1.heap.size _ ?_ ?_ hne3 hsum).mono ?_); (focus (repeat (first | assumption | (with_reducible refine Blk.drew ?_) | (with_reducible refine Blk.alloc ?_ _) | (with_reducible refine Blk.frm ?_ (by assumption) (fun h => h))))); (focus (rw [← Hdr.out]; (with_reducible refine hrf _ _ ?_); (with_reducible refine Rd.keep hr2 ?_); (repeat (first | (with_reducible exact Frm.refl _ _) | assumption | (with_reducible refine Frm.alloc ?_ _) | (with_reducible refine Frm.drew ?_) | (with_reducible refine Frm.trans ?_ (by assumption)))))); rintro e x6 ⟨rfl, hO6, hg3⟩; have d3 := cell_frm hg3 hneB d2))
    have hfin := hf7.new (((((Frm.refl noB x3).drew.trans hg1).trans hg2).mono (T := oneB x1.heap.size) (fun _ _ h => h.elim)).trans hg3) (fun i hi h => by have : i = x1.heap.size := h; omega)
    have o0 := (hO6.cell 0).trans (show _ = some (Value.string (bs (joinP P1 ++ joinP (P2.drop b.length)))) from rfl)
    have ol := hO6.lt
    have hdf := Hdef.out
    generalize joinP P1 ++ joinP (P2.drop b.length) = o at *
    clear hlt2 hcp hsl hrf hbf hne3 hr2 hr3 ho2 ho3 d0 d1 d2 d3 hO5 hm5 hpq hpm i1 i2 hsum hneB
    by_cases ho0 : o = []
    · have hr : bs R = ⟨#[47]⟩ := by rw [hdf, fin, if_pos ho0]; rfl
      subst ho0
      rw [show bs [] = ⟨#[]⟩ from rfl] at o0
      have Hfin := Lib.hid hfin
      have HO6 := Lib.hid hO6
      have Hdf := Lib.hid hdf
      have Hr := Lib.hid hr
      have Hg1 := Lib.hid hg1
      have Hg2 := Lib.hid hg2
      have Hg3 := Lib.hid hg3
      have Hf7 := Lib.hid hf7
      clear hfin hO6 hdf hr hg1 hg2 hg3 hf7
      go_wp2_with fail
      go_ret
      exact ⟨by rw [Hr.out]; rfl, Hfin.out⟩
    · have e1 := empty_test (s := bs o) (by rw [bs_list]; exact ho0)
      have e2 : ¬ (bs o).toList = [] := by rw [ByteArray.toList_eq, bs_list]; exact ho0
      have hsz := bs_size o
      by_cases h6 : 60 < o.length
      · have hr : bs R = path := by rw [hdf, fin, if_neg ho0, fit, if_pos h6, bs_of]
        generalize bs o = O at *
        rw [← hsz] at h6
        have Hfin := Lib.hid hfin
        have HO6 := Lib.hid hO6
        have Hdf := Lib.hid hdf
        have Hr := Lib.hid hr
        have Hg1 := Lib.hid hg1
        have Hg2 := Lib.hid hg2
        have Hg3 := Lib.hid hg3
        have Hf7 := Lib.hid hf7
        have Ho0 := Lib.hid ho0
        have Hsz := Lib.hid hsz
        clear hfin hO6 hdf hr hg1 hg2 hg3 hf7 ho0 hsz
        go_wp2_with fail
        go_ret
        exact ⟨by rw [Hr.out]; rfl, Hfin.out⟩
      · have hr : bs R = bs o := by rw [hdf, fin, if_neg ho0, fit, if_neg h6]
        generalize bs o = O at *
        rw [← hsz] at h6
        have Hfin := Lib.hid hfin
        have HO6 := Lib.hid hO6
        have Hdf := Lib.hid hdf
        have Hr := Lib.hid hr
        have Hg1 := Lib.hid hg1
        have Hg2 := Lib.hid hg2
        have Hg3 := Lib.hid hg3
        have Hf7 := Lib.hid hf7
        have Ho0 := Lib.hid ho0
        have Hsz := Lib.hid hsz
        clear hfin hO6 hdf hr hg1 hg2 hg3 hf7 ho0 hsz
        go_wp2_with fail
        go_ret
        exact ⟨by rw [Hr.out]; rfl, Hfin.out⟩
  · rw [if_pos rfl] at hdef
    have hr : bs R = pfx := by rw [hdef, bs_of]
    rw [hr]
    unfold ruleV ruleC at *
    have H0 := Lib.hid h0
    have Hpar := Lib.hid hpar
    have Hmpl := Lib.hid hmpl
    have Hmpe := Lib.hid hmpe
    have Hdef := Lib.hid hdef
    have Hpl1 := Lib.hid hpl1
    have Hpl2 := Lib.hid hpl2
    have Hpl3 := Lib.hid hpl3
    have Hblen := Lib.hid hblen
    have HB0 := Lib.hid hB0
    have Hfa := Lib.hid fa
    have Hm := Lib.hid hm
    have Hm0 := Lib.hid hm0
    have Hpa := Lib.hid hpa
    have Hpm := Lib.hid hpm
    have Hpp := Lib.hid hpp
    have Hpq := Lib.hid hpq
    have Hon := Lib.hid hon
    have Hr := Lib.hid hr
    have Honb := Lib.hid honb
    clear h0 hpar hmpl hmpe hdef hpl1 hpl2 hpl3 hblen hB0 fa hm hm0 hpa hpm hpp hpq hon hr honb
    go_enter Tryd.func13, Tryd.ntmps13
    go_wp2_with fail
    refine (Hon.out _ Hm0.out).mono ?_
    rintro e x1 ⟨rfl, hf1⟩
    have hB1 := HB0.out.frm hf1 (fun h => h)
    have b1 := (hB1.cell 1).trans (show _ = some (Value.bool true) from rfl)
    have b8 := (hB1.cell 8).trans (show _ = some (Value.string pfx) from rfl)
    have hf2 := Hfa.out.trans hf1
    have Hf2 := Lib.hid hf2
    have HB1 := Lib.hid hB1
    clear hf2 hB1
    clear hf1
    go_wp2_with fail
    go_ret
    exact ⟨rfl, Hf2.out⟩
end Go.Proofs.YtbeilgkogbcjjaaDoor
