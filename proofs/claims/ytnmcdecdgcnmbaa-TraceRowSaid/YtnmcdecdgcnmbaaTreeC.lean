/- Tree of the reference. -/
import Derived.Test.YtnmcdecdgcnmbaaTreeP
import Derived.Test.YtnmcdecdgcnmbaaTraceSame
import Derived.Test.YtnmcdecdgcnmbaaStrs
import Derived.Test.YtnmcdecdgcnmbaaAround
import Derived.Test.YtnmcdecdgcnmbaaDecimal
import Derived.Deep.RegionHeld3
import Derived.Deep.DeepCutAuto
import Derived.Outline
set_option linter.unusedVariables false
namespace Go.Proofs.Ytnmcdecdgcnmbaa
open Go.RowKit

/-- What a name of the tree is, made of a number: a request's, or behind one that was made. -/
structure Nxt (T : List Spn) (b : Nat) (l : List UInt8) : Prop where
  req : ∃ r, readL l = some (r, true) ∧ (r = 1 ∨ r = 2)
  up : upL l = [] ∨ ∃ y ∈ T, nm y = upL l
  len : l.length ≤ b
structure TreeRel (w wr : World) (k : Nat) (o m : Value) (T : List Spn) : Prop where
  out : Own spnE wr w.heap.size 35 o T
  made : Own strE wr w.heap.size 9 m (T.map (·.name))
  apart : ∀ j, o.ownBlock = some j → m.ownBlock ≠ some j
  ok : TreeOk T
  len : T.length ≤ k
  small : ∀ x ∈ T, (nm x).length ≤ 3 + 4 * k
  frm : Frm noB w wr
theorem up_nil {l : List UInt8} (h : 47 ∉ l) : upL l = [] := by
  unfold upL
  rw [lastN_zero.2 h]; rfl
theorem up_slash (x y : List UInt8) (h : 47 ∉ y) : upL (x ++ 47 :: y) = x := by
  unfold upL
  rw [lastN_app 47 x y h]; simp
theorem dec_no47 {v : Int} (h0 : 0 ≤ v) (h9 : v ≤ 9) : 47 ∉ decL v := by
  rw [decL_small h0 (by omega)]
  have : v = 0 ∨ v = 1 ∨ v = 2 ∨ v = 3 ∨ v = 4 ∨ v = 5 ∨ v = 6 ∨ v = 7 ∨ v = 8 ∨ v = 9 := by omega
  rcases this with rfl | rfl | rfl | rfl | rfl | rfl | rfl | rfl | rfl | rfl <;> decide
theorem nxt_root (T : List Spn) {a b : Int} (ha : 1 ≤ a) (ha2 : a ≤ 2) (hb : 1 ≤ b) (hb9 : b ≤ 9) (k : Nat) : Nxt T (3 + 4 * k) (decL a ++ 58 :: decL b) := by
  obtain ⟨h1, h2, h3⟩ := dec_small 1 a (by omega) (by omega) (.inr rfl) ha
  obtain ⟨g1, g2, g3⟩ := dec_small 1 b (by omega) hb9 (.inr rfl) hb
  have hr := readL_colon (readL_dec h1) g1
  rw [h2] at hr
  refine ⟨⟨a, hr, by omega⟩, .inl (up_nil ?_), by simp [h3, g3]⟩
  have e1 := dec_no47 (v := a) (by omega) (by omega)
  have e2 := dec_no47 (v := b) (by omega) (by omega)
  simp [e1, e2]
theorem nxt_kid {T : List Spn} {x : Spn} {k : Nat} (hT : TreeOk T) (hx : x ∈ T) (hl : (nm x).length ≤ 3 + 4 * k) {a b : Int} (ha : 0 ≤ a) (ha9 : a ≤ 9) (hb : 1 ≤ b) (hb9 : b ≤ 9) : Nxt T (3 + 4 * (k + 1)) (nm x ++ 47 :: (decL a ++ 58 :: decL b)) := by
  obtain ⟨h1, h2, h3⟩ := dec_small 0 a ha ha9 (.inl rfl) ha
  obtain ⟨g1, g2, g3⟩ := dec_small 1 b (by omega) hb9 (.inr rfl) hb
  obtain ⟨r, hr, h12⟩ := hT.req x hx
  have hr2 := readL_colon (readL_slash hr h1) g1
  have e1 := dec_no47 ha ha9
  have e2 := dec_no47 (v := b) (by omega) hb9
  refine ⟨⟨r, by simpa using hr2, h12⟩, .inr ⟨x, hx, ?_⟩, by simp [h3, g3]; omega⟩
  rw [up_slash _ _ (by simp [e1, e2])]
theorem TreeRel.keep {w wr wx : World} {k : Nat} {o m : Value} {T : List Spn} (h : TreeRel w wr k o m T) (f : Frm noB wr wx) : TreeRel w wx k o m T :=
  ⟨h.out.keep f, h.made.keep f, h.apart, h.ok, h.len, h.small, h.frm.trans f⟩
theorem hasT_names (T : List Spn) (l : List UInt8) : hasT (T.map (·.name)) (bs l) = true ↔ ∃ y ∈ T, nm y = l := by
  unfold hasT
  rw [List.any_map, List.any_eq_true]
  refine exists_congr fun y => and_congr_right fun _ => ?_
  simp only [Function.comp_apply, decide_eq_true_eq]
  exact ⟨fun h => by unfold nm; rw [h]; rfl, fun h => by rw [← h]; exact (bs_of _).symm⟩

theorem tree_nums (q m : Nat) (hq : (q : Int) < 100000) (hm : 0 < m) : ∃ (j : Nat) (p v3 v4 p3 p4 v5 : Int), j < m ∧ 0 ≤ v3 ∧ v3 ≤ 2 ∧ 1 ≤ v4 ∧ v4 ≤ 2 ∧
    IntKind.i64.wrap ((q : Int) / 24) = p ∧ p.tmod (m : Int) = (j : Int) ∧ IntKind.i64.wrap ((q : Int) / 100) = p3 ∧ p3.tmod 3 = v3 ∧ IntKind.i64.wrap ((q : Int) / 300) = p4 ∧ p4.tmod 2 = v5 ∧ IntKind.i64.wrap (1 + v5) = v4 := by
  have hd : ∀ k : Int, 0 < k → (q : Int).tdiv k = (q : Int) / k := fun k _ => Int.tdiv_eq_ediv_of_nonneg (by omega)
  refine ⟨q / 24 % m, (q : Int) / 24, (q : Int) / 100 % 3, 1 + (q : Int) / 300 % 2, (q : Int) / 100, (q : Int) / 300, (q : Int) / 300 % 2, Nat.mod_lt _ hm, by omega, by omega, by omega, by omega, ?_, ?_, ?_, ?_, ?_, ?_, ?_⟩
  · exact IntWalk.i64_in _ (by omega)
  · rw [Int.tmod_eq_emod_of_nonneg (by omega)]; simp
  · exact IntWalk.i64_in _ (by omega)
  · rw [Int.tmod_eq_emod_of_nonneg (by omega)]
  · exact IntWalk.i64_in _ (by omega)
  · rw [Int.tmod_eq_emod_of_nonneg (by omega)]
  · exact IntWalk.i64_in _ (by omega)

theorem TreeRel.grow {w wr x1 x2 : World} {k : Nat} {o m o2 m2 : Value} {T : List Spn} {x : Spn} (h : TreeRel w wr k o m T) (hm2 : Own strE x1 w.heap.size 9 m2 (T.map (·.name) ++ [x.name])) (hfm : Frm (fun i => some i = m.ownBlock) wr x1)
    (hatm : m2.ownBlock = m.ownBlock ∨ ∃ g, m2.ownBlock = some g ∧ wr.heap.size < g ∧ g < x1.heap.size) (ho : Own spnE x2 w.heap.size 35 o2 (T ++ [x])) (hfo : Frm (fun i => some i = o.ownBlock) x1 x2)
    (hato : o2.ownBlock = o.ownBlock ∨ ∃ g, o2.ownBlock = some g ∧ x1.heap.size < g ∧ g < x2.heap.size) (hg : Good T x) (hl : (nm x).length ≤ 3 + 4 * (k + 1)) : TreeRel w x2 (k + 1) o2 m2 (T ++ [x]) := by
  have z1 := hfm.size
  have z2 := hfo.size
  have z0 := h.frm.size
  have mO : ∀ j, m2.ownBlock = some j → o.ownBlock ≠ some j := fun j hj hk => by
    rcases hatm with e | ⟨g, hg, h1, h2⟩
    · exact h.apart j hk (by rw [← e]; exact hj)
    · rw [hg] at hj; simp at hj; subst hj
      have := (h.out.lt _ hk).2; omega
  refine ⟨ho, ?_, ?_, .snoc h.ok hg, ?_, ?_, ?_⟩
  · rw [List.map_append]
    exact hm2.frm hfo (fun b hb hh => mO b hb hh.symm)
  · intro j hj hk
    rcases hato with e | ⟨g, hg, h1, h2⟩
    · exact mO j hk (by rw [← e]; exact hj)
    · rw [hg] at hj; simp at hj; subst hj
      have := (hm2.lt _ hk).2; omega
  · have := h.len; simp; omega
  · intro y hy
    rcases List.mem_append.1 hy with hy | hy
    · have := h.small y hy; omega
    · simp at hy; subst hy; exact hl
  · exact (h.frm.new hfm (fun i hi hh => by have := (h.made.lt i hh.symm).1; omega)).new hfo (fun i hi hh => by have := (h.out.lt i hh.symm).1; omega)

set_option maxRecDepth 100000 in
set_option maxHeartbeats 4000000 in
theorem tree_any (a0 : Option Addr) (n c : Nat) (w : World) (h0 : IntsIn w a0 n) :
    Calls Try.prog 20 #[.slice a0 n c] w fun e w' => ∃ v T, e = .returned v ∧ Own spnE w' w.heap.size 35 v T ∧ TreeOk T ∧ T.length ≤ 16 ∧ (∀ x ∈ T, (nm x).length ≤ 100) ∧ Frm noB w w' := by
  have hn := h0.1
  have H0 := Lib.hid h0
  clear h0
  go_enter Try.func20, Try.ntmps20
  go_wp2_with fail
  go_loopw [3, 4, 5] (fun o m i wr => ∃ (k : Nat) (T : List Spn), k ≤ n ∧ k ≤ 16 ∧ i = .int .i64 k ∧ TreeRel w wr k o m T) (fun _ _ i _ => n - (intOf i).toNat)
  case atStart => exact ⟨0, [], by omega, by omega, rfl, ⟨Own.nil _ _ _ _, Own.nil _ _ _ _, by simp [Value.ownBlock], .nil, Nat.le_refl _, by simp, Frm.refl _ _⟩⟩
  case round =>
    obtain ⟨k, T, hk, hk16, rfl, hrel⟩ := hrel
    by_cases hgo : k < n ∧ k < 16
    · obtain ⟨hlt, hlt16⟩ := hgo
      obtain ⟨bb, off, y, rfl, ⟨hy0, hy1⟩, hc⟩ := H0.out.2 k hlt
      have c0 := cell_frm hrel.frm (fun h => h) hc
      have hbr := World.block_lt_of_cell? wr ⟨bb, off + k, none⟩ c0
      have hTk := hrel.len
      obtain ⟨oa, oc, ho, hol, _⟩ := hrel.out.shape
      obtain ⟨ma, mc, hm, hml, hmg⟩ := hrel.made.shape
      rw [List.length_map] at hm hml hmg
      obtain ⟨m, hmT⟩ : ∃ m, m = T.length := ⟨_, rfl⟩
      rw [← hmT] at hm hml hmg hTk
      subst hm
      have Hrel := Lib.hid hrel
      have Hc := Lib.hid hc
      have Hmg := Lib.hid hmg
      have HmT := Lib.hid hmT
      have Ho := Lib.hid ho
      have Hol := Lib.hid hol
      clear hrel hc hmg hmT ho hol
      go_wp2_with fail
      refine (around_any y 100000 _ hy0 hy1 (by omega) (by omega)).mono ?_
      rintro e w' ⟨rfl, rfl⟩
      have hq := around_lt y 100000 (by omega)
      generalize around y 100000 = q at *
      have hroot := nxt_root T (a := 1 + (q : Int) % 2) (b := 1 + (q : Int) / 2 % 3) (by omega) (by omega) (by omega) (by omega) k
      have hs1 : (bs (decL (1 + (q : Int) % 2))).size ≤ 1 := by rw [bs_size, (dec_small 1 (1 + (q : Int) % 2) (by omega) (by omega) (.inr rfl) (by omega)).2.2]; exact Nat.le_refl _
      have hs2 : (bs (decL (1 + (q : Int) / 2 % 3))).size ≤ 1 := by rw [bs_size, (dec_small 1 (1 + (q : Int) / 2 % 3) (by omega) (by omega) (.inr rfl) (by omega)).2.2]; exact Nat.le_refl _
      have hd1 := fun w => decimal_any (1 + (q : Int) % 2) w (by omega) (by omega)
      have hd2 := fun w => decimal_any (1 + (q : Int) / 2 % 3) w (by omega) (by omega)
      unfold DecIs at hd1 hd2
      generalize decL (1 + (q : Int) % 2) = D1 at *
      generalize decL (1 + (q : Int) / 2 % 3) = D2 at *
      have Hd1 := Lib.hid hd1
      have Hd2 := Lib.hid hd2
      have Hroot := Lib.hid hroot
      clear hd1 hd2 hroot
      go_wp2_with fail
      with_reducible refine (Hd1.out _).mono ?_
      rintro e w1 ⟨rfl, hf1⟩
      have Hf1 := Lib.hid hf1
      clear hf1
      go_wp2_with fail
      with_reducible refine (Hd2.out _).mono ?_
      rintro e w2 ⟨rfl, hf2⟩
      have hf3 := Hf1.out.trans hf2
      have hrel2 := Hrel.out.keep hf3
      have hcat : (bs D1 ++ (⟨#[58]⟩ : ByteArray)) ++ bs D2 = bs (D1 ++ 58 :: D2) := by rw [show (⟨#[58]⟩ : ByteArray) = bs [58] from rfl, bs_app, bs_app]; simp
      have Hf3 := Lib.hid hf3
      have Hrel2 := Lib.hid hrel2
      have Hcat := Lib.hid hcat
      clear hf3 hrel2 hcat
      clear hf2
      go_upto_region 8 with fail
      go_cut [42] (fun t wx => ∃ gd : Bool, t = .bool gd ∧ (gd = true → 0 < m) ∧ wx = w2)
      case first =>
        by_cases hm0 : 0 < m
        · have hm1 : decide ((0 : Int) < (m : Int)) = true := decide_eq_true (by omega)
          go_wp2_with fail
          go_meet
          exact ⟨_, rfl, fun _ => hm0, rfl⟩
        · obtain rfl : m = 0 := by omega
          go_wp2_with fail
          go_meet
          exact ⟨false, rfl, fun h => by simp at h, rfl⟩
      case rest =>
        obtain ⟨gd, rfl, hgd, hw⟩ := hcut
        subst hw
        go_upto_if 42 with fail
        go_cut [7] (fun s wx => ∃ l, s = .string (bs l) ∧ Nxt T (3 + 4 * (k + 1)) l ∧ Frm noB wr wx)
        case first =>
          cases gd
          case false =>
            go_wp2_with fail
            go_meet
            exact ⟨D1 ++ 58 :: D2, by rw [Hcat.out], ⟨Hroot.out.req, Hroot.out.up, Nat.le_trans Hroot.out.len (by omega)⟩, Hf3.out⟩
          case true =>
            have hm0 := hgd rfl
            obtain ⟨g, rfl, _, hgl⟩ := Hmg.out hm0
            obtain ⟨j, p, v3, v4, p3, p4, v5, hj, hv3, hv3', hv4, hv4', e1, e2, e3, e4, e5, e6, e7⟩ := tree_nums q m hq hm0
            obtain ⟨x, hx⟩ := get_of_lt (l := T) (j := j) (by rw [← HmT.out]; exact hj)
            have hxT := List.mem_of_getElem? hx
            have hxs := Hrel.out.small x hxT
            have hkid := nxt_kid Hrel.out.ok hxT hxs (a := v3) (b := v4) (by omega) (by omega) (by omega) (by omega)
            have hrow := Hrel.out.made.keep Hf3.out
            have d0 := str_cell hrow (j := j) (x := x.name) (by rw [List.getElem?_map, hx]; rfl)
            have hs3 : (bs (decL v3)).size ≤ 1 := by rw [bs_size, (dec_small 0 v3 (by omega) (by omega) (.inl rfl) (by omega)).2.2]; exact Nat.le_refl _
            have hs4 : (bs (decL v4)).size ≤ 1 := by rw [bs_size, (dec_small 1 v4 (by omega) (by omega) (.inr rfl) (by omega)).2.2]; exact Nat.le_refl _
            have hd3 := fun w => decimal_any v3 w (by omega) (by omega)
            have hd4 := fun w => decimal_any v4 w (by omega) (by omega)
            unfold DecIs at hd3 hd4
            have hcat2 : (((x.name ++ (⟨#[47]⟩ : ByteArray)) ++ bs (decL v3)) ++ (⟨#[58]⟩ : ByteArray)) ++ bs (decL v4) = bs (nm x ++ 47 :: (decL v3 ++ 58 :: decL v4)) := by
              rw [show (⟨#[58]⟩ : ByteArray) = bs [58] from rfl, show (⟨#[47]⟩ : ByteArray) = bs [47] from rfl, show x.name = bs (nm x) from (bs_of _).symm, bs_app, bs_app, bs_app, bs_app]; simp
            have hxn : x.name.size ≤ 100 := by rw [← ba_len]; exact Nat.le_trans hxs (by omega)
            generalize nm x ++ 47 :: (decL v3 ++ 58 :: decL v4) = l2 at *
            generalize bs (decL v3) = S3 at *
            generalize bs (decL v4) = S4 at *
            generalize x.name = xn at *
            have f1 : (9223372036854775807 < xn.size + 1) = False := eq_false (by omega)
            have f2 : (9223372036854775807 < xn.size + 1 + S3.size) = False := eq_false (by omega)
            have f3 : (9223372036854775807 < xn.size + 1 + S3.size + 1) = False := eq_false (by omega)
            have f4 : (9223372036854775807 < xn.size + 1 + S3.size + 1 + S4.size) = False := eq_false (by omega)
            have z1 : ((m : Int) == 0) = false := by simp; omega
            have z2 : ¬ m = 0 := by omega
            have i1 : (0 : Int) ≤ (j : Int) := by omega
            have i2 : (j : Int) < (m : Int) := by omega
            have fr0 := Frm.drew (Frm.refl noB wc)
            have d1 := cell_frm fr0 (fun h => h) d0
            have Hd3 := Lib.hid hd3
            have Hd4 := Lib.hid hd4
            have Hkid := Lib.hid hkid
            have Hrow := Lib.hid hrow
            have Hcat2 := Lib.hid hcat2
            have HxT := Lib.hid hxT
            have Hx := Lib.hid hx
            have Hv3 := Lib.hid hv3
            have Hv3' := Lib.hid hv3'
            have Hv4 := Lib.hid hv4
            have Hv4' := Lib.hid hv4'
            have Hfr0 := Lib.hid fr0
            clear hd3 hd4 hkid hrow hcat2 hxT hx hv3 hv3' hv4 hv4' fr0
            go_upto_region 9 with fail
            go_region_held3 (fun W => W.cell? ⟨g, j, none⟩ = some (.string xn))
              (with_reducible assumption)
              (first
                | (go_at_call 25; (with_reducible refine (Hd3.out _).mono ?_); rintro e x1 ⟨rfl, hx1⟩; have c1 : x1.cell? ⟨g, j, none⟩ = some (.string xn) := cell_frm hx1 (fun h => h) (by with_reducible assumption); have Hx1 := Lib.hid hx1; clear hx1)
                | (go_at_call 25; (with_reducible refine (Hd4.out _).mono ?_); rintro e x2 ⟨rfl, hx2⟩; have c2 : x2.cell? ⟨g, j, none⟩ = some (.string xn) := cell_frm hx2 (fun h => h) (by with_reducible assumption); have Hx2 := Lib.hid hx2; clear hx2))
            go_wp2_with fail
            go_meet
            exact ⟨l2, by rw [Hcat2.out], Hkid.out, (Hf3.out.trans (Hfr0.out.trans Hx1.out)).trans Hx2.out⟩
        case rest =>
          obtain ⟨l, rfl, hnx, hf⟩ := hcut
          have hrc := Hrel.out.keep hf
          have hrd := hrc.made.rdS
          have hl100 : l.length ≤ 100 := Nat.le_trans hnx.len (by omega)
          cases hh : hasT (T.map (·.name)) (bs l)
          case true =>
            have hr2 : TreeRel w _ (k + 1) u3 (.slice ma m mc) T := ⟨hrc.out, hrc.made, hrc.apart, hrc.ok, Nat.le_trans hrc.len (by omega), fun x hx => Nat.le_trans (hrc.small x hx) (by omega), hrc.frm⟩
            have Hrc := Lib.hid hrc
            have Hrd := Lib.hid hrd
            have Hnx := Lib.hid hnx
            have Hf := Lib.hid hf
            have Hr2 := Lib.hid hr2
            clear hrc hrd hnx hf hr2
            go_wp2_with fail
            refine (hasText_any ma m mc (T.map (·.name)) (bs l) _ Hrd.out).mono ?_
            rintro e w' ⟨rfl, rfl⟩
            rw [hh]
            have Hh := Lib.hid hh
            clear hh
            go_wp2_with fail
            go_roundw
            case rel => exact ⟨k + 1, T, by omega, by omega, by go_num, Hr2.out⟩
            case measure => simp [intOf]; omega
          case false =>
            have Hrc := Lib.hid hrc
            have Hrd := Lib.hid hrd
            have Hnx := Lib.hid hnx
            have Hf := Lib.hid hf
            clear hrc hrd hnx hf
            go_wp2_with fail
            refine (hasText_any ma m mc (T.map (·.name)) (bs l) _ Hrd.out).mono ?_
            rintro e w' ⟨rfl, rfl⟩
            rw [hh]
            have hm6 : (T.map (·.name)).length ≤ 1000000 := by rw [List.length_map]; have := Hrel.out.len; omega
            have hT6 : T.length ≤ 1000000 := by have := Hrel.out.len; omega
            have hwz := Hrc.out.frm.size
            have Hh := Lib.hid hh
            have Hm6 := Lib.hid hm6
            have HT6 := Lib.hid hT6
            have Hwz := Lib.hid hwz
            clear hh hm6 hT6 hwz
            go_wp2_with (at_builtin; refine app_str _ (by rfl) _ _ (by rfl) w.heap.size _ (T.map (·.name)) (by rfl) Hrc.out.made (bs l) _ (by rfl) _ rfl (by rfl) Hm6.out Hwz.out ?_)
            intro m2 x1 hm2 _ hfm hatm _
            have ho2 := Hrc.out.out.frm hfm (fun b hb hh => Hrc.out.apart b hb hh.symm)
            have hz2 := Nat.le_trans Hwz.out hfm.size
            have Hm2 := Lib.hid hm2
            have Hfm := Lib.hid hfm
            have Hatm := Lib.hid hatm
            have Ho2 := Lib.hid ho2
            have Hz2 := Lib.hid hz2
            clear hm2 hfm hatm ho2 hz2
            go_wp2_with (at_builtin; refine app_spn _ (by rfl) _ _ (by rfl) w.heap.size _ T (by rfl) Ho2.out ⟨bs l, 1 + (q : Int) % 4, k, (k : Int) + (q : Int) % 9, decide ((0 : Int) < (q : Int) % 5), (q : Int) % 3⟩ _ (by rfl) _ rfl (by rfl) HT6.out Hz2.out ?_)
            intro o2 x2 ho3 _ hfo hato _
            have hr2 := Hrc.out.grow Hm2.out Hfm.out Hatm.out ho3 hfo hato ⟨Hnx.out.req, fun ⟨y, hy, e⟩ => by rw [(hasT_names T l).2 ⟨y, hy, e⟩] at Hh; exact absurd Hh.out (by simp), Hnx.out.up⟩ Hnx.out.len
            have Hr2 := Lib.hid hr2
            clear hr2
            clear ho3 hfo hato
            go_wp2_with fail
            go_roundw
            case rel => exact ⟨k + 1, _, by omega, by omega, by go_num, Hr2.out⟩
            case measure => simp [intOf]; omega
    · have hend : (k < n ∧ ¬ k < 16) ∨ ¬ k < n := by omega
      have Hrel := Lib.hid hrel
      clear hrel
      rcases hend with ⟨h1, h2⟩ | h1
      all_goals
        go_wp2_with fail
        go_ret
        exact ⟨_, T, rfl, Hrel.out.out, Hrel.out.ok, Nat.le_trans Hrel.out.len hk16, fun x hx => Nat.le_trans (Hrel.out.small x hx) (by omega), Hrel.out.frm⟩
end Go.Proofs.Ytnmcdecdgcnmbaa
