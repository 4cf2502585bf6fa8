/- The walk of the statement HeadsDrops. -/
import Derived.Test.YtgajlpahhfenaaaDoorHeadHV
import Derived.Test.YtgajlpahhfenaaaDoorHeadDrops
import Derived.Outline
set_option linter.unusedVariables false
namespace Go.Proofs.YtgajlpahhfenaaaDoor
open Go.RowKit

theorem hastext_sv (v : Value) (l : List ByteArray) (s : ByteArray) (w : World) (h : SV w v l) : Calls Tryd.prog 24 #[v, .string s] w fun e w' => e = .returned (.bool (hasT l s)) ∧ w = w' := by
  obtain ⟨a, c, rfl, hr⟩ := h.shape
  exact hasText_any a _ c l s w hr
theorem drop_step {L : List ByteArray} {k : Nat} {x : ByteArray} (hx : L[k]? = some x) : L.drop k = x :: L.drop (k + 1) := by
  rw [List.drop_eq_getElem_cons (get_lt hx)]; congr 1; have := get_lt hx; rw [List.getElem?_eq_getElem this] at hx; simpa using hx
theorem setAll_one (l : List Hd) (h : Hd) : setAll l [h] = setL l h := rfl
theorem HV.blk {w : World} {B : Nat} {nm vl : ByteArray} (h : Blk w B #[.string nm, .string vl] 25) : HV w (.slice (some ⟨B, 0, none⟩) 1 1) [⟨nm, vl⟩] := by
  refine ⟨0, rfl, .inr ⟨B, 1, #[.string nm, .string vl], rfl, Nat.zero_le _, h, Nat.le_refl _, by simp [maxLen], rfl, rfl⟩⟩
theorem SV.blk {w : World} {B : Nat} {s : ByteArray} (h : Blk w B #[.string s] 9) : SV w (.slice (some ⟨B, 0, none⟩) 1 1) [s] := by
  refine ⟨0, rfl, .inr ⟨B, 1, #[.string s], rfl, Nat.zero_le _, h, Nat.le_refl _, by simp [maxLen], rfl, rfl⟩⟩
theorem hd_blk0 {w : World} {B : Nat} {nm vl : ByteArray} {T : TypeId} (h : Blk w B #[.string nm, .string vl] T) : w.cell? ⟨B, 0, none⟩ = some (.string nm) := (h.cell 0).trans rfl
theorem hd_blk1 {w : World} {B : Nat} {nm vl : ByteArray} {T : TypeId} (h : Blk w B #[.string nm, .string vl] T) : w.cell? ⟨B, 1, none⟩ = some (.string vl) := (h.cell 1).trans rfl
theorem HV.shape' {w : World} {v : Value} {l : List Hd} (h : HV w v l) {n : Nat} (hn : n = l.length) : ∃ a c, v = .slice a n c := by
  subst hn
  obtain ⟨a, c, rfl, _⟩ := h.shape
  exact ⟨a, c, rfl⟩
set_option maxRecDepth 100000 in
set_option maxHeartbeats 4000000 in
theorem headsDrops_walk (a0 : Option Addr) (len0 cap0 : Nat) (z0 : List Int) (a1 : Option Addr) (len1 cap1 : Nat) (z1 : List Int) (a2 : Int) (w : World) (w0 : IsRow .i64 w a0 len0 cap0 z0) (w1 : IsRow .i64 w a1 len1 cap1 z1) (w2 : (Lit.int .i64 a2).wf = true) :
    Calls Tryd.prog 11 #[.slice a0 len0 cap0, .slice a1 len1 cap1, .int .i64 a2] w fun e w' => e = .returned (.bool true) ∧ Below w.heap.size w w' := by
  obtain ⟨xs, h0⟩ := w0.list
  obtain ⟨zs, h1⟩ := w1.list
  have b2 := wf_i64 w2
  have hg := GoodL.gen (xs.take 12)
  have hgl : (genH (xs.take 12)).length ≤ 1000 := by have := hg.len; omega
  have H0 := Lib.hid h0
  have H1 := Lib.hid h1
  have Hb2 := Lib.hid b2
  have Hg := Lib.hid hg
  have Hgl := Lib.hid hgl
  clear h0 h1 b2 hg hgl
  clear w0 w1 w2
  go_enter Tryd.func11, Tryd.ntmps11
  go_wp2_with fail
  with_reducible refine (heads_hv a0 len0 cap0 xs _ H0.out).mono ?_
  rintro e x1 ⟨va, rfl, ha, hf1⟩
  have h1' := H1.out.keep hf1
  have Ha := Lib.hid ha
  have Hf1 := Lib.hid hf1
  have H1' := Lib.hid h1'
  clear ha hf1 h1'
  go_wp2_with fail
  with_reducible refine (names_hv a1 len1 cap1 zs _ H1'.out).mono ?_
  rintro e x2 ⟨vc, rfl, hc, hf2⟩
  have ha2 := Ha.out.keep hf2
  have hf2 := Hf1.out.trans hf2
  generalize genH (xs.take 12) = L at *
  generalize namesH (zs.take 6) = N at *
  have Ha2 := Lib.hid ha2
  have Hc := Lib.hid hc
  have Hf2 := Lib.hid hf2
  clear ha2 hc hf2
  go_wp2_with fail
  with_reducible refine (drop_hv va vc L N _ Ha2.out Hgl.out Hc.out).mono ?_
  rintro e x3 ⟨vb, rfl, hb, hf3⟩
  have ha3 := Ha2.out.keep hf3
  have hc3 := Hc.out.keep hf3
  have hf3 := Hf2.out.trans hf3
  obtain ⟨ca, cc, rfl, hcr⟩ := hc3.shape
  obtain ⟨m, hm⟩ : ∃ m, m = N.length := ⟨_, rfl⟩
  rw [← hm] at hcr hc3 ⊢
  have hm63 := hcr.2.1
  have Ha3 := Lib.hid ha3
  have Hc3 := Lib.hid hc3
  have Hb := Lib.hid hb
  have Hf3 := Lib.hid hf3
  have Hcr := Lib.hid hcr
  have Hm := Lib.hid hm
  clear ha3 hc3 hb hf3 hcr hm
  go_wp2_with fail
  go_loopw [10, 11] (fun o i wr => ∃ j : Nat, j ≤ m ∧ i = .int .i64 ((j : Int) - 1) ∧ HV wr o (dropL L (N.drop j)) ∧ Frm noB x3 wr) (fun _ i _ => (intOf i + 1).toNat)
  case atStart => exact ⟨m, by omega, rfl, by rw [List.drop_of_length_le (by rw [← Hm.out]; exact Nat.le_refl _), dropL_none]; exact Ha3.out, Frm.refl _ _⟩
  case round =>
    obtain ⟨j, hj, rfl, ho, hf⟩ := hrel
    by_cases hj0 : 0 < j
    · obtain ⟨k, rfl⟩ : ∃ k, j = k + 1 := ⟨j - 1, by omega⟩
      obtain ⟨s, hs⟩ := get_of_lt (l := N) (j := k) (by rw [← Hm.out]; omega)
      obtain ⟨b, off, rfl, hbl, c0⟩ := str_rd (Hcr.out.keep hf) hs
      have hdd := drop_drop L (N.drop (k + 1)) s
      rw [← drop_step hs] at hdd
      have hol : (dropL L (N.drop (k + 1))).length ≤ 1000 := by have := (Hg.out.drop (N.drop (k + 1))).len; omega
      generalize dropL L (N.drop (k + 1)) = R at *
      have e1 : (((k + 1 : Nat) : Int) - 1) = (k : Int) := by omega
      rw [e1]
      have hone := SV.one wr s
      have fa := (Frm.refl noB wr).alloc (.cells #[.string s] 9)
      have ho2 := ho.keep fa
      have hf2 := hf.trans fa
      have Ho := Lib.hid ho
      have Hf := Lib.hid hf
      have Hs := Lib.hid hs
      have Hdd := Lib.hid hdd
      have Hol := Lib.hid hol
      have He1 := Lib.hid e1
      have Hone := Lib.hid hone
      have Hfa := Lib.hid fa
      have Ho2 := Lib.hid ho2
      have Hf2 := Lib.hid hf2
      clear ho hf hs hdd hol e1 hone fa ho2 hf2
      go_wp2_with fail
      refine (drop_hv _ _ R [s] _ Ho2.out Hol.out Hone.out).mono ?_
      rintro e w3 ⟨v', rfl, ho3, hf4⟩
      rw [Hdd.out] at ho3
      have hf5 := Hf2.out.trans hf4
      have Ho3 := Lib.hid ho3
      have Hf5 := Lib.hid hf5
      clear ho3 hf5
      clear hf4
      go_wp2_with fail
      go_roundw
      case rel => exact ⟨k, by omega, rfl, Ho3.out, Hf5.out⟩
      case measure => simp [intOf]
    · obtain rfl : j = 0 := by omega
      rw [List.drop_zero] at ho
      rw [show (((0 : Nat) : Int) - 1) = -1 from rfl]
      obtain ⟨w4, hw4⟩ : ∃ W, W = wr := ⟨_, rfl⟩
      subst hw4
      have ha4 := Ha3.out.keep hf
      have hb4 := Hb.out.keep hf
      have hc4 := Hc3.out.keep hf
      have hf4 := Hf3.out.trans hf
      obtain ⟨va1, va2, rfl, hra, hcc⟩ := ha4.shape
      clear hcc
      obtain ⟨n, hn⟩ : ∃ n, n = L.length := ⟨_, rfl⟩
      rw [← hn] at hra ha4 ⊢
      have hn8 : n ≤ 8 := by have := Hg.out.len; omega
      have hgb := fun (w : World) (h : HV w vb (dropL L N)) (x : Hd) (hx : x ∈ L) => get_hv vb (dropL L N) x.name w h
      have hLx : ∀ x ∈ L, hasN L x.name = true ∧ getL L x.name = some x.val := fun x hx => ⟨(hasN_iff _ _).2 ⟨x, hx, rfl⟩, getL_of Hg.out.nd hx⟩
      have Ho := Lib.hid ho
      have Hf := Lib.hid hf
      have Ha4 := Lib.hid ha4
      have Hb4 := Lib.hid hb4
      have Hc4 := Lib.hid hc4
      have Hf4 := Lib.hid hf4
      have Hra := Lib.hid hra
      have Hn := Lib.hid hn
      have Hgb := Lib.hid hgb
      have HLx := Lib.hid hLx
      clear ho hf ha4 hb4 hc4 hf4 hra hn hgb hLx
      go_wp2_with fail
      go_loopw [12] (fun i wr => ∃ k : Nat, k ≤ n ∧ i = .int .i64 k ∧ Frm noB w4 wr) (fun i _ => n - (intOf i).toNat)
      case atStart => exact ⟨0, by omega, rfl, Frm.refl _ _⟩
      case round =>
        obtain ⟨k, hk, rfl, hf⟩ := hrel
        by_cases hlt : k < n
        · obtain ⟨x, hx⟩ := get_of_lt (l := L) (j := k) (by rw [← Hn.out]; exact hlt)
          have hrd := Hra.out.keep hf
          obtain ⟨b, off, rfl, hbl, c0, c1⟩ := hd_rd hrd hx
          have hb5 := Hb4.out.keep hf
          have hc5 := Hc4.out.keep hf
          obtain ⟨hL1, hL2⟩ := HLx.out x (List.mem_of_getElem? hx)
          have hgx := fun w h => Hgb.out w h x (List.mem_of_getElem? hx)
          rw [hasN_drop, getL_drop, hL1, hL2] at hgx
          have t1 : (x.val.toList == x.val.toList) = true := by simp
          have t2 : (!(x.val.toList == x.val.toList)) = false := by simp
          cases hT : hasT N x.name
          all_goals
            rw [hT] at hgx
            simp only [Bool.not_true, Bool.not_false, Bool.and_true, if_true, if_false, Bool.false_eq_true, Option.getD_some, Option.getD_none] at hgx
            have Hf := Lib.hid hf
            have Hx := Lib.hid hx
            have Hrd := Lib.hid hrd
            have Hb5 := Lib.hid hb5
            have Hc5 := Lib.hid hc5
            have HL1 := Lib.hid hL1
            have HL2 := Lib.hid hL2
            have Hgx := Lib.hid hgx
            have HT := Lib.hid hT
            clear hf hx hrd hb5 hc5 hL1 hL2 hgx hT
            go_wp2_with fail
            refine (Hgx.out _ Hb5.out).mono ?_
            rintro e y1 ⟨rfl, hg1⟩
            have hc6 := Hc5.out.keep hg1
            have hf6 := Hf.out.trans hg1
            have d0 := cell_frm hg1 (fun h => h) c0
            have d1 := cell_frm hg1 (fun h => h) c1
            clear c0 c1
            have Hc6 := Lib.hid hc6
            have Hf6 := Lib.hid hf6
            clear hc6 hf6
            clear hg1
            go_wp2_with fail
            refine (hastext_sv _ N x.name _ Hc6.out).mono ?_
            rintro e y2 ⟨rfl, rfl⟩
            rw [HT.out]
            go_wp2_with fail
            go_roundw
            case rel => exact ⟨k + 1, by omega, by go_num, Hf6.out⟩
            case measure => simp [intOf]; omega
        · obtain rfl : k = n := by omega
          obtain ⟨w5, hw5⟩ : ∃ W, W = wr := ⟨_, rfl⟩
          subst hw5
          have ha5 := Ha4.out.keep hf
          have hb5 := Hb4.out.keep hf
          have ho5 := Ho.out.keep hf
          have hf5 := Hf4.out.trans hf
          have Ha5 := Lib.hid ha5
          have Hb5 := Lib.hid hb5
          have Ho5 := Lib.hid ho5
          have Hf5 := Lib.hid hf5
          have Hf := Lib.hid hf
          clear ha5 hb5 ho5 hf5 hf
          go_wp2_with fail
          refine (one_hv a2 _ Hb2.out).mono ?_
          rintro e x6 ⟨rfl, hf6⟩
          have ha6 := Ha5.out.keep hf6
          have hb6 := Hb5.out.keep hf6
          have ho6 := Ho5.out.keep hf6
          have hf6 := Hf5.out.trans hf6
          have hgs := Hg.out.set a2
          generalize oneZ a2 = h at *
          obtain ⟨nm, vl⟩ := h
          simp only at *
          have hbx := Blk.made x6 #[.string nm, .string vl] 25
          have fa := (Frm.refl noB x6).alloc (.cells #[.string nm, .string vl] 25)
          have ha6 := ha6.keep fa
          have hb6 := hb6.keep fa
          have ho6 := ho6.keep fa
          have hf6 := hf6.trans fa
          have b0 := (hbx.cell 0).trans (show _ = some (Value.string nm) from rfl)
          have b1 := (hbx.cell 1).trans (show _ = some (Value.string vl) from rfl)
          have bl := hbx.lt
          have hsd := set_drop L ⟨nm, vl⟩
          simp only at hsd
          have Ha6 := Lib.hid ha6
          have Hb6 := Lib.hid hb6
          have Ho6 := Lib.hid ho6
          have Hf6 := Lib.hid hf6
          have Hbx := Lib.hid hbx
          have Hfa := Lib.hid fa
          have Hgs := Lib.hid hgs
          have Hsd := Lib.hid hsd
          clear ha6 hb6 ho6 hf6 hbx fa hgs hsd
          go_upto_region 16 with fail
          generalize x6.alloc (.cells #[.string nm, .string vl] 25) = wq at *
          have hbq := Hbx.out
          have haq := Ha6.out
          have hbb := Hb6.out
          have hoq := Ho6.out
          generalize x6.heap.size = B at *
          clear Hbx Ha6 Hb6 Ho6 Hfa Hf Hf5 Hf4 Ha4 Hb4 Ho Hra b0 b1 bl
          have hgd := Hg.out.drop N
          have hgl := Hgl.out
          have hnd := Hg.out.nd
          have hgs1 : (setL L ⟨nm, vl⟩).length ≤ 1000 := by have := Hgs.out.len; omega
          have hf6 := Hf6.out
          go_region_held3 (fun W => W.cell? ⟨B, 0, none⟩ = some (.string nm) ∧ W.cell? ⟨B, 1, none⟩ = some (.string vl))
            (refine ⟨hd_blk0 (nm := nm) (vl := vl) (T := 25) ?_, hd_blk1 (nm := nm) (vl := vl) (T := 25) ?_⟩ <;> (repeat (first | assumption | ((with_reducible refine blk_new _ _ _ ?_); (first | (with_reducible rfl) | (simp; done))) | (with_reducible refine Blk.drew ?_) | (with_reducible refine Blk.alloc ?_ _) | (with_reducible refine Blk.frm ?_ (by assumption) (fun h => h)))))
            (first
              | (go_at_call 22; (with_reducible refine (row_hv _ _ (dropL L N) (dropL L N) _ ?_ ?_).mono ?_); (focus ((with_reducible refine HV.keep (by assumption) ?_); (repeat (first | (with_reducible exact Frm.refl _ _) | assumption | (with_reducible refine Frm.alloc ?_ _) | (with_reducible refine Frm.drew ?_) | (with_reducible refine Frm.trans ?_ (by assumption)))))); (focus ((with_reducible refine HV.keep (by assumption) ?_); (repeat (first | (with_reducible exact Frm.refl _ _) | assumption | (with_reducible refine Frm.alloc ?_ _) | (with_reducible refine Frm.drew ?_) | (with_reducible refine Frm.trans ?_ (by assumption)))))); rintro e y1 ⟨rfl, hg1⟩; rw [rowB_self])
              | (go_at_call 22; (with_reducible refine (row_hv _ _ (dropL L [nm]) (dropL L [nm]) _ ?_ ?_).mono ?_); (focus ((with_reducible refine HV.keep (by assumption) ?_); (repeat (first | (with_reducible exact Frm.refl _ _) | assumption | (with_reducible refine Frm.alloc ?_ _) | (with_reducible refine Frm.drew ?_) | (with_reducible refine Frm.trans ?_ (by assumption)))))); (focus ((with_reducible refine HV.keep (by assumption) ?_); (repeat (first | (with_reducible exact Frm.refl _ _) | assumption | (with_reducible refine Frm.alloc ?_ _) | (with_reducible refine Frm.drew ?_) | (with_reducible refine Frm.trans ?_ (by assumption)))))); rintro e y1 ⟨rfl, hg1⟩; rw [rowB_self])
              | (go_at_call 15; (with_reducible refine (check_hv _ (dropL L N) _ ?_ hgd).mono ?_); (focus ((with_reducible refine HV.keep (by assumption) ?_); (repeat (first | (with_reducible exact Frm.refl _ _) | assumption | (with_reducible refine Frm.alloc ?_ _) | (with_reducible refine Frm.drew ?_) | (with_reducible refine Frm.trans ?_ (by assumption)))))); rintro e y2 ⟨rfl, hg2⟩)
              | (go_at_call 20; (with_reducible refine (set_hv _ _ L [⟨nm, vl⟩] _ ?_ hgl hnd ?_).mono ?_); (focus ((with_reducible refine HV.keep (by assumption) ?_); (repeat (first | (with_reducible exact Frm.refl _ _) | assumption | (with_reducible refine Frm.alloc ?_ _) | (with_reducible refine Frm.drew ?_) | (with_reducible refine Frm.trans ?_ (by assumption)))))); (focus ((with_reducible refine HV.blk ?_); (repeat (first | assumption | ((with_reducible refine blk_new _ _ _ ?_); (first | (with_reducible rfl) | (simp; done))) | (with_reducible refine Blk.drew ?_) | (with_reducible refine Blk.alloc ?_ _) | (with_reducible refine Blk.frm ?_ (by assumption) (fun h => h)))))); rintro e y3 ⟨v3, rfl, hv3, hg3⟩; rw [setAll_one] at hv3)
              | (go_at_call 26; (with_reducible refine (drop_hv _ _ (setL L ⟨nm, vl⟩) [nm] _ ?_ hgs1 ?_).mono ?_); (focus ((with_reducible refine HV.keep (by assumption) ?_); (repeat (first | (with_reducible exact Frm.refl _ _) | assumption | (with_reducible refine Frm.alloc ?_ _) | (with_reducible refine Frm.drew ?_) | (with_reducible refine Frm.trans ?_ (by assumption)))))); (focus ((with_reducible refine SV.blk ?_); (repeat (first | assumption | ((with_reducible refine blk_new _ _ _ ?_); (first | (with_reducible rfl) | (simp; done))) | (with_reducible refine Blk.drew ?_) | (with_reducible refine Blk.alloc ?_ _) | (with_reducible refine Blk.frm ?_ (by assumption) (fun h => h)))))); rintro e y4 ⟨v4, rfl, hv4, hg4⟩; rw [Hsd.out] at hv4)
              | (go_at_call 26; (with_reducible refine (drop_hv _ _ (L) [nm] _ ?_ hgl ?_).mono ?_); (focus ((with_reducible refine HV.keep (by assumption) ?_); (repeat (first | (with_reducible exact Frm.refl _ _) | assumption | (with_reducible refine Frm.alloc ?_ _) | (with_reducible refine Frm.drew ?_) | (with_reducible refine Frm.trans ?_ (by assumption)))))); (focus ((with_reducible refine SV.blk ?_); (repeat (first | assumption | ((with_reducible refine blk_new _ _ _ ?_); (first | (with_reducible rfl) | (simp; done))) | (with_reducible refine Blk.drew ?_) | (with_reducible refine Blk.alloc ?_ _) | (with_reducible refine Blk.frm ?_ (by assumption) (fun h => h)))))); rintro e y4 ⟨v4, rfl, hv4, hg4⟩; skip)
              | (go_at_call 26; (with_reducible refine (drop_hv _ _ (L) [] _ ?_ hgl ?_).mono ?_); (focus ((with_reducible refine HV.keep (by assumption) ?_); (repeat (first | (with_reducible exact Frm.refl _ _) | assumption | (with_reducible refine Frm.alloc ?_ _) | (with_reducible refine Frm.drew ?_) | (with_reducible refine Frm.trans ?_ (by assumption)))))); (focus (exact SV.nil _)); rintro e y4 ⟨v4, rfl, hv4, hg4⟩; rw [dropL_none] at hv4; obtain ⟨v4a, v4c, rfl⟩ := hv4.shape' Hn.out)
              | (go_at_call 17; (with_reducible refine (hlives_any _).mono ?_); rintro e y5 ⟨rfl, hg5⟩))
          all_goals
            go_wp2_with fail
            go_ret
            refine ⟨rfl, Frm.below (S := noB) ?_ (Nat.le_refl _) (fun _ _ h => h)⟩
            (repeat (first | (with_reducible exact Frm.refl _ _) | assumption | (with_reducible refine Frm.alloc ?_ _) | (with_reducible refine Frm.drew ?_) | (with_reducible refine Frm.trans ?_ (by assumption))))
end Go.Proofs.YtgajlpahhfenaaaDoor
