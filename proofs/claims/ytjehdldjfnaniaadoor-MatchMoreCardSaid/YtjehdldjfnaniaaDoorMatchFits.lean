/- Fits of matches (layer 5). -/
import Derived.Test.YtjehdldjfnaniaaDoorMatchGen
import Derived.Test.YtjehdldjfnaniaaDoorHeadSame
import Derived.Outline
set_option linter.unusedVariables false
set_option linter.unusedSimpArgs false
namespace Go.Proofs.YtjehdldjfnaniaaDoor
open Go.RowKit

/-- Has a request what is asked? -/
def fitH (l : List Hd) (h : Hd) : Bool := hasN l h.name && (decide (h.val = ⟨#[]⟩) || decide (h.val = (getL l h.name).getD ⟨#[]⟩))
def fitsB (mp : ByteArray) (ex : Bool) (HS : List Hd) (path : ByteArray) (l : List Hd) : Bool := onL mp ex path && HS.all (fitH l)
theorem all_snoc' {α : Type} {f : α → Bool} {l : List α} {k : Nat} {x : α} (hx : l[k]? = some x) (ha : (l.take k).all f = true) (h : f x = true) : (l.take (k + 1)).all f = true := by
  rw [List.take_add_one, hx, List.all_append, ha]; simp [h]
theorem all_bad {α : Type} {f : α → Bool} {l : List α} {x : α} (hx : x ∈ l) (h : f x = false) : l.all f = false := List.all_eq_false.2 ⟨x, hx, by rw [h]; simp⟩
set_option maxRecDepth 100000 in
set_option maxHeartbeats 4000000 in
theorem fits_any (mp : ByteArray) (ex : Bool) (hv : Value) (HS : List Hd) (path : ByteArray) (lv : Value) (l : List Hd) (w : World) (hh : HV w hv HS) (hl : HV w lv l) (hs : path.size ≤ 1000000) (hm : MaxL w) :
    Calls Tryd.prog 16 #[.agg #[.string mp, .bool ex, hv], .string path, lv] w fun e w' => e = .returned (.bool (fitsB mp ex HS path l)) ∧ Frm noB w w' := by
  obtain ⟨a, c, hve, hr, hc1, hc2, _⟩ := hh.shape
  obtain ⟨n, hn⟩ : ∃ n, n = HS.length := ⟨_, rfl⟩
  rw [← hn] at hve hr hc1
  subst hve
  have hn63 := hr.2.1
  have Hn := Lib.hid hn
  clear hn
  have hM := Blk.made w #[.string mp, .bool ex, .slice a n c] 25
  have fa := (Frm.refl noB w).alloc (.cells #[.string mp, .bool ex, .slice a n c] 25)
  have m0 := (hM.cell 0).trans (show _ = some (Value.string mp) from rfl)
  have hon := on_any mp ex a n c path _ hs (hm.keep fa)
  have hdef : fitsB mp ex HS path l = (onL mp ex path && HS.all (fitH l)) := rfl
  generalize fitsB mp ex HS path l = R at *
  cases ho : onL mp ex path
  · have hr0 : R = false := by rw [hdef, ho]; rfl
    rw [ho] at hon
    have Hh := Lib.hid hh
    have Hl := Lib.hid hl
    have Hr := Lib.hid hr
    have HM := Lib.hid hM
    have Hfa := Lib.hid fa
    have Hon := Lib.hid hon
    have Hdef := Lib.hid hdef
    have Ho := Lib.hid ho
    have Hr0 := Lib.hid hr0
    clear hh hl hr hM fa hon hdef ho hr0
    go_enter Tryd.func16, Tryd.ntmps16
    go_wp2_with fail
    refine Hon.out.mono ?_
    rintro e w1 ⟨rfl, hg1⟩
    have hf1 := Hfa.out.trans hg1
    have Hf1 := Lib.hid hf1
    have Hg1 := Lib.hid hg1
    clear hf1 hg1
    go_wp2_with fail
    go_ret
    exact ⟨ret_bool Hr0.out.symm, Hf1.out⟩
  rw [ho] at hon
  rw [ho, Bool.true_and] at hdef
  have Hh := Lib.hid hh
  have Hl := Lib.hid hl
  have Hr := Lib.hid hr
  have HM := Lib.hid hM
  have Hfa := Lib.hid fa
  have Hon := Lib.hid hon
  have Ho := Lib.hid ho
  have Hdef := Lib.hid hdef
  have Hm := Lib.hid hm
  clear hh hl hr hM fa hon ho hdef hm
  go_enter Tryd.func16, Tryd.ntmps16
  go_wp2_with fail
  refine Hon.out.mono ?_
  rintro e w1 ⟨rfl, hg1⟩
  have hf1 := Hfa.out.trans hg1
  have hM1 := HM.out.frm hg1 (fun h => h)
  have m2 := (hM1.cell 2).trans (show _ = some (Value.slice a n c) from rfl)
  clear m0
  have Hf1 := Lib.hid hf1
  have Hg1 := Lib.hid hg1
  have HM1 := Lib.hid hM1
  clear hf1 hg1 hM1
  go_wp2_with fail
  clear m2
  go_loopw [18] (fun i wr => ∃ k : Nat, k ≤ n ∧ i = .int .i64 k ∧ (HS.take k).all (fitH l) = true ∧ Frm noB w wr) (fun i _ => n - (intOf i).toNat)
  case atStart => exact ⟨0, by omega, rfl, rfl, Hf1.out⟩
  case round =>
    obtain ⟨k, hk, rfl, hal, hf⟩ := hrel
    by_cases hlt : k < n
    · obtain ⟨x, hx⟩ := get_of_lt (l := HS) (j := k) (by rw [← Hn.out]; exact hlt)
      have hxl := List.mem_of_getElem? hx
      obtain ⟨b1, off, rfl, hb, c0, c1⟩ := hd_rd (Hr.out.keep hf) hx
      have fa := (Frm.refl noB wr).alloc (.cells #[.string x.name, .string x.val] 36)
      have hbx := Blk.made wr #[.string x.name, .string x.val] 36
      have hl2 := (Hl.out.keep hf).keep fa
      have hfa := hf.trans fa
      have hget := fun w h => get_hv lv l x.name w h
      have hfx : fitH l x = (hasN l x.name && (decide (x.val = ⟨#[]⟩) || decide (x.val = (getL l x.name).getD ⟨#[]⟩))) := rfl
      generalize (getL l x.name).getD ⟨#[]⟩ = gv at *
      cases hhn : hasN l x.name
      · rw [hhn] at hget hfx
        have hr0 : R = false := by rw [Hdef.out]; exact all_bad hxl (by rw [hfx]; rfl)
        have Hal := Lib.hid hal
        have Hf := Lib.hid hf
        have Hx := Lib.hid hx
        have Hxl := Lib.hid hxl
        have Hfa := Lib.hid fa
        have Hbx := Lib.hid hbx
        have Hl2 := Lib.hid hl2
        have Hfa := Lib.hid hfa
        have Hget := Lib.hid hget
        have Hfx := Lib.hid hfx
        have Hhn := Lib.hid hhn
        have Hr0 := Lib.hid hr0
        clear hal hf hx hxl fa hbx hl2 hfa hget hfx hhn hr0
        go_wp2_with fail
        refine (Hget.out _ Hl2.out).mono ?_
        rintro e w2 ⟨rfl, hg2⟩
        have hf2 := Hfa.out.trans hg2
        have Hf2 := Lib.hid hf2
        have Hg2 := Lib.hid hg2
        clear hf2 hg2
        go_wp2_with fail
        go_ret
        exact ⟨ret_bool Hr0.out.symm, Hf2.out⟩
      · rw [hhn, Bool.true_and] at hfx
        rw [hhn] at hget
        by_cases hv0 : x.val = ⟨#[]⟩
        · have hnx := all_snoc' hx hal (by rw [hfx, decide_eq_true hv0]; rfl)
          have t1 : x.val.toList.isEmpty = true := empty_yes (by rw [hv0])
          have t2 : x.val.toList = [] := by rw [ByteArray.toList_eq, hv0]
          have Hal := Lib.hid hal
          have Hf := Lib.hid hf
          have Hx := Lib.hid hx
          have Hxl := Lib.hid hxl
          have Hfa := Lib.hid fa
          have Hbx := Lib.hid hbx
          have Hl2 := Lib.hid hl2
          have Hfa := Lib.hid hfa
          have Hget := Lib.hid hget
          have Hfx := Lib.hid hfx
          have Hhn := Lib.hid hhn
          have Hv0 := Lib.hid hv0
          have Hnx := Lib.hid hnx
          clear hal hf hx hxl fa hbx hl2 hfa hget hfx hhn hv0 hnx
          go_wp2_with fail
          refine (Hget.out _ Hl2.out).mono ?_
          rintro e w2 ⟨rfl, hg2⟩
          have hf2 := Hfa.out.trans hg2
          have hbx2 := Hbx.out.frm hg2 (fun h => h)
          have b1 := (hbx2.cell 1).trans (show _ = some (Value.string x.val) from rfl)
          have Hf2 := Lib.hid hf2
          have Hbx2 := Lib.hid hbx2
          have Hg2 := Lib.hid hg2
          clear hf2 hbx2 hg2
          go_wp2_with fail
          go_roundw
          case rel => exact ⟨k + 1, by omega, by go_num, Hnx.out, Hf2.out⟩
          case measure => simp [intOf]; omega
        · have hve : ¬ x.val.data.toList = [] := fun e => hv0 (ba_ext e)
          have t1 := empty_test hve
          have t2 : ¬ x.val.toList = [] := by rw [ByteArray.toList_eq]; exact hve
          rw [decide_eq_false hv0, Bool.false_or] at hfx
          by_cases hvg : x.val = gv
          · have hnx := all_snoc' hx hal (by rw [hfx, decide_eq_true hvg])
            have t3 := str_yes hvg
            have Hal := Lib.hid hal
            have Hf := Lib.hid hf
            have Hx := Lib.hid hx
            have Hxl := Lib.hid hxl
            have Hfa := Lib.hid fa
            have Hbx := Lib.hid hbx
            have Hl2 := Lib.hid hl2
            have Hfa := Lib.hid hfa
            have Hget := Lib.hid hget
            have Hfx := Lib.hid hfx
            have Hhn := Lib.hid hhn
            have Hv0 := Lib.hid hv0
            have Hnx := Lib.hid hnx
            have Hvg := Lib.hid hvg
            have Hve := Lib.hid hve
            clear hal hf hx hxl fa hbx hl2 hfa hget hfx hhn hv0 hnx hvg hve
            go_wp2_with fail
            refine (Hget.out _ Hl2.out).mono ?_
            rintro e w2 ⟨rfl, hg2⟩
            have hf2 := Hfa.out.trans hg2
            have hbx2 := Hbx.out.frm hg2 (fun h => h)
            have b1 := (hbx2.cell 1).trans (show _ = some (Value.string x.val) from rfl)
            have Hf2 := Lib.hid hf2
            have Hbx2 := Lib.hid hbx2
            have Hg2 := Lib.hid hg2
            clear hf2 hbx2 hg2
            go_wp2_with fail
            go_roundw
            case rel => exact ⟨k + 1, by omega, by go_num, Hnx.out, Hf2.out⟩
            case measure => simp [intOf]; omega
          · have hr0 : R = false := by rw [Hdef.out]; exact all_bad hxl (by rw [hfx, decide_eq_false hvg])
            have t3 := str_ne hvg
            have Hal := Lib.hid hal
            have Hf := Lib.hid hf
            have Hx := Lib.hid hx
            have Hxl := Lib.hid hxl
            have Hfa := Lib.hid fa
            have Hbx := Lib.hid hbx
            have Hl2 := Lib.hid hl2
            have Hfa := Lib.hid hfa
            have Hget := Lib.hid hget
            have Hfx := Lib.hid hfx
            have Hhn := Lib.hid hhn
            have Hv0 := Lib.hid hv0
            have Hr0 := Lib.hid hr0
            have Hvg := Lib.hid hvg
            have Hve := Lib.hid hve
            clear hal hf hx hxl fa hbx hl2 hfa hget hfx hhn hv0 hr0 hvg hve
            go_wp2_with fail
            refine (Hget.out _ Hl2.out).mono ?_
            rintro e w2 ⟨rfl, hg2⟩
            have hf2 := Hfa.out.trans hg2
            have hbx2 := Hbx.out.frm hg2 (fun h => h)
            have b1 := (hbx2.cell 1).trans (show _ = some (Value.string x.val) from rfl)
            have Hf2 := Lib.hid hf2
            have Hbx2 := Lib.hid hbx2
            have Hg2 := Lib.hid hg2
            clear hf2 hbx2 hg2
            go_wp2_with fail
            go_ret
            exact ⟨ret_bool Hr0.out.symm, Hf2.out⟩
    · have hr0 : R = true := by
        rw [List.take_of_length_le (by rw [← Hn.out]; omega)] at hal
        rw [Hdef.out]; exact hal
      have Hal := Lib.hid hal
      have Hf := Lib.hid hf
      have Hr0 := Lib.hid hr0
      clear hal hf hr0
      go_wp2_with fail
      go_ret
      exact ⟨ret_bool Hr0.out.symm, Hf.out⟩
end Go.Proofs.YtjehdldjfnaniaaDoor
