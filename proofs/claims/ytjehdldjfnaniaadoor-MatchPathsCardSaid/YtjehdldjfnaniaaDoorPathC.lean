/- Paths: match.Path, begins, On; parts of rewrite; begins of the reference. -/
import Derived.Test.YtjehdldjfnaniaaDoorPathS
import Derived.Outline
set_option linter.unusedVariables false
namespace Go.Proofs.YtjehdldjfnaniaaDoor
open Go.RowKit

theorem isPath_slash : isPathL (⟨#[47]⟩ : ByteArray).data.toList = true := by decide
theorem ba_ext {a b : ByteArray} (h : a.data.toList = b.data.toList) : a = b := ByteArray.ext (Array.toList_inj.1 h)
theorem ne_slash {s : ByteArray} (h : ¬ s = ⟨#[47]⟩) : ¬ s.data.toList = [47] := fun e => h (ba_ext e)
theorem slash_test {s : ByteArray} (h : ¬ s = ⟨#[47]⟩) : (s.toList == [47]) = false := by
  rw [ByteArray.toList_eq]; exact beq_eq_false_iff_ne.2 (ne_slash h)
theorem empty_test {s : ByteArray} (h : ¬ s.data.toList = []) : s.toList.isEmpty = false := by
  rw [ByteArray.toList_eq]
  cases e : s.data.toList with
  | nil => exact absurd e h
  | cons a l => rfl
theorem pre_head (s : List UInt8) : Lib.hasPrefix s [47] = decide (s.head? = some 47) := by
  cases s with
  | nil => rfl
  | cons a l =>
    by_cases h : a = 47
    · subst h; simp [Lib.hasPrefix, List.isPrefixOf]
    · simp [Lib.hasPrefix, List.isPrefixOf, h, Ne.symm h]
theorem map_get {l : List (List UInt8)} {k : Nat} {p : List UInt8} (h : l[k]? = some p) : (l.map bs)[k]? = some (bs p) := by rw [List.getElem?_map, h]; rfl

set_option maxHeartbeats 2000000 in
theorem path_any (s : ByteArray) (w : World) (hs : s.size ≤ 1000000) (hm : MaxL w) :
    Calls Tryd.prog 21 #[.string s] w fun e w' => e = .returned (.bool (isPathL s.data.toList)) ∧ Frm noB w w' := by
  by_cases h1 : s = ⟨#[47]⟩
  · subst h1
    rw [isPath_slash]
    go_enter Tryd.func21, Tryd.ntmps21
    go_wp2_with fail
    go_ret
    exact ⟨rfl, Frm.refl _ _⟩
  have ht := slash_test h1
  have hn := ne_slash h1
  have hi : isPathL s.data.toList = (decide (s.data.toList.length ≤ 60) && (decide (s.data.toList.head? = some 47) && (cutL s.data.toList.tail).all okPart)) := by
    unfold isPathL; rw [decide_eq_false hn, Bool.false_or]
  rw [ba_len] at hi
  by_cases h2 : 60 < s.size
  · have hr : isPathL s.data.toList = false := by rw [hi, decide_eq_false (by omega)]; rfl
    rw [hr]
    have H1 := Lib.hid h1
    have Hn := Lib.hid hn
    have Hi := Lib.hid hi
    have Hr := Lib.hid hr
    clear h1 hn hi hr
    go_enter Tryd.func21, Tryd.ntmps21
    go_wp2_with fail
    go_ret
    exact ⟨rfl, Frm.refl _ _⟩
  rw [decide_eq_true (by omega), Bool.true_and] at hi
  have hpre := Tryd.strings_HasPrefix s ⟨#[47]⟩
  rw [show (⟨#[47]⟩ : ByteArray).data.toList = [47] from rfl, pre_head] at hpre
  cases h3 : decide (s.data.toList.head? = some 47)
  · rw [h3] at hpre hi
    have hr : isPathL s.data.toList = false := by rw [hi]; rfl
    rw [hr]
    have H1 := Lib.hid h1
    have Hn := Lib.hid hn
    have Hi := Lib.hid hi
    have Hr := Lib.hid hr
    have H3 := Lib.hid h3
    have Hpre := Lib.hid hpre
    clear h1 hn hi hr h3 hpre
    go_enter Tryd.func21, Tryd.ntmps21
    go_wp2_with fail
    refine (Hpre.out _).mono ?_
    rintro e w' ⟨rfl, rfl⟩
    go_wp2_with fail
    go_ret
    exact ⟨rfl, Frm.refl _ _⟩
  rw [h3] at hpre hi
  rw [Bool.true_and] at hi
  have hsz : 1 ≤ s.size := by
    rw [decide_eq_true_eq] at h3
    rw [← ba_len]
    cases e : s.data.toList with
    | nil => rw [e] at h3; simp at h3
    | cons a l => simp
  have hex : s.extract 1 s.size = bs s.data.toList.tail := by rw [ext_drop, List.drop_one]
  have htl : (bs s.data.toList.tail).size ≤ 1000000 := by rw [bs_size, List.length_tail, ba_len]; omega
  have hsp := fun w h => split_any (bs s.data.toList.tail) w htl h
  rw [bs_list] at hsp
  generalize isPathL s.data.toList = R at *
  generalize s.data.toList.tail = t at *
  have H1 := Lib.hid h1
  have Hn := Lib.hid hn
  have Hi := Lib.hid hi
  have H3 := Lib.hid h3
  have Hpre := Lib.hid hpre
  have Hex := Lib.hid hex
  have Htl := Lib.hid htl
  have Hsp := Lib.hid hsp
  have Hm := Lib.hid hm
  clear h1 hn hi h3 hpre hex htl hsp hm
  go_enter Tryd.func21, Tryd.ntmps21
  go_wp2_with fail
  refine (Hpre.out _).mono ?_
  rintro e w' ⟨rfl, rfl⟩
  go_wp2_with fail
  rw [Hex.out]
  refine (Hsp.out _ Hm.out).mono ?_
  rintro e x1 ⟨v, rfl, ho, hf⟩
  obtain ⟨a, c, rfl, hrd⟩ := ho.rd
  obtain ⟨n, hnl⟩ : ∃ n, n = ((cutL t).map bs).length := ⟨_, rfl⟩
  rw [← hnl] at hrd ⊢
  have hn63 := hrd.2.1
  have Ho := Lib.hid ho
  have Hf := Lib.hid hf
  have Hrd := Lib.hid hrd
  have Hnl := Lib.hid hnl
  clear ho hf hrd hnl
  go_wp2_with fail
  go_loopw [20] (fun i wr => ∃ k : Nat, k ≤ n ∧ i = .int .i64 k ∧ ((cutL t).take k).all okPart = true ∧ Frm noB x1 wr) (fun i _ => n - (intOf i).toNat)
  case atStart => exact ⟨0, by omega, rfl, rfl, Frm.refl _ _⟩
  case round =>
    obtain ⟨k, hk, rfl, hall, hf1⟩ := hrel
    by_cases hlt : k < n
    · obtain ⟨p, hp⟩ := get_of_lt (l := cutL t) (j := k) (by have := Hnl.out; rw [List.length_map] at this; omega)
      obtain ⟨b, off, rfl, hb, c0⟩ := str_rd (Hrd.out.keep hf1) (map_get hp)
      have hsn : ((cutL t).take (k + 1)).all okPart = okPart p := by
        rw [List.take_add_one, hp, List.all_append, hall]; simp
      have hbad : okPart p = false → R = false := fun hb => by
        rw [Hi.out, List.all_eq_false]
        exact ⟨p, List.mem_of_getElem? hp, by rw [hb]; simp⟩
      by_cases hpe : p = []
      · subst hpe
        have hr := hbad rfl
        rw [show bs [] = ⟨#[]⟩ from rfl] at c0
        have hfe := Hf.out.trans hf1
        have Hall := Lib.hid hall
        have Hp := Lib.hid hp
        have Hsn := Lib.hid hsn
        have Hbad := Lib.hid hbad
        have Hr := Lib.hid hr
        have Hfe := Lib.hid hfe
        clear hall hp hsn hbad hr hfe
        clear hf1
        go_wp2_with fail
        go_ret
        exact ⟨by rw [Hr.out]; rfl, Hfe.out⟩
      · have hok : okPart p = p.all okB := by unfold okPart; cases p with | nil => exact absurd rfl hpe | cons a l => rfl
        have hct := fun w => contains_wrong (bs p) w
        rw [bs_list] at hct
        rw [hok] at hsn hbad
        have he := empty_test (s := bs p) (by rw [bs_list]; exact hpe)
        have he2 : ¬ (bs p).toList = [] := by rw [ByteArray.toList_eq, bs_list]; exact hpe
        generalize p.all okB = q at *
        generalize bs p = P at *
        have hfe := Hf.out.trans hf1
        cases q
        · have hr := hbad rfl
          have Hall := Lib.hid hall
          have Hp := Lib.hid hp
          have Hsn := Lib.hid hsn
          have Hbad := Lib.hid hbad
          have Hr := Lib.hid hr
          have Hfe := Lib.hid hfe
          have Hpe := Lib.hid hpe
          have Hok := Lib.hid hok
          have Hct := Lib.hid hct
          have Hf1 := Lib.hid hf1
          clear hall hp hsn hbad hr hfe hpe hok hct hf1
          go_wp2_with fail
          refine (Hct.out _).mono ?_
          rintro e x2 ⟨rfl, hf2⟩
          have hfe2 := Hfe.out.trans hf2
          have Hfe2 := Lib.hid hfe2
          clear hfe2
          clear hf2
          go_wp2_with fail
          go_ret
          exact ⟨by rw [Hr.out]; rfl, Hfe2.out⟩
        · have Hall := Lib.hid hall
          have Hp := Lib.hid hp
          have Hsn := Lib.hid hsn
          have Hbad := Lib.hid hbad
          have Hfe := Lib.hid hfe
          have Hpe := Lib.hid hpe
          have Hok := Lib.hid hok
          have Hct := Lib.hid hct
          have Hf1 := Lib.hid hf1
          clear hall hp hsn hbad hfe hpe hok hct hf1
          go_wp2_with fail
          refine (Hct.out _).mono ?_
          rintro e x2 ⟨rfl, hf2⟩
          have hfe2 := Hf1.out.trans hf2
          have Hfe2 := Lib.hid hfe2
          clear hfe2
          clear hf2
          go_wp2_with fail
          go_roundw
          case rel => exact ⟨k + 1, by omega, by go_num, Hsn.out, Hfe2.out⟩
          case measure => simp [intOf]; omega
    · have hr : R = true := by
        rw [Hi.out]
        rw [List.take_of_length_le (by have := Hnl.out; rw [List.length_map] at this; omega)] at hall
        exact hall
      have hfe := Hf.out.trans hf1
      have Hall := Lib.hid hall
      have Hr := Lib.hid hr
      have Hfe := Lib.hid hfe
      clear hall hr hfe
      clear hf1
      go_wp2_with fail
      go_ret
      exact ⟨by rw [Hr.out]; rfl, Hfe.out⟩

theorem begins_slash (s : List UInt8) : beginsL s [47] = true := by unfold beginsL; simp
set_option maxHeartbeats 2000000 in
theorem begins_any (s t : ByteArray) (w : World) :
    Calls Tryd.prog 28 #[.string s, .string t] w fun e w' => e = .returned (.bool (beginsL s.data.toList t.data.toList)) ∧ w = w' := by
  by_cases h1 : t = ⟨#[47]⟩
  · subst h1
    rw [show (⟨#[47]⟩ : ByteArray).data.toList = [47] from rfl, begins_slash]
    go_enter Tryd.func28, Tryd.ntmps28
    go_wp2_with fail
    go_ret
    exact ⟨rfl, rfl⟩
  have ht := slash_test h1
  have hb : beginsL s.data.toList t.data.toList = (t.data.toList.isPrefixOf s.data.toList && (decide (s.data.toList.drop t.data.toList.length = []) || decide ((s.data.toList.drop t.data.toList.length).head? = some 47))) := by
    unfold beginsL; rw [decide_eq_false (ne_slash h1), Bool.false_or]
  have hc := fun w => Tryd.strings_CutPrefix s t w
  unfold Lib.trimPrefix Lib.hasPrefix at hc
  generalize beginsL s.data.toList t.data.toList = R at *
  cases hp : t.data.toList.isPrefixOf s.data.toList
  · rw [hp] at hb hc
    have hr : R = false := by rw [hb]; rfl
    have H1 := Lib.hid h1
    have Hb := Lib.hid hb
    have Hp := Lib.hid hp
    have Hr := Lib.hid hr
    have Hc := Lib.hid hc
    clear h1 hb hp hr hc
    go_enter Tryd.func28, Tryd.ntmps28
    go_wp2_with fail
    refine (Hc.out _).mono ?_
    rintro e w' ⟨rfl, rfl⟩
    go_wp2_with fail
    go_ret
    exact ⟨by rw [Hr.out]; rfl, rfl⟩
  · rw [hp] at hb hc
    rw [Bool.true_and] at hb
    simp only [if_true] at hc
    generalize s.data.toList.drop t.data.toList.length = D at *
    cases D with
    | nil =>
      have hr : R = true := by rw [hb]; rfl
      have H1 := Lib.hid h1
      have Hb := Lib.hid hb
      have Hp := Lib.hid hp
      have Hr := Lib.hid hr
      have Hc := Lib.hid hc
      clear h1 hb hp hr hc
      go_enter Tryd.func28, Tryd.ntmps28
      go_wp2_with fail
      refine (Hc.out _).mono ?_
      rintro e w' ⟨rfl, rfl⟩
      go_wp2_with fail
      go_ret
      exact ⟨by rw [Hr.out]; rfl, rfl⟩
    | cons x l =>
      have hr : R = decide (x = 47) := by rw [hb]; simp
      have hz : 0 < (⟨(x :: l).toArray⟩ : ByteArray).size := by simp [ByteArray.size]
      have hx : ∀ h, (⟨(x :: l).toArray⟩ : ByteArray)[0]'h = x := fun h => rfl
      have he := empty_test (s := ⟨(x :: l).toArray⟩) (by simp)
      generalize (⟨(x :: l).toArray⟩ : ByteArray) = D at *
      have hx0 := hx hz
      by_cases h47 : x = 47
      · have h47b : ((x.toNat : Int) == 47) = true := by subst h47; rfl
        rw [decide_eq_true h47] at hr
        rw [← hx0] at h47b
        have H1 := Lib.hid h1
        have Hb := Lib.hid hb
        have Hp := Lib.hid hp
        have Hr := Lib.hid hr
        have Hc := Lib.hid hc
        have Hx := Lib.hid hx
        have H47 := Lib.hid h47
        have Hx0 := Lib.hid hx0
        clear h1 hb hp hr hc hx h47 hx0
        go_enter Tryd.func28, Tryd.ntmps28
        go_wp2_with fail
        refine (Hc.out _).mono ?_
        rintro e w' ⟨rfl, rfl⟩
        go_wp2_with fail
        go_ret
        exact ⟨by rw [Hr.out]; rfl, rfl⟩
      · have h47b : ((x.toNat : Int) == 47) = false := beq_eq_false_iff_ne.2 (fun e => h47 (by apply UInt8.toNat_inj.1; simp; omega))
        rw [decide_eq_false h47] at hr
        rw [← hx0] at h47b
        have H1 := Lib.hid h1
        have Hb := Lib.hid hb
        have Hp := Lib.hid hp
        have Hr := Lib.hid hr
        have Hc := Lib.hid hc
        have Hx := Lib.hid hx
        have H47 := Lib.hid h47
        have Hx0 := Lib.hid hx0
        clear h1 hb hp hr hc hx h47 hx0
        go_enter Tryd.func28, Tryd.ntmps28
        go_wp2_with fail
        refine (Hc.out _).mono ?_
        rintro e w' ⟨rfl, rfl⟩
        go_wp2_with fail
        go_ret
        exact ⟨by rw [Hr.out]; rfl, rfl⟩

def onL (mp : ByteArray) (ex : Bool) (path : ByteArray) : Bool := isPathL path.data.toList && (if ex then decide (mp = path) else beginsL path.data.toList mp.data.toList)
set_option maxHeartbeats 2000000 in
theorem on_any (mp : ByteArray) (ex : Bool) (ha : Option Addr) (hn hc : Nat) (path : ByteArray) (w : World) (hs : path.size ≤ 1000000) (hm : MaxL w) :
    Calls Tryd.prog 13 #[.agg #[.string mp, .bool ex, .slice ha hn hc], .string path] w fun e w' => e = .returned (.bool (onL mp ex path)) ∧ Frm noB w w' := by
  have hB := Blk.made w #[.string mp, .bool ex, .slice ha hn hc] 25
  have fa := (Frm.refl noB w).alloc (.cells #[.string mp, .bool ex, .slice ha hn hc] 25)
  have hm1 := hm.keep fa
  have hp := fun w => path_any path w hs
  have hon : onL mp ex path = (isPathL path.data.toList && (if ex then decide (mp = path) else beginsL path.data.toList mp.data.toList)) := rfl
  have hbg := fun w => begins_any path mp w
  generalize onL mp ex path = R at *
  generalize beginsL path.data.toList mp.data.toList = bg at *
  cases hi : isPathL path.data.toList
  · rw [hi] at hp hon
    have hr : R = false := by rw [hon]; rfl
    have HB := Lib.hid hB
    have Hfa := Lib.hid fa
    have Hm := Lib.hid hm
    have Hm1 := Lib.hid hm1
    have Hp := Lib.hid hp
    have Hon := Lib.hid hon
    have Hbg := Lib.hid hbg
    have Hr := Lib.hid hr
    have Hi := Lib.hid hi
    clear hB fa hm hm1 hp hon hbg hr hi
    go_enter Tryd.func13, Tryd.ntmps13
    go_wp2_with fail
    with_reducible refine (Hp.out _ Hm1.out).mono ?_
    rintro e x1 ⟨rfl, hf1⟩
    have hf2 := Hfa.out.trans hf1
    have Hf2 := Lib.hid hf2
    clear hf2
    clear hf1
    go_wp2_with fail
    go_ret
    exact ⟨by rw [Hr.out]; rfl, Hf2.out⟩
  rw [hi] at hp hon
  rw [Bool.true_and] at hon
  cases ex
  · have hr : R = bg := by rw [hon]; rfl
    have HB := Lib.hid hB
    have Hfa := Lib.hid fa
    have Hm := Lib.hid hm
    have Hm1 := Lib.hid hm1
    have Hp := Lib.hid hp
    have Hon := Lib.hid hon
    have Hbg := Lib.hid hbg
    have Hr := Lib.hid hr
    have Hi := Lib.hid hi
    clear hB fa hm hm1 hp hon hbg hr hi
    go_enter Tryd.func13, Tryd.ntmps13
    go_wp2_with fail
    with_reducible refine (Hp.out _ Hm1.out).mono ?_
    rintro e x1 ⟨rfl, hf1⟩
    have hB1 := HB.out.frm hf1 (fun h => h)
    have b0 := (hB1.cell 0).trans (show _ = some (Value.string mp) from rfl)
    have b1 := (hB1.cell 1).trans (show _ = some (Value.bool false) from rfl)
    have hf2 := Hfa.out.trans hf1
    have Hf2 := Lib.hid hf2
    have HB1 := Lib.hid hB1
    clear hf2 hB1
    clear hf1
    go_wp2_with fail
    refine (Hbg.out _).mono ?_
    rintro e x2 ⟨rfl, rfl⟩
    go_wp2_with fail
    go_ret
    exact ⟨by rw [Hr.out]; rfl, Hf2.out⟩
  · by_cases hq : mp = path
    · have hst := str_yes hq
      have hr : R = true := by rw [hon]; simp [hq]
      have HB := Lib.hid hB
      have Hfa := Lib.hid fa
      have Hm := Lib.hid hm
      have Hm1 := Lib.hid hm1
      have Hp := Lib.hid hp
      have Hon := Lib.hid hon
      have Hbg := Lib.hid hbg
      have Hr := Lib.hid hr
      have Hi := Lib.hid hi
      have Hq := Lib.hid hq
      clear hB fa hm hm1 hp hon hbg hr hi hq
      go_enter Tryd.func13, Tryd.ntmps13
      go_wp2_with fail
      with_reducible refine (Hp.out _ Hm1.out).mono ?_
      rintro e x1 ⟨rfl, hf1⟩
      have hB1 := HB.out.frm hf1 (fun h => h)
      have b0 := (hB1.cell 0).trans (show _ = some (Value.string mp) from rfl)
      have b1 := (hB1.cell 1).trans (show _ = some (Value.bool true) from rfl)
      have hf2 := Hfa.out.trans hf1
      have Hf2 := Lib.hid hf2
      have HB1 := Lib.hid hB1
      clear hf2 hB1
      clear hf1
      go_wp2_with fail
      go_ret
      exact ⟨by rw [Hr.out]; rfl, Hf2.out⟩
    · have hst := str_ne hq
      have hr : R = false := by rw [hon]; simp [hq]
      have HB := Lib.hid hB
      have Hfa := Lib.hid fa
      have Hm := Lib.hid hm
      have Hm1 := Lib.hid hm1
      have Hp := Lib.hid hp
      have Hon := Lib.hid hon
      have Hbg := Lib.hid hbg
      have Hr := Lib.hid hr
      have Hi := Lib.hid hi
      have Hq := Lib.hid hq
      clear hB fa hm hm1 hp hon hbg hr hi hq
      go_enter Tryd.func13, Tryd.ntmps13
      go_wp2_with fail
      with_reducible refine (Hp.out _ Hm1.out).mono ?_
      rintro e x1 ⟨rfl, hf1⟩
      have hB1 := HB.out.frm hf1 (fun h => h)
      have b0 := (hB1.cell 0).trans (show _ = some (Value.string mp) from rfl)
      have b1 := (hB1.cell 1).trans (show _ = some (Value.bool true) from rfl)
      have hf2 := Hfa.out.trans hf1
      have Hf2 := Lib.hid hf2
      have HB1 := Lib.hid hB1
      clear hf2 hB1
      clear hf1
      go_wp2_with fail
      go_ret
      exact ⟨by rw [Hr.out]; rfl, Hf2.out⟩
end Go.Proofs.YtjehdldjfnaniaaDoor
