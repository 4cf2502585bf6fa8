/- Rewriting: parts, begins and IsPath of the reference, the closure put. -/
import Derived.Test.YtbeilgkogbcjjaaDoorPathC
import Derived.Test.YtbeilgkogbcjjaaDoorRewP
import Derived.Outline
set_option linter.unusedVariables false
namespace Go.Proofs.YtbeilgkogbcjjaaDoor
open Go.RowKit

set_option maxHeartbeats 1000000 in
theorem parts_any (s : ByteArray) (w : World) (hs : s.size ≤ 1000000) (hm : MaxL w) :
    Calls Tryd.prog 31 #[.string s] w fun e w' => ∃ v, e = .returned v ∧ Own strE w' w.heap.size 9 v ((partsL s.data.toList).map bs) ∧ Frm noB w w' := by
  by_cases h0 : s.data.toList = []
  · have hp : partsL s.data.toList = [] := by unfold partsL; rw [if_pos (.inl h0)]
    rw [hp]
    obtain rfl : s = ⟨#[]⟩ := ba_ext h0
    clear h0 hp
    go_enter Tryd.func31, Tryd.ntmps31
    go_wp2_with fail
    go_ret
    exact ⟨_, rfl, Own.nil _ _ _ _, Frm.refl _ _⟩
  have he := empty_test h0
  have he2 : ¬ s.toList = [] := by rw [ByteArray.toList_eq]; exact h0
  by_cases h1 : s = ⟨#[47]⟩
  · subst h1
    rw [show partsL (⟨#[47]⟩ : ByteArray).data.toList = [] from rfl]
    clear h0 he he2
    go_enter Tryd.func31, Tryd.ntmps31
    go_wp2_with fail
    go_ret
    exact ⟨_, rfl, Own.nil _ _ _ _, Frm.refl _ _⟩
  have ht := slash_test h1
  have hsz : 1 ≤ s.size := by
    rw [← ba_len]
    cases e : s.data.toList with
    | nil => exact absurd e h0
    | cons a l => simp
  have hp : partsL s.data.toList = cutL s.data.toList.tail := by unfold partsL; rw [if_neg (by rintro (h | h); exact h0 h; exact ne_slash h1 h)]
  rw [hp]
  have hex : s.extract 1 s.size = bs s.data.toList.tail := by rw [ext_drop, List.drop_one]
  have htl : (bs s.data.toList.tail).size ≤ 1000000 := by rw [bs_size, List.length_tail, ba_len]; omega
  have hsp := fun w h => split_any (bs s.data.toList.tail) w htl h
  rw [bs_list] at hsp
  generalize s.data.toList.tail = t at *
  have H0 := Lib.hid h0
  have H1 := Lib.hid h1
  have Hp := Lib.hid hp
  have Hex := Lib.hid hex
  have Htl := Lib.hid htl
  have Hsp := Lib.hid hsp
  have Hm := Lib.hid hm
  clear h0 h1 hp hex htl hsp hm
  go_enter Tryd.func31, Tryd.ntmps31
  go_wp2_with fail
  rw [Hex.out]
  refine (Hsp.out _ Hm.out).mono ?_
  rintro e x1 ⟨v, rfl, ho, hf⟩
  have Ho := Lib.hid ho
  have Hf := Lib.hid hf
  clear ho hf
  go_wp2_with fail
  go_ret
  exact ⟨_, rfl, Ho.out, Hf.out⟩

set_option maxHeartbeats 1000000 in
theorem rbegins_any (s t : ByteArray) (w : World) (hs : s.size ≤ 1000000) (ht : t.size ≤ 1000000) :
    Calls Tryd.prog 32 #[.string s, .string t] w fun e w' => e = .returned (.bool (beginsL s.data.toList t.data.toList)) ∧ w = w' := by
  by_cases h1 : t = ⟨#[47]⟩
  · subst h1
    rw [show (⟨#[47]⟩ : ByteArray).data.toList = [47] from rfl, begins_slash]
    go_enter Tryd.func32, Tryd.ntmps32
    go_wp2_with fail
    go_ret
    exact ⟨rfl, rfl⟩
  have hst := slash_test h1
  have hb : beginsL s.data.toList t.data.toList = (t.data.toList.isPrefixOf s.data.toList && (decide (s.data.toList.drop t.data.toList.length = []) || decide ((s.data.toList.drop t.data.toList.length).head? = some 47))) := by
    unfold beginsL; rw [decide_eq_false (ne_slash h1), Bool.false_or]
  rw [ba_len t] at hb
  have hpre : t.data.toList.isPrefixOf s.data.toList = true ↔ t.size ≤ s.size ∧ s.extract 0 t.size = t := by
    rw [List.isPrefixOf_iff_prefix, List.prefix_iff_eq_take, ba_len]
    constructor
    · intro h
      have hl : t.size ≤ s.size := by have := congrArg List.length h; rw [List.length_take, ba_len, ba_len] at this; omega
      exact ⟨hl, by rw [ext_take, ← h, bs_of]⟩
    · rintro ⟨_, h⟩
      rw [← bs_inj (a := t.data.toList) (b := s.data.toList.take t.size) (by rw [bs_of, ← ext_take, h])]
  generalize beginsL s.data.toList t.data.toList = R at *
  by_cases h2 : s.size < t.size
  · have hr : R = false := by
      have : t.data.toList.isPrefixOf s.data.toList = false := by rw [Bool.eq_false_iff]; intro h; have := hpre.1 h; omega
      rw [hb, this]; rfl
    have H1 := Lib.hid h1
    have Hb := Lib.hid hb
    have Hpre := Lib.hid hpre
    have Hr := Lib.hid hr
    clear h1 hb hpre hr
    go_enter Tryd.func32, Tryd.ntmps32
    go_wp2_with fail
    go_ret
    exact ⟨by rw [Hr.out]; rfl, rfl⟩
  have h2' : t.size ≤ s.size := by omega
  have i1 : (0 : Int) ≤ (t.size : Int) := by omega
  have i2 : (t.size : Int) ≤ (s.size : Int) := by omega
  by_cases h3 : s.extract 0 t.size = t
  · have hp : t.data.toList.isPrefixOf s.data.toList = true := hpre.2 ⟨h2', h3⟩
    rw [hp, Bool.true_and] at hb
    by_cases h4 : s.size = t.size
    · have hr : R = true := by rw [hb, List.drop_of_length_le (by rw [ba_len]; omega)]; rfl
      have t4 : ((s.size : Int) == (t.size : Int)) = true := by simp; omega
      have h3b : (t.toList == t.toList) = true := by simp
      have H1 := Lib.hid h1
      have Hb := Lib.hid hb
      have Hpre := Lib.hid hpre
      have Hr := Lib.hid hr
      have Hp := Lib.hid hp
      have H4 := Lib.hid h4
      have H3 := Lib.hid h3
      clear h1 hb hpre hr hp h4 h3
      go_enter Tryd.func32, Tryd.ntmps32
      go_wp2_with (rw [H3.out])
      go_ret
      exact ⟨by rw [Hr.out]; rfl, rfl⟩
    · have h5 : t.size < s.size := by omega
      have t4 : ((s.size : Int) == (t.size : Int)) = false := by simp; omega
      have h3b : (t.toList == t.toList) = true := by simp
      have hmin : min (t.size : Int) ((s.size : Int) - 1) = (t.size : Int) := by omega
      have hd : s.data.toList.drop t.size = s[t.size] :: s.data.toList.drop (t.size + 1) := by
        rw [List.drop_eq_getElem_cons (by rw [ba_len]; exact h5)]; rfl
      rw [hd] at hb
      by_cases h47 : s[t.size].toNat = 47
      · have hr : R = true := by rw [hb]; simp; exact UInt8.toNat_inj.1 h47
        have t5 : ((s[t.size].toNat : Int) == 47) = true := by simp; omega
        have H1 := Lib.hid h1
        have Hb := Lib.hid hb
        have Hpre := Lib.hid hpre
        have Hr := Lib.hid hr
        have Hp := Lib.hid hp
        have H4 := Lib.hid h4
        have H3 := Lib.hid h3
        have Hd := Lib.hid hd
        have H47 := Lib.hid h47
        clear h1 hb hpre hr hp h4 h3 hd h47
        go_enter Tryd.func32, Tryd.ntmps32
        go_wp2_with (rw [H3.out])
        go_ret
        exact ⟨by rw [Hr.out]; rfl, rfl⟩
      · have hr : R = false := by rw [hb]; simp; exact fun e => h47 (by rw [e]; rfl)
        have t5 : ((s[t.size].toNat : Int) == 47) = false := by simp; omega
        have H1 := Lib.hid h1
        have Hb := Lib.hid hb
        have Hpre := Lib.hid hpre
        have Hr := Lib.hid hr
        have Hp := Lib.hid hp
        have H4 := Lib.hid h4
        have H3 := Lib.hid h3
        have Hd := Lib.hid hd
        have H47 := Lib.hid h47
        clear h1 hb hpre hr hp h4 h3 hd h47
        go_enter Tryd.func32, Tryd.ntmps32
        go_wp2_with (rw [H3.out])
        go_ret
        exact ⟨by rw [Hr.out]; rfl, rfl⟩
  · have hp : t.data.toList.isPrefixOf s.data.toList = false := by rw [Bool.eq_false_iff]; intro h; exact h3 (hpre.1 h).2
    have hr : R = false := by rw [hb, hp]; rfl
    have h3b := str_ne h3
    generalize hX : s.extract 0 t.size = X at *
    have H1 := Lib.hid h1
    have Hb := Lib.hid hb
    have Hpre := Lib.hid hpre
    have Hr := Lib.hid hr
    have Hp := Lib.hid hp
    have H3 := Lib.hid h3
    have HX := Lib.hid hX
    clear h1 hb hpre hr hp h3 hX
    go_enter Tryd.func32, Tryd.ntmps32
    go_wp2_with (rw [HX.out])
    go_ret
    exact ⟨by rw [Hr.out]; rfl, rfl⟩

/-- put: parts are added to what there is. -/
theorem joinP_snoc {l : List (List UInt8)} {k : Nat} {p : List UInt8} (h : l[k]? = some p) : joinP (l.take (k + 1)) = joinP (l.take k) ++ 47 :: p := by
  rw [List.take_add_one, h, joinP_app]
  simp [joinP]
theorem joinP_take_le (l : List (List UInt8)) (k : Nat) : (joinP (l.take k)).length ≤ (joinP l).length := by
  have := joinP_app (l.take k) (l.drop k)
  rw [List.take_append_drop] at this
  rw [this, List.length_append]; omega
theorem joinP_part_le {l : List (List UInt8)} {k : Nat} {p : List UInt8} (h : l[k]? = some p) : (joinP (l.take k)).length + 1 + p.length ≤ (joinP l).length := by
  have := joinP_take_le l (k + 1)
  rw [joinP_snoc h, List.length_append, List.length_cons] at this
  omega
set_option maxHeartbeats 1000000 in
theorem put_any (a : Option Addr) (n c : Nat) (ps : List (List UInt8)) (o : List UInt8) (B : Nat) (w : World) (hB : Blk w B #[.string (bs o)] 9) (h : Rd strE w a n (ps.map bs)) (hne : ∀ x, a = some x → x.block ≠ B) (hl : o.length + (joinP ps).length ≤ 1000000) :
    Calls Tryd.prog 30 #[.slice a n c, .pointer (some ⟨B, 0, none⟩)] w fun e w' => e = .returned (.tuple #[]) ∧ Blk w' B #[.string (bs (o ++ joinP ps))] 9 ∧ Frm (oneB B) w w' := by
  have hn := h.1
  have hn63 := h.2.1
  rw [List.length_map] at hn
  have HB := Lib.hid hB
  have Hh := Lib.hid h
  have Hne := Lib.hid hne
  have Hn := Lib.hid hn
  clear hB h hne hn
  go_enter Tryd.func30, Tryd.ntmps30
  go_wp2_with fail
  go_loopw [7] (fun i wr => ∃ k : Nat, k ≤ n ∧ i = .int .i64 k ∧ Blk wr B #[.string (bs (o ++ joinP (ps.take k)))] 9 ∧ Frm (oneB B) w wr) (fun i _ => n - (intOf i).toNat)
  case atStart => exact ⟨0, by omega, rfl, by have := HB.out; simpa [joinP] using this, Frm.refl _ _⟩
  case round =>
    obtain ⟨k, hk, rfl, hb, hf⟩ := hrel
    by_cases hlt : k < n
    · obtain ⟨p, hp⟩ := get_of_lt (l := ps) (j := k) (by rw [Hn.out]; exact hlt)
      have hrd := Hh.out.frm hf (fun x hx => Hne.out x hx)
      obtain ⟨b, off, rfl, hbl, c0⟩ := str_rd hrd (map_get hp)
      have hsn : bs (o ++ joinP (ps.take k)) ++ ((⟨#[47]⟩ : ByteArray) ++ bs p) = bs (o ++ joinP (ps.take (k + 1))) := by
        rw [joinP_snoc hp, show (⟨#[47]⟩ : ByteArray) = bs [47] from rfl, bs_app, bs_app]
        simp
      have hle := joinP_part_le hp
      have z1 : (bs (o ++ joinP (ps.take k))).size ≤ 1000000 := by rw [bs_size, List.length_append]; omega
      have z2 : (bs p).size ≤ 1000000 := by rw [bs_size]; omega
      have hadd : ∀ w, (binOp .add 9 (.string ⟨#[47]⟩) (.string (bs p))).run Tryd.prog w = .ok (.string ((⟨#[47]⟩ : ByteArray) ++ bs p)) w := fun w => run_cat _ _ (by have : (⟨#[47]⟩ : ByteArray).size = 1 := rfl; omega) w
      have z3 : ((⟨#[47]⟩ : ByteArray) ++ bs p).size ≤ 1000001 := by rw [ByteArray.size_append]; have : (⟨#[47]⟩ : ByteArray).size = 1 := rfl; omega
      have hadd2 : ∀ w, (binOp .add 9 (.string (bs (o ++ joinP (ps.take k)))) (.string ((⟨#[47]⟩ : ByteArray) ++ bs p))).run Tryd.prog w = .ok (.string (bs (o ++ joinP (ps.take (k + 1))))) w := fun w => (run_cat _ _ (by omega) w).trans (by rw [hsn])
      have hb2 := hb.set 0 (.string (bs (o ++ joinP (ps.take (k + 1)))))
      have hf2 := hf.setOne 0 (.string (bs (o ++ joinP (ps.take (k + 1)))))
      have b0 := (hb.cell 0).trans (show _ = some (Value.string (bs (o ++ joinP (ps.take k)))) from rfl)
      have y0 := hb.free 0
      have bl := hb.lt
      rw [show (#[Value.string (bs (o ++ joinP (ps.take k)))].setIfInBounds 0 (.string (bs (o ++ joinP (ps.take (k + 1)))))) = #[.string (bs (o ++ joinP (ps.take (k + 1))))] from rfl] at hb2
      generalize hO2 : bs (o ++ joinP (ps.take (k + 1))) = O2 at *
      generalize bs (o ++ joinP (ps.take k)) = O1 at *
      generalize (⟨#[47]⟩ : ByteArray) ++ bs p = Q at *
      generalize bs p = P at *
      have Hb := Lib.hid hb
      have Hf := Lib.hid hf
      have Hp := Lib.hid hp
      have Hrd := Lib.hid hrd
      have Hsn := Lib.hid hsn
      have Hle := Lib.hid hle
      have Hz1 := Lib.hid z1
      have Hz2 := Lib.hid z2
      have Hz3 := Lib.hid z3
      have Hb2 := Lib.hid hb2
      have Hf2 := Lib.hid hf2
      have Hadd := Lib.hid hadd
      have Hadd2 := Lib.hid hadd2
      have HO2 := Lib.hid hO2
      clear hb hf hp hrd hsn hle z1 z2 z3 hb2 hf2 hadd hadd2 hO2
      go_wp2_with (refine wpl_add (by rfl) _ _ (by rfl) _ _ _ (by rfl) (by rfl) (by first | exact Hadd.out _ | exact Hadd2.out _) ?_)
      go_roundw
      case rel => exact ⟨k + 1, by omega, by go_num, by rw [HO2.out]; exact Hb2.out, Hf2.out⟩
      case measure => simp [intOf]; omega
    · rw [List.take_of_length_le (by rw [Hn.out]; omega)] at hb
      have Hb := Lib.hid hb
      have Hf := Lib.hid hf
      clear hb hf
      go_wp2_with fail
      go_end0
      exact ⟨rfl, Hb.out, Hf.out⟩
end Go.Proofs.YtbeilgkogbcjjaaDoor
