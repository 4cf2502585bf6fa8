/- Print of the reference. -/
import Derived.Test.YtgajlpahhfenaaaDoorHeadPrint
set_option linter.unusedVariables false
namespace Go.Proofs.YtgajlpahhfenaaaDoor
open Go.RowKit

theorem hd_cat2 (O : ByteArray) (x : Hd) (D : ByteArray) (hD : D.data.toList = digN x.val.size) : ((((((O ++ x.name) ++ (⟨#[58]⟩ : ByteArray)) ++ D) ++ (⟨#[58]⟩ : ByteArray)) ++ x.val)) = bs (O.data.toList ++ hdP x) := by
  apply ByteArray.ext; apply Array.ext'
  unfold hdP
  simp [ByteArray.data_append, bs, hD]
theorem bs_data (s : ByteArray) : s = bs s.data.toList := (bs_of s).symm

set_option maxRecDepth 100000 in
set_option maxHeartbeats 4000000 in
theorem ref_print (a : Option Addr) (n c : Nat) (l : List Hd) (w : World) (h : Rd hdE w a n l) (hn : n ≤ 20) (hs : ∀ x ∈ l, x.name.size ≤ 1000 ∧ x.val.size ≤ 99) :
    Calls Tryd.prog 28 #[.slice a n c] w fun e w' => e = .returned (.string (bs (prL l))) ∧ Frm noB w w' := by
  have hl := h.1
  have Hh := Lib.hid h
  have Hl := Lib.hid hl
  have Hs := Lib.hid hs
  clear h hl hs
  go_enter Tryd.func28, Tryd.ntmps28
  go_wp2_with fail
  go_loopw [3, 4] (fun o i wr => ∃ (k : Nat) (O : ByteArray), k ≤ n ∧ i = .int .i64 k ∧ o = .string O ∧ O.data.toList = prL (l.take k) ∧ Frm noB w wr) (fun _ i _ => n - (intOf i).toNat)
  case atStart => exact ⟨0, ⟨#[]⟩, by omega, rfl, rfl, rfl, Frm.refl _ _⟩
  case round =>
    obtain ⟨k, O, hk, rfl, rfl, hO, hf⟩ := hrel
    by_cases hlt : k < n
    · obtain ⟨x, hx⟩ := get_of_lt (l := l) (j := k) (by rw [Hl.out]; exact hlt)
      obtain ⟨hxn, hxv⟩ := Hs.out x (List.mem_of_getElem? hx)
      have hOl : O.size ≤ 100000 := by
        rw [← ba_len, hO]
        have := prL_len (l.take k) (fun y hy => Hs.out y (List.mem_of_mem_take hy))
        rw [List.length_take] at this
        omega
      have hn1 : 0 < k → prL (l.take (k + 1)) = (O ++ (⟨#[32]⟩ : ByteArray)).data.toList ++ hdP x := fun e => by rw [prL_snoc hx e, ← hO, ByteArray.data_append]; simp
      have hn0 : k = 0 → prL (l.take (k + 1)) = O.data.toList ++ hdP x := fun e => by subst e; rw [prL_first hx, hO]; rfl
      obtain ⟨b, off, rfl, hb, c0, c1⟩ := hd_rd (Hh.out.keep hf) hx
      have Hf := Lib.hid hf
      have Hx := Lib.hid hx
      have HO := Lib.hid hO
      have Hn1 := Lib.hid hn1
      have Hn0 := Lib.hid hn0
      clear hf hx hO hn1 hn0
      go_upto_if 12 with fail
      go_cut [3] (fun s wx => ∃ O2 : ByteArray, s = .string O2 ∧ O2.size ≤ 100001 ∧ prL (l.take (k + 1)) = O2.data.toList ++ hdP x ∧ wx = wr)
      case first =>
        by_cases hk0 : 0 < k
        · have hd : decide ((0 : Int) < (k : Int)) = true := decide_eq_true (by omega)
          have hy := Hn1.out hk0
          have hsz : (O ++ (⟨#[32]⟩ : ByteArray)).size ≤ 100001 := by rw [ByteArray.size_append]; show O.size + 1 ≤ 100001; omega
          have Hy := Lib.hid hy
          have Hsz := Lib.hid hsz
          clear hy hsz
          go_wp2_with fail
          go_meet
          exact ⟨_, rfl, Hsz.out, Hy.out, rfl⟩
        · obtain rfl : k = 0 := by omega
          have hy := Hn0.out rfl
          have Hy := Lib.hid hy
          clear hy
          go_wp2_with fail
          go_meet
          exact ⟨O, rfl, by omega, Hy.out, rfl⟩
      case rest =>
        obtain ⟨O2, rfl, hO2, hy, hw⟩ := hcut
        subst hw
        have hit := fun w => decimal_any (x.val.size : Int) w (by omega) (by omega)
        unfold DecIs at hit
        have hdd : decL (x.val.size : Int) = digN x.val.size := by unfold decL; rw [if_neg (by omega)]; simp
        rw [hdd] at hit
        have hds : (bs (digN x.val.size)).size ≤ 2 := by rw [bs_size]; exact digN_len_le 1 _ (by omega)
        have hD : (bs (digN x.val.size)).data.toList = digN x.val.size := rfl
        generalize bs (digN x.val.size) = D at *
        have hcat := hd_cat2 O2 x D hD
        rw [← hy] at hcat
        have f0 : (9223372036854775807 < O2.size + x.name.size) = False := eq_false (by omega)
        have f1 : (9223372036854775807 < O2.size + x.name.size + 1) = False := eq_false (by omega)
        have f2 : (9223372036854775807 < O2.size + x.name.size + 1 + D.size) = False := eq_false (by omega)
        have f3 : (9223372036854775807 < O2.size + x.name.size + 1 + D.size + 1) = False := eq_false (by omega)
        have f4 : (9223372036854775807 < O2.size + x.name.size + 1 + D.size + 1 + x.val.size) = False := eq_false (by omega)
        have fr0 := Frm.drew (Frm.refl noB wc)
        have gn := cell_frm fr0 (fun h => h) c0
        have gv := cell_frm fr0 (fun h => h) c1
        have hf4 := Hf.out.trans fr0
        have i1 : (0 : Int) ≤ (k : Int) := by omega
        have i2 : (k : Int) < (n : Int) := by omega
        have Hy := Lib.hid hy
        have Hit := Lib.hid hit
        have Hdd := Lib.hid hdd
        have Hds := Lib.hid hds
        have HD := Lib.hid hD
        have Hcat := Lib.hid hcat
        have Hfr0 := Lib.hid fr0
        have Hf4 := Lib.hid hf4
        clear hy hit hdd hds hD hcat fr0 hf4
        go_upto_region 7 with fail
        go_region_held3 (fun W => W.cell? ⟨b, off + k * 2, none⟩ = some (.string x.name) ∧ W.cell? ⟨b, off + k * 2 + 1, none⟩ = some (.string x.val)) (first | exact ⟨gn, gv⟩ | exact ⟨rn, rv⟩)
          (first | (go_at_call 18; (with_reducible refine (Hit.out _).mono ?_); rintro e w1 ⟨rfl, hg1⟩; have rn := cell_frm hg1 (fun h => h) gn; have rv := cell_frm hg1 (fun h => h) gv; have Hf5 := Lib.hid (Hf4.out.trans hg1); clear hg1))
        go_wp2_with fail
        go_roundw
        case rel => exact ⟨k + 1, _, by omega, by go_num, rfl, by rw [Hcat.out]; rfl, Hf5.out⟩
        case measure => simp [intOf]; omega
    · obtain rfl : k = n := by omega
      rw [List.take_of_length_le (by rw [Hl.out]; exact Nat.le_refl _)] at hO
      have hO2 : O = bs (prL l) := by rw [← hO]; exact bs_data O
      have HO := Lib.hid hO
      have HO2 := Lib.hid hO2
      have Hf := Lib.hid hf
      clear hO hO2 hf
      go_wp2_with fail
      go_ret
      exact ⟨congrArg (fun x => Ending.returned (Value.string x)) HO2.out, Hf.out⟩
end Go.Proofs.YtgajlpahhfenaaaDoor
