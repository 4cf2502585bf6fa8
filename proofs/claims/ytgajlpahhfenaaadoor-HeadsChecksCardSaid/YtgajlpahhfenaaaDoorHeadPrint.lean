/- Print of heads, and of the reference. -/
import Derived.Test.YtgajlpahhfenaaaDoorHead
import Derived.Test.YtgajlpahhfenaaaDoorBuilder
import Derived.Test.YtgajlpahhfenaaaDoorDecimal
import Derived.Outline
set_option linter.unusedVariables false
namespace Go.Proofs.YtgajlpahhfenaaaDoor
open Go.RowKit

theorem decDigits_dig (n : Nat) : Lib.decDigits n = digN n := by
  induction n using Nat.strongRecOn with
  | _ n ih =>
    rw [Lib.decDigits, digN]
    split
    · rfl
    · rw [ih _ (by omega)]
def hdP (h : Hd) : List UInt8 := h.name.data.toList ++ 58 :: (digN h.val.size ++ 58 :: h.val.data.toList)
def prT (l : List Hd) : List UInt8 := l.flatMap fun x => 32 :: hdP x
def prL (l : List Hd) : List UInt8 := (prT l).drop 1
theorem prT_snoc {l : List Hd} {k : Nat} {x : Hd} (hx : l[k]? = some x) : prT (l.take (k + 1)) = prT (l.take k) ++ 32 :: hdP x := by
  unfold prT
  rw [List.take_add_one, hx, List.flatMap_append]; simp
theorem prT_ne {l : List Hd} (h : 0 < l.length) : 1 ≤ (prT l).length := by
  cases l with
  | nil => simp at h
  | cons a t => simp [prT]
theorem prL_first {l : List Hd} {x : Hd} (hx : l[0]? = some x) : prL (l.take 1) = hdP x := by
  unfold prL
  rw [prT_snoc hx]; simp [prT]
theorem prL_snoc {l : List Hd} {k : Nat} {x : Hd} (hx : l[k]? = some x) (hk : 0 < k) : prL (l.take (k + 1)) = prL (l.take k) ++ [32] ++ hdP x := by
  unfold prL
  have hl := get_lt hx
  rw [prT_snoc hx, List.drop_append_of_le_length (prT_ne (by rw [List.length_take]; omega))]
  simp
theorem hdP_len (h : Hd) (h1 : h.name.size ≤ 1000) (h2 : h.val.size ≤ 99) : (hdP h).length ≤ 2000 := by
  unfold hdP
  have := digN_len_le 1 h.val.size (by omega)
  simp; omega
theorem prL_len (l : List Hd) (h : ∀ x ∈ l, x.name.size ≤ 1000 ∧ x.val.size ≤ 99) : (prL l).length ≤ 2001 * l.length := by
  unfold prL
  rw [List.length_drop]
  have key : (prT l).length ≤ 2001 * l.length := by
    induction l with
    | nil => simp [prT]
    | cons a t ih =>
      have h1 := ih (fun x hx => h x (List.mem_cons_of_mem _ hx))
      have h2 := hdP_len a (h a List.mem_cons_self).1 (h a List.mem_cons_self).2
      unfold prT at *
      simp only [List.flatMap_cons, List.length_append, List.length_cons]
      omega
  omega
theorem hd_cat (x : Hd) : ((((x.name ++ (⟨#[58]⟩ : ByteArray)) ++ bs (digN x.val.size)) ++ (⟨#[58]⟩ : ByteArray)) ++ x.val).data.toList = hdP x := by
  unfold hdP
  rw [show (⟨#[58]⟩ : ByteArray) = bs [58] from rfl]
  simp [ByteArray.data_append, bs]

set_option maxRecDepth 100000 in
set_option maxHeartbeats 4000000 in
theorem print_any (a : Option Addr) (n c : Nat) (l : List Hd) (w : World) (h : Rd hdE w a n l) (hn : n ≤ 20) (hs : ∀ x ∈ l, x.name.size ≤ 1000 ∧ x.val.size ≤ 99) :
    Calls Tryd.prog 27 #[.slice a n c] w fun e w' => e = .returned (.string (bs (prL l))) ∧ Frm noB w w' := by
  have hl := h.1
  have hbd := bd_new w
  have hfa : Frm noB w (w.alloc (.cells #[.pointer none, .slice none 0 0] 61)) := (Frm.refl _ _).alloc _
  have Hh := Lib.hid h
  have Hl := Lib.hid hl
  have Hs := Lib.hid hs
  have Hbd := Lib.hid hbd
  have Hfa := Lib.hid hfa
  clear h hl hs hbd hfa
  go_enter Tryd.func27, Tryd.ntmps27
  go_wp2_with fail
  go_loopw [8] (fun i wr => ∃ k : Nat, k ≤ n ∧ i = .int .i64 k ∧ Bd w.heap.size w.heap.size (prL (l.take k)) wr ∧ Frm noB w wr) (fun i _ => n - (intOf i).toNat)
  case atStart => exact ⟨0, by omega, rfl, Hbd.out, Hfa.out⟩
  case round =>
    obtain ⟨k, hk, rfl, hbd1, hf⟩ := hrel
    by_cases hlt : k < n
    · obtain ⟨x, hx⟩ := get_of_lt (l := l) (j := k) (by rw [Hl.out]; exact hlt)
      obtain ⟨hxn, hxv⟩ := Hs.out x (List.mem_of_getElem? hx)
      obtain ⟨b, off, rfl, hb, c0, c1⟩ := hd_rd (Hh.out.keep hf) hx
      have fa := (Frm.refl noB wr).alloc (.cells #[.string x.name, .string x.val] 25)
      have hbx := Blk.made wr #[.string x.name, .string x.val] 25
      have hbd2 := bd_frm hbd1 fa
      have hfa1 := hf.trans fa
      have hwz := hfa1.size
      have hbw := (bd_lt hbd1).1
      have hpl : (prL (l.take k)).length ≤ 100000 := by
        have := prL_len (l.take k) (fun y hy => Hs.out y (List.mem_of_mem_take hy))
        rw [List.length_take] at this
        omega
      obtain ⟨X, hX⟩ : ∃ X, X = (prL (l.take k)) := ⟨_, rfl⟩
      have hnext : (k = 0 → prL (l.take (k + 1)) = hdP x) ∧ (0 < k → prL (l.take (k + 1)) = X ++ [32] ++ hdP x) := ⟨fun e => by subst e; exact prL_first hx, fun e => by rw [hX]; exact prL_snoc hx e⟩
      have hX0 : k = 0 → X = [] := fun e => by rw [hX, e]; rfl
      rw [← hX] at hbd2 hpl
      have Hbd1 := Lib.hid hbd1
      have Hf := Lib.hid hf
      have Hx := Lib.hid hx
      have Hfa := Lib.hid fa
      have Hbx := Lib.hid hbx
      have Hbd2 := Lib.hid hbd2
      have Hfa1 := Lib.hid hfa1
      have Hwz := Lib.hid hwz
      have Hnext := Lib.hid hnext
      have HX := Lib.hid hX
      have HX0 := Lib.hid hX0
      clear hbd1 hf hx fa hbx hbd2 hfa1 hwz hnext hX hX0
      go_upto_if 14 with fail
      go_cut [] (fun wx => ∃ Y : List UInt8, Bd w.heap.size w.heap.size Y wx ∧ Y.length ≤ 100001 ∧ Y ++ hdP x = prL (l.take (k + 1)) ∧ Blk wx wr.heap.size #[.string x.name, .string x.val] 25 ∧ Frm noB w wx)
      case first =>
        by_cases hk0 : 0 < k
        · have hd : decide ((0 : Int) < (k : Int)) = true := decide_eq_true (by omega)
          go_wp2_with fail
          refine (wbyte_any w.heap.size w.heap.size X 32 _ Hbd2.out (by omega) Hwz.out).mono ?_
          rintro e w1 ⟨rfl, hbd3, hbl, hel⟩
          have hb3 := hel _ _ _ (by decide) (by omega) Hbx.out
          have hf3 := Hfa1.out.andBelow hbl
          have hy := Hnext.out.2 hk0
          have Hbd3 := Lib.hid hbd3
          have Hb3 := Lib.hid hb3
          have Hf3 := Lib.hid hf3
          have Hy := Lib.hid hy
          clear hbd3 hb3 hf3 hy
          clear hbl hel
          go_wp2_with fail
          go_meet
          exact ⟨X ++ [32], Hbd3.out, by simp; omega, Hy.out.symm, Hb3.out, Hf3.out⟩
        · obtain rfl : k = 0 := by omega
          have hy := Hnext.out.1 rfl
          have hX1 := HX0.out rfl
          have Hy := Lib.hid hy
          have HX1 := Lib.hid hX1
          clear hy hX1
          go_wp2_with fail
          go_meet
          exact ⟨[], by rw [← HX1.out]; exact Hbd2.out, by simp, Hy.out.symm, Hbx.out, Hfa1.out⟩
      case rest =>
        obtain ⟨Y, hbd3, hY, hYe, hbx3, hf3⟩ := hcut
        have hwz3 := hf3.size
        have bl := hbx3.lt
        have dn := (hbx3.cell 0).trans (show _ = some (Value.string x.name) from rfl)
        have dv := (hbx3.cell 1).trans (show _ = some (Value.string x.val) from rfl)
        have fr0 := Frm.drew (Frm.refl noB wc)
        have gn := cell_frm fr0 (fun h => h) dn
        have gv := cell_frm fr0 (fun h => h) dv
        have hbd4 := bd_frm hbd3 fr0
        have hf4 := hf3.trans fr0
        have hwz4 := hf4.size
        have hbx4 := hbx3.frm fr0 (fun h => h)
        have hit := fun w => Tryd.strconv_Itoa_small x.val.size (by omega) w
        rw [decDigits_dig] at hit
        have hds : (bs (digN x.val.size)).size ≤ 2 := by rw [bs_size]; exact digN_len_le 1 _ (by omega)
        have hcatx := hd_cat x
        have hPl := hdP_len x hxn hxv
        change ∀ w, Calls _ _ _ w fun e w' => e = .returned (.string (bs (digN x.val.size))) ∧ w' = w at hit
        generalize bs (digN x.val.size) = D at *
        have hSl6 : ((((x.name ++ (⟨#[58]⟩ : ByteArray)) ++ D) ++ (⟨#[58]⟩ : ByteArray)) ++ x.val).size ≤ 1000000 := by rw [← ba_len, hcatx]; omega
        have f1 : (9223372036854775807 < x.name.size + 1) = False := eq_false (by omega)
        have f2 : (9223372036854775807 < x.name.size + 1 + D.size) = False := eq_false (by omega)
        have f3 : (9223372036854775807 < x.name.size + 1 + D.size + 1) = False := eq_false (by omega)
        have f4 : (9223372036854775807 < x.name.size + 1 + D.size + 1 + x.val.size) = False := eq_false (by omega)
        have hlen6 : Y.length ≤ 1000000 := by omega
        have Hbd3 := Lib.hid hbd3
        have HY := Lib.hid hY
        have HYe := Lib.hid hYe
        have Hbx3 := Lib.hid hbx3
        have Hf3 := Lib.hid hf3
        have Hwz3 := Lib.hid hwz3
        have Hfr0 := Lib.hid fr0
        have Hbd4 := Lib.hid hbd4
        have Hf4 := Lib.hid hf4
        have Hwz4 := Lib.hid hwz4
        have Hit := Lib.hid hit
        have Hds := Lib.hid hds
        have Hcatx := Lib.hid hcatx
        have HPl := Lib.hid hPl
        have HSl6 := Lib.hid hSl6
        have Hlen6 := Lib.hid hlen6
        have Hbx4 := Lib.hid hbx4
        clear hbd3 hY hYe hbx3 hf3 hwz3 fr0 hbd4 hf4 hwz4 hit hds hcatx hPl hSl6 hlen6 hbx4
        clear dn dv bl
        go_upto_region 7 with fail
        go_region_held3 (fun W => W.cell? ⟨wr.heap.size, 0, none⟩ = some (.string x.name) ∧ W.cell? ⟨wr.heap.size, 1, none⟩ = some (.string x.val)) (first | exact ⟨gn, gv⟩ | exact ⟨rn, rv⟩)
          (first
            | (go_at_call 43; (with_reducible refine (Hit.out _).mono ?_); rintro e w1 ⟨rfl, rfl⟩)
            | (go_at_call 42; (with_reducible refine (wstr_any w.heap.size w.heap.size Y ((((x.name ++ (⟨#[58]⟩ : ByteArray)) ++ D) ++ (⟨#[58]⟩ : ByteArray)) ++ x.val) _ Hbd4.out Hlen6.out HSl6.out Hwz4.out).mono ?_); rintro e w2 ⟨rfl, hbd5, hbl5, hel5⟩; rw [Hcatx.out, HYe.out] at hbd5; have hbx5 := hel5 _ _ _ (by decide) (Nat.ne_of_gt hbw) Hbx4.out; have rn := (hbx5.cell 0).trans (show _ = some (Value.string x.name) from rfl); have rv := (hbx5.cell 1).trans (show _ = some (Value.string x.val) from rfl); have Hbd5 := Lib.hid hbd5; have Hf5 := Lib.hid (Hf4.out.andBelow hbl5); clear hbd5 hbl5 hel5 hbx5))
        go_wp2_with fail
        go_roundw
        case rel => exact ⟨k + 1, by omega, by go_num, Hbd5.out, Hf5.out⟩
        case measure => simp [intOf]; omega
    · obtain rfl : k = n := by omega
      rw [List.take_of_length_le (by rw [Hl.out]; exact Nat.le_refl _)] at hbd1
      have hwz := hf.size
      have Hbd1 := Lib.hid hbd1
      have Hf := Lib.hid hf
      clear hbd1 hf
      go_wp2_with fail
      refine (Tryd.Builder_String_any w.heap.size w.heap.size (prL l) _ Hbd1.out hwz).mono ?_
      rintro e w1 ⟨rfl, hbl⟩
      have hf2 := Hf.out.andBelow hbl
      have Hf2 := Lib.hid hf2
      clear hf2
      clear hbl
      go_wp2_with fail
      go_ret
      exact ⟨rfl, Hf2.out⟩
end Go.Proofs.YtgajlpahhfenaaaDoor
