/- Texts that are paths as a rule, and Check of matches (layer 5). -/
import Derived.Test.YtjehdldjfnaniaaDoorMatchGen
import Derived.Test.YtjehdldjfnaniaaDoorParts
import Derived.Test.YtjehdldjfnaniaaDoorHeadBig
import Derived.Lib.ConvBytes
import Derived.Laws.IdiomStrings
import Derived.Outline
set_option linter.unusedVariables false
set_option linter.unusedSimpArgs false
namespace Go.Proofs.YtjehdldjfnaniaaDoor
open Go.RowKit

/-- What Check of a match answers. -/
def chkM (p : List UInt8) (l : List Hd) : Int := if isPathL p = true then checkE l else 10
theorem rpath5_any (s : ByteArray) (w : World) (hs : s.size ≤ 1000000) : Calls Tryd.prog 22 #[.string s] w fun e w' => e = .returned (.bool (isPathL s.data.toList)) ∧ Frm noB w w' := by
  have hp := parts5_any s w hs
  have Hp := Lib.hid hp
  clear hp
  go_enter Tryd.func22, Tryd.ntmps22
  go_wp2_with fail
  refine Hp.out.mono ?_
  rintro e w1 ⟨v, rfl, ho, hf⟩
  generalize (if isPathL s.data.toList = true then (partsL s.data.toList).map bs else []) = L at ho
  obtain ⟨ip, hip⟩ : ∃ q, q = isPathL s.data.toList := ⟨_, rfl⟩
  rw [← hip]
  obtain ⟨a, c, hve, _⟩ := ho.shape
  obtain ⟨n, hn⟩ : ∃ n, n = L.length := ⟨_, rfl⟩
  rw [← hn] at hve
  subst hve
  have Ho := Lib.hid ho
  have Hf := Lib.hid hf
  have Hn := Lib.hid hn
  have Hip := Lib.hid hip
  clear ho hf hn hip
  go_wp2_with fail
  go_ret
  exact ⟨by rw [← Hip.out]; rfl, Hf.out⟩
set_option maxHeartbeats 1000000 in
theorem mcheck_any (mp : ByteArray) (ex : Bool) (a : Option Addr) (n c : Nat) (l : List Hd) (w : World) (h : Rd hdE w a n l) (hc : n ≤ c) (hc2 : c ≤ 9223372036854775807) (hs : mp.size ≤ 1000000) (hm : MaxL w) :
    Calls Tryd.prog 23 #[.agg #[.string mp, .bool ex, .slice a n c]] w fun e w' => e = .returned (.int .i64 (chkM mp.data.toList l)) ∧ Frm noB w w' := by
  have hM := Blk.made w #[.string mp, .bool ex, .slice a n c] 25
  have fa := (Frm.refl noB w).alloc (.cells #[.string mp, .bool ex, .slice a n c] 25)
  have hp := path_any mp _ hs (hm.keep fa)
  have hck := fun w h => check_all a n c l w h hc hc2
  have hdef : chkM mp.data.toList l = if isPathL mp.data.toList = true then checkE l else 10 := rfl
  generalize chkM mp.data.toList l = R at *
  generalize isPathL mp.data.toList = ip at *
  cases ip
  · have hr : R = 10 := by rw [hdef, if_neg (by simp)]
    have HM := Lib.hid hM
    have Hfa := Lib.hid fa
    have Hp := Lib.hid hp
    have Hck := Lib.hid hck
    have Hdef := Lib.hid hdef
    have Hr := Lib.hid hr
    have Hh := Lib.hid h
    clear hM fa hp hck hdef hr h
    go_enter Tryd.func23, Tryd.ntmps23
    go_wp2_with fail
    refine Hp.out.mono ?_
    rintro e w1 ⟨rfl, hf⟩
    have Hf := Lib.hid (Hfa.out.trans hf)
    clear hf
    go_wp2_with fail
    go_ret
    exact ⟨ret_int Hr.out.symm, Hf.out⟩
  · have hr : R = checkE l := by rw [hdef, if_pos rfl]
    have HM := Lib.hid hM
    have Hfa := Lib.hid fa
    have Hp := Lib.hid hp
    have Hck := Lib.hid hck
    have Hdef := Lib.hid hdef
    have Hr := Lib.hid hr
    have Hh := Lib.hid h
    clear hM fa hp hck hdef hr h
    go_enter Tryd.func23, Tryd.ntmps23
    go_wp2_with fail
    refine Hp.out.mono ?_
    rintro e w1 ⟨rfl, hf⟩
    have hM1 := HM.out.frm hf (fun h => h)
    have m2 := (hM1.cell 2).trans (show _ = some (Value.slice a n c) from rfl)
    have Hf := Lib.hid (Hfa.out.trans hf)
    have HM1 := Lib.hid hM1
    clear hM1
    clear hf
    go_wp2_with fail
    refine (Hck.out _ (Hh.out.keep Hf.out)).mono ?_
    rintro e w2 ⟨rfl, hf⟩
    have Hf2 := Lib.hid (Hf.out.trans hf)
    clear hf
    go_wp2_with fail
    go_ret
    exact ⟨ret_int Hr.out.symm, Hf2.out⟩
set_option maxHeartbeats 1000000 in
theorem rcheck5_any (mp : ByteArray) (ex : Bool) (a : Option Addr) (n c : Nat) (l : List Hd) (w : World) (h : Rd hdE w a n l) (hc : n ≤ c) (hc2 : c ≤ 9223372036854775807) (hs : mp.size ≤ 1000000) :
    Calls Tryd.prog 24 #[.agg #[.string mp, .bool ex, .slice a n c]] w fun e w' => e = .returned (.int .i64 (chkM mp.data.toList l)) ∧ Frm noB w w' := by
  have hM := Blk.made w #[.string mp, .bool ex, .slice a n c] 25
  have fa := (Frm.refl noB w).alloc (.cells #[.string mp, .bool ex, .slice a n c] 25)
  have hp := fun w => rpath5_any mp w hs
  have hck := fun w h => ref_check_all a n c l w h hc hc2
  have hdef : chkM mp.data.toList l = if isPathL mp.data.toList = true then checkE l else 10 := rfl
  generalize chkM mp.data.toList l = R at *
  generalize isPathL mp.data.toList = ip at *
  cases ip
  · have hr : R = 10 := by rw [hdef, if_neg (by simp)]
    have HM := Lib.hid hM
    have Hfa := Lib.hid fa
    have Hp := Lib.hid hp
    have Hck := Lib.hid hck
    have Hdef := Lib.hid hdef
    have Hr := Lib.hid hr
    have Hh := Lib.hid h
    clear hM fa hp hck hdef hr h
    go_enter Tryd.func24, Tryd.ntmps24
    go_wp2_with fail
    refine (Hp.out _).mono ?_
    rintro e w1 ⟨rfl, hf⟩
    have Hf := Lib.hid (Hfa.out.trans hf)
    clear hf
    go_wp2_with fail
    go_ret
    exact ⟨ret_int Hr.out.symm, Hf.out⟩
  · have hr : R = checkE l := by rw [hdef, if_pos rfl]
    have HM := Lib.hid hM
    have Hfa := Lib.hid fa
    have Hp := Lib.hid hp
    have Hck := Lib.hid hck
    have Hdef := Lib.hid hdef
    have Hr := Lib.hid hr
    have Hh := Lib.hid h
    clear hM fa hp hck hdef hr h
    go_enter Tryd.func24, Tryd.ntmps24
    go_wp2_with fail
    refine (Hp.out _).mono ?_
    rintro e w1 ⟨rfl, hf⟩
    have hM1 := HM.out.frm hf (fun h => h)
    have m2 := (hM1.cell 2).trans (show _ = some (Value.slice a n c) from rfl)
    have Hf := Lib.hid (Hfa.out.trans hf)
    have HM1 := Lib.hid hM1
    clear hM1
    clear hf
    go_wp2_with fail
    refine (Hck.out _ (Hh.out.keep Hf.out)).mono ?_
    rintro e w2 ⟨rfl, hf⟩
    have Hf2 := Lib.hid (Hf.out.trans hf)
    clear hf
    go_wp2_with fail
    go_ret
    exact ⟨ret_int Hr.out.symm, Hf2.out⟩
def txB : List ByteArray := [⟨#[]⟩, ⟨#[97]⟩, ⟨#[47, 47]⟩, ⟨#[47, 97, 47]⟩, ⟨#[47, 65]⟩, ⟨#[47, 97, 32, 98]⟩, ⟨#[47, 97, 47, 47, 98]⟩, ⟨#[47, 97, 63]⟩, ⟨#[47, 46]⟩, ⟨#[47, 46, 46]⟩, ⟨#[47, 45, 95, 46, 57]⟩, ⟨#[47, 97, 39]⟩]
theorem tx_at (i : Nat) (h : i < 12) : ∃ s, txB[i]? = some s ∧ s.size ≤ 100 := by
  have hc : i = 0 ∨ i = 1 ∨ i = 2 ∨ i = 3 ∨ i = 4 ∨ i = 5 ∨ i = 6 ∨ i = 7 ∨ i = 8 ∨ i = 9 ∨ i = 10 ∨ i = 11 := by omega
  rcases hc with rfl | rfl | rfl | rfl | rfl | rfl | rfl | rfl | rfl | rfl | rfl | rfl <;> exact ⟨_, rfl, by decide⟩
def SomeText (w : World) (e : Ending) (w' : World) : Prop := ∃ s : ByteArray, e = .returned (.string s) ∧ s.size ≤ 100 ∧ Frm noB w w'
set_option maxRecDepth 100000 in
set_option maxHeartbeats 2000000 in
theorem text_any (n : Int) (w : World) (h0 : -9223372036854775808 ≤ n) (h1 : n ≤ 9223372036854775807) :
    Calls Tryd.prog 18 #[.int .i64 n] w (SomeText w) := by
  have hq := around_lt n 1000000 (by omega)
  have har := fun w => around_any n 1000000 w h0 h1 (by omega) (by omega)
  generalize around n 1000000 = k at *
  have hk : k ≤ 999999 := by omega
  clear hq
  by_cases h5 : k % 5 = 4
  · have t1 : ((k : Int) % 5 == 4) = true := by simp; omega
    obtain ⟨i, hi, hi12⟩ : ∃ i : Nat, k / 5 % 12 = i ∧ i < 12 := ⟨_, rfl, Nat.mod_lt _ (by omega)⟩
    have e1 : (k : Int) / 5 % 12 = (i : Int) := by omega
    obtain ⟨s, hs, hsz⟩ := tx_at i hi12
    have hn1 := cells_at hs
    simp only [txB, List.map_cons, List.map_nil] at hn1
    have fb := (Frm.refl noB w).alloc (.cells #[.string ⟨#[]⟩, .string ⟨#[97]⟩, .string ⟨#[47, 47]⟩, .string ⟨#[47, 97, 47]⟩, .string ⟨#[47, 65]⟩, .string ⟨#[47, 97, 32, 98]⟩, .string ⟨#[47, 97, 47, 47, 98]⟩, .string ⟨#[47, 97, 63]⟩, .string ⟨#[47, 46]⟩, .string ⟨#[47, 46, 46]⟩, .string ⟨#[47, 45, 95, 46, 57]⟩, .string ⟨#[47, 97, 39]⟩] 9)
    have Har := Lib.hid har
    have H5 := Lib.hid h5
    have Hi := Lib.hid hi
    have Hs := Lib.hid hs
    have Hsz := Lib.hid hsz
    have Hfb := Lib.hid fb
    clear har h5 hi hs hsz fb
    go_enter Tryd.func18, Tryd.ntmps18
    go_wp2_with fail
    with_reducible refine (Har.out _).mono ?_
    rintro e w' ⟨rfl, rfl⟩
    go_wp2_with fail
    go_ret
    exact ⟨s, rfl, Hsz.out, Hfb.out⟩
  have t1 : ((k : Int) % 5 == 4) = false := by simp; omega
  by_cases h31 : k % 31 = 7
  · have t2 : ((k : Int) % 31 == 7) = true := by simp; omega
    obtain ⟨i, hi, hi5⟩ : ∃ i : Nat, k / 31 % 5 = i ∧ i < 5 := ⟨_, rfl, Nat.mod_lt _ (by omega)⟩
    have e1 : (k : Int) / 31 % 5 = (i : Int) := by omega
    have Har := Lib.hid har
    have H5 := Lib.hid h5
    have Hi := Lib.hid hi
    have H31 := Lib.hid h31
    clear har h5 hi h31
    go_enter Tryd.func18, Tryd.ntmps18
    go_wp2_with fail
    with_reducible refine (Har.out _).mono ?_
    rintro e w' ⟨rfl, rfl⟩
    go_wp2_with fail
    clear t1 t2
    go_loop [4] (fun s => ∃ x : ByteArray, s = .string x ∧ x.size ≤ 70) (fun s => match s with | .string x => 100 - x.size | _ => 0)
    case atStart => exact ⟨_, rfl, by decide⟩
    case round =>
      obtain ⟨x, rfl, hx⟩ := hrel
      by_cases hlt : x.size < 58 + i
      · have t3 : decide ((x.size : Int) < 58 + (i : Int)) = true := decide_eq_true (by omega)
        have hadd := fun w => run_cat x (⟨#[120]⟩ : ByteArray) (by have : (⟨#[120]⟩ : ByteArray).size = 1 := rfl; omega) w
        have hsz : (x ++ (⟨#[120]⟩ : ByteArray)).size = x.size + 1 := by rw [ByteArray.size_append]; rfl
        generalize x ++ (⟨#[120]⟩ : ByteArray) = x2 at *
        have Hadd := Lib.hid hadd
        have Hsz := Lib.hid hsz
        clear hadd hsz
        go_wp2_with (refine wpl_add (by rfl) _ _ (by rfl) _ _ _ (by rfl) (by rfl) (Hadd.out _) ?_)
        go_round
        case rel => exact ⟨x2, rfl, by have := Hsz.out; omega⟩
        case measure => have := Hsz.out; simp; omega
      · have t3 : decide ((x.size : Int) < 58 + (i : Int)) = false := decide_eq_false (by omega)
        go_wp2_with fail
        go_ret
        exact ⟨x, rfl, by omega, Frm.refl _ _⟩
  · have t2 : ((k : Int) % 31 == 7) = false := by simp; omega
    obtain ⟨k5, hk5⟩ : ∃ q, q = k / 5 := ⟨_, rfl⟩
    have e1 : (k : Int) / 5 = (k5 : Int) := by omega
    have hpa := fun w => pathof_any (k5 : Int) w (by omega) (by omega)
    have hsz : (bs (pathOf (mZ (k5 : Int)))).size ≤ 100 := by rw [bs_size]; have := mZ_len (k5 : Int); omega
    generalize bs (pathOf (mZ (k5 : Int))) = P at *
    have Har := Lib.hid har
    have H5 := Lib.hid h5
    have H31 := Lib.hid h31
    have Hk5 := Lib.hid hk5
    have Hpa := Lib.hid hpa
    have Hsz := Lib.hid hsz
    clear har h5 h31 hk5 hpa hsz
    go_enter Tryd.func18, Tryd.ntmps18
    go_wp2_with fail
    with_reducible refine (Har.out _).mono ?_
    rintro e w' ⟨rfl, rfl⟩
    go_wp2_with fail
    refine (Hpa.out _).mono ?_
    rintro e w1 ⟨rfl, hf⟩
    have Hf := Lib.hid hf
    clear hf
    go_wp2_with fail
    go_ret
    exact ⟨P, rfl, Hsz.out, Hf.out⟩
/-- Bytes that the call laid. -/
structure BytesB (w : World) (b : Nat) (l : List UInt8) : Prop where
  lt : b < w.heap.size
  cell : ∀ (j : Nat) (x : UInt8), l[j]? = some x → w.cell? ⟨b, j, none⟩ = some (.int .u8 (x.toNat : Int))
  free : ∀ j, j < l.length → w.frozen? ⟨b, j, none⟩ = false
theorem conv_bytes (w : World) (s : ByteArray) : ∃ cp W, (convert 9 42 (.string s)).run Tryd.prog w = .ok (.slice (some ⟨w.heap.size, 0, none⟩) s.size cp) W ∧ Frm noB w W ∧ BytesB W w.heap.size s.data.toList := by
  refine ⟨_, _, Lib.run_convert_string_bytes w 9 42 5 s Tryd.underlying9 Tryd.underlying42 Tryd.underlying5, ?_, ?_⟩
  · refine ⟨rfl, rfl, rfl, by rw [Lib.bytesWorld_size]; omega, fun k hk _ => Lib.bytesWorld_at_old w _ s k hk⟩
  · refine ⟨by rw [Lib.bytesWorld_size]; omega, fun j x hx => ?_, fun j hj => ?_⟩
    · have hj : j < s.size := by rw [← ba_len]; exact get_lt hx
      rw [Lib.bytesWorld_cell w _ s j hj]
      simp [List.getD, hx]
    · have hj2 : j < s.size := by rw [← ba_len]; exact hj
      simp [World.frozen?, Lib.bytesWorld_at_new, Lib.bytesCells]
      intro h
      omega
theorem conv_back {w : World} {b : Nat} {l : List UInt8} (h : BytesB w b l) (cap : Nat) : (convert 42 9 (.slice (some ⟨b, 0, none⟩) l.length cap)).run Tryd.prog w = .ok (.string (bs l)) w :=
  run_convert_bytes_back w 42 9 5 ⟨b, 0, none⟩ cap l Tryd.underlying42 Tryd.underlying5 Tryd.underlying9 (fun j hj => by rw [Addr.add_lit, Nat.zero_add]; exact h.cell j _ (List.getElem?_eq_getElem hj))
theorem BytesB.frm {w w' : World} {b : Nat} {l : List UInt8} (h : BytesB w b l) (f : Frm noB w w') : BytesB w' b l := by
  have hb := f.block b h.lt (fun h => h)
  refine ⟨Nat.lt_of_lt_of_le h.lt f.size, fun j x hx => cell_frm f (fun h => h) (h.cell j x hx), fun j hj => ?_⟩
  have := h.free j hj
  unfold World.frozen? at *
  rw [hb]; exact this
end Go.Proofs.YtjehdldjfnaniaaDoor
