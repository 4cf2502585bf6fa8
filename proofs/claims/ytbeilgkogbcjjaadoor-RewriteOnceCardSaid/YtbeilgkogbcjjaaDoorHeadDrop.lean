/- Drop of heads, and of the reference; Set of the reference. -/
import Derived.Test.YtbeilgkogbcjjaaDoorHeadOps
set_option linter.unusedVariables false
namespace Go.Proofs.YtbeilgkogbcjjaaDoor
open Go.RowKit

def dropL (l : List Hd) (ns : List ByteArray) : List Hd := l.filter fun h => !hasT ns h.name
theorem dropL_snoc {l : List Hd} {k : Nat} {x : Hd} (hx : l[k]? = some x) (ns : List ByteArray) : dropL (l.take (k + 1)) ns = if hasT ns x.name then dropL (l.take k) ns else dropL (l.take k) ns ++ [x] := by
  unfold dropL
  rw [List.take_add_one, hx, List.filter_append]
  cases h : hasT ns x.name <;> simp [h]
theorem dropL_len (l : List Hd) (ns : List ByteArray) : (dropL l ns).length ≤ l.length := List.length_filter_le _ _

theorem drop1_any (s nm vl : ByteArray) (B : Nat) (w : World) (hB : Blk w B #[.string nm, .string vl] 50) :
    Calls Tryd.prog 51 #[.string s, .pointer (some ⟨B, 0, none⟩)] w fun e w' => e = .returned (.bool (s.toList == nm.toList)) ∧ w = w' := by
  have h1 := (hB.cell 0).trans (show _ = some (Value.string nm) from rfl)
  have hl := hB.lt
  have HB := Lib.hid hB
  clear hB
  go_enter Tryd.func51, Tryd.ntmps51
  go_wp2_with fail
  go_ret
  exact ⟨rfl, rfl⟩
def idxS (ns : List ByteArray) (s : ByteArray) : Int := if hasT ns s then (ns.findIdx fun x => decide (x = s) : Nat) else -1
theorem idxS_hit {ns : List ByteArray} {s x : ByteArray} {k : Nat} (hx : ns[k]? = some x) (hno : hasT (ns.take k) s = false) (h : x = s) : idxS ns s = k := by
  have hk := get_lt hx
  have hh : hasT ns s = true := hasT_mono (k := k + 1) (by rw [hasT_take hx hno, decide_eq_true h])
  unfold idxS
  rw [if_pos hh]
  have e : ns[k] = x := by rw [List.getElem?_eq_getElem hk] at hx; simpa using hx
  have hlow : ∀ j (hj : j < k), decide (ns[j]'(Nat.lt_trans hj hk) = s) = false := by
    intro j hj
    refine decide_eq_false (fun e2 => ?_)
    unfold hasT at hno
    rw [List.any_eq_false] at hno
    have hm : ns[j]'(Nat.lt_trans hj hk) ∈ ns.take k := List.mem_of_getElem? (i := j) (by rw [List.getElem?_take, if_pos hj, List.getElem?_eq_getElem])
    exact hno _ hm (decide_eq_true e2)
  have : (ns.findIdx fun x => decide (x = s)) = k := (List.findIdx_eq hk).2 ⟨by rw [e]; exact decide_eq_true h, hlow⟩
  rw [this]
set_option maxHeartbeats 1000000 in
theorem index_str (a : Option Addr) (n c : Nat) (ns : List ByteArray) (nm vl : ByteArray) (B : Nat) (w : World) (h : Rd strE w a n ns) (hB : Blk w B #[.string nm, .string vl] 50) :
    Calls Tryd.prog 59 #[.slice a n c, .func (.func 51) #[] #[.pointer (some ⟨B, 0, none⟩)]] w fun e w' => e = .returned (.int .i64 (idxS ns nm)) ∧ w = w' := by
  have hl := h.1
  have hn := h.2.1
  have Hh := Lib.hid h
  have Hl := Lib.hid hl
  have HB := Lib.hid hB
  clear h hl hB
  go_enter Tryd.func59, Tryd.ntmps59
  go_wp2_with fail
  go_loop [4, 8] (fun r i => ∃ k : Nat, k ≤ n ∧ r = .int .i64 0 ∧ i = .int .i64 k ∧ hasT (ns.take k) nm = false) (fun _ i => n - (intOf i).toNat)
  case atStart => exact ⟨0, by omega, rfl, rfl, rfl⟩
  case round =>
    obtain ⟨k, hk, rfl, rfl, hno⟩ := hrel
    by_cases hlt : k < n
    · obtain ⟨x, hx⟩ := get_of_lt (l := ns) (j := k) (by rw [Hl.out]; exact hlt)
      obtain ⟨b, off, rfl, hb, c0⟩ := str_rd Hh.out hx
      have hit := hasT_take hx hno
      by_cases hq : x = nm
      · have hst := str_yes hq
        have hp := idxS_hit hx hno hq
        have Hno := Lib.hid hno
        have Hx := Lib.hid hx
        have Hq := Lib.hid hq
        have Hp := Lib.hid hp
        have Hit := Lib.hid hit
        clear hno hx hq hp hit
        go_wp2_with fail
        with_reducible refine (drop1_any x nm vl B _ HB.out).mono ?_
        rintro e w1 ⟨rfl, rfl⟩
        go_wp2_with fail
        go_ret
        exact ⟨by rw [Hp.out]; rfl, rfl⟩
      · have hst := str_ne hq
        rw [decide_eq_false hq] at hit
        have Hno := Lib.hid hno
        have Hx := Lib.hid hx
        have Hq := Lib.hid hq
        have Hit := Lib.hid hit
        clear hno hx hq hit
        go_wp2_with fail
        with_reducible refine (drop1_any x nm vl B _ HB.out).mono ?_
        rintro e w1 ⟨rfl, rfl⟩
        go_wp2_with fail
        go_round
        case rel => exact ⟨k + 1, by omega, rfl, by go_num, Hit.out⟩
        case measure => simp [intOf]; omega
    · rw [List.take_of_length_le (by rw [Hl.out]; omega)] at hno
      have hp : idxS ns nm = -1 := by unfold idxS; rw [hno]; rfl
      have Hno := Lib.hid hno
      have Hp := Lib.hid hp
      clear hno hp
      go_wp2_with fail
      go_ret
      exact ⟨by rw [Hp.out]; rfl, rfl⟩
set_option maxHeartbeats 400000 in
theorem contains_any (a : Option Addr) (n c : Nat) (ns : List ByteArray) (nm vl : ByteArray) (B : Nat) (w : World) (h : Rd strE w a n ns) (hB : Blk w B #[.string nm, .string vl] 50) :
    Calls Tryd.prog 50 #[.slice a n c, .func (.func 51) #[] #[.pointer (some ⟨B, 0, none⟩)]] w fun e w' => e = .returned (.bool (hasT ns nm)) ∧ w = w' := by
  have Hh := Lib.hid h
  have HB := Lib.hid hB
  clear h hB
  go_enter Tryd.func50, Tryd.ntmps50
  go_wp2_with fail
  with_reducible refine (index_str a n c ns nm vl B _ Hh.out HB.out).mono ?_
  rintro e w1 ⟨rfl, rfl⟩
  cases hh : hasT ns nm
  · have hi : idxS ns nm = -1 := by unfold idxS; rw [hh]; rfl
    rw [hi]
    have Hh_ := Lib.hid hh
    clear hh
    have Hi := Lib.hid hi
    clear hi
    go_wp2_with fail
    go_ret
    exact ⟨ret_bool Hh_.out.symm, rfl⟩
  · obtain ⟨p, hp⟩ : ∃ p : Nat, idxS ns nm = p := ⟨_, by unfold idxS; rw [if_pos hh]⟩
    rw [hp]
    have Hh_ := Lib.hid hh
    clear hh
    have Hp := Lib.hid hp
    clear hp
    go_wp2_with fail
    go_ret
    exact ⟨ret_bool Hh_.out.symm, rfl⟩

set_option maxHeartbeats 2000000 in
theorem hdrop_any (a : Option Addr) (n c : Nat) (l : List Hd) (a2 : Option Addr) (m c2 : Nat) (ns : List ByteArray) (w : World) (h : Rd hdE w a n l) (hn1 : n ≤ 1000) (h2 : Rd strE w a2 m ns) :
    Calls Tryd.prog 40 #[.slice a n c, .slice a2 m c2] w fun e w' => ∃ v, e = .returned v ∧ Own hdE w' w.heap.size 50 v (dropL l ns) ∧ Frm noB w w' := by
  have hl := h.1
  have Hh := Lib.hid h
  have Hl := Lib.hid hl
  have H2 := Lib.hid h2
  clear h hl h2
  go_enter Tryd.func40, Tryd.ntmps40
  go_wp2_with fail
  go_loopw [5, 10] (fun o i wr => ∃ k : Nat, k ≤ n ∧ i = .int .i64 k ∧ Own hdE wr w.heap.size 50 o (dropL (l.take k) ns) ∧ Frm noB w wr) (fun _ i _ => n - (intOf i).toNat)
  case atStart => exact ⟨0, by omega, rfl, Own.nil _ _ _ _, Frm.refl _ _⟩
  case round =>
    obtain ⟨k, hk, rfl, ho, hf⟩ := hrel
    by_cases hlt : k < n
    · obtain ⟨x, hx⟩ := get_of_lt (l := l) (j := k) (by rw [Hl.out]; exact hlt)
      obtain ⟨b, off, rfl, hb, c0, c1⟩ := hd_rd (Hh.out.keep hf) hx
      have fa := (Frm.refl noB wr).alloc (.cells #[.string x.name, .string x.val] 50)
      have hsn := dropL_snoc hx ns
      have hbx := Blk.made wr #[.string x.name, .string x.val] 50
      have b0 := (hbx.cell 0).trans (show _ = some (Value.string x.name) from rfl)
      have b1 := (hbx.cell 1).trans (show _ = some (Value.string x.val) from rfl)
      have ho2 := ho.keep fa
      have hrn := (H2.out.keep hf).keep fa
      have hfa := hf.trans fa
      have hwz := hfa.size
      have hol : (dropL (l.take k) ns).length ≤ 1000000 := Nat.le_trans (dropL_len _ _) (by rw [List.length_take]; omega)
      cases hh : hasT ns x.name
      · rw [if_neg (by rw [hh]; simp)] at hsn
        have Ho := Lib.hid ho
        have Hf := Lib.hid hf
        have Hx := Lib.hid hx
        have Hfa := Lib.hid fa
        have Hsn := Lib.hid hsn
        have Hbx := Lib.hid hbx
        have Ho2 := Lib.hid ho2
        have Hrn := Lib.hid hrn
        have Hfa := Lib.hid hfa
        have Hwz := Lib.hid hwz
        have Hol := Lib.hid hol
        have Hb0 := Lib.hid b0
        have Hb1 := Lib.hid b1
        clear ho hf hx fa hsn hbx ho2 hrn hfa hwz hol b0 b1
        go_wp2_with fail
        refine (contains_any a2 m c2 ns x.name x.val _ _ Hrn.out Hbx.out).mono ?_
        rintro e w1 ⟨rfl, rfl⟩
        rw [hh]
        have Hh := Lib.hid hh
        clear hh
        have b0 := Hb0.out
        have b1 := Hb1.out
        go_wp2_with (at_builtin; refine app_hd _ (by rfl) _ _ (by rfl) w.heap.size _ (dropL (l.take k) ns) (by rfl) Ho2.out x _ (by rfl) (wr.heap.size + 1) (by simp) (by rfl) Hol.out Hwz.out ?_)
        intro v' w3 ho4 _ hf5 _ _
        have hf6 := Hfa.out.new hf5 (fun i hi hh => by have := (Ho2.out.lt i hh.symm).1; omega)
        have Ho4 := Lib.hid ho4
        have Hf6 := Lib.hid hf6
        clear ho4 hf6
        clear hf5
        go_wp2_with fail
        go_roundw
        case rel => exact ⟨k + 1, by omega, by go_num, by rw [Hsn.out]; exact Ho4.out, Hf6.out⟩
        case measure => simp [intOf]; omega
      · rw [if_pos hh] at hsn
        have Ho := Lib.hid ho
        have Hf := Lib.hid hf
        have Hx := Lib.hid hx
        have Hfa := Lib.hid fa
        have Hsn := Lib.hid hsn
        have Hbx := Lib.hid hbx
        have Ho2 := Lib.hid ho2
        have Hrn := Lib.hid hrn
        have Hfa := Lib.hid hfa
        have Hwz := Lib.hid hwz
        have Hol := Lib.hid hol
        have Hb0 := Lib.hid b0
        have Hb1 := Lib.hid b1
        clear ho hf hx fa hsn hbx ho2 hrn hfa hwz hol b0 b1
        go_wp2_with fail
        refine (contains_any a2 m c2 ns x.name x.val _ _ Hrn.out Hbx.out).mono ?_
        rintro e w1 ⟨rfl, rfl⟩
        rw [hh]
        have Hh := Lib.hid hh
        clear hh
        go_wp2_with fail
        go_roundw
        case rel => exact ⟨k + 1, by omega, by go_num, by rw [Hsn.out]; exact Ho2.out, Hfa.out⟩
        case measure => simp [intOf]; omega
    · rw [List.take_of_length_le (by rw [Hl.out]; omega)] at ho
      have Ho := Lib.hid ho
      have Hf := Lib.hid hf
      clear ho hf
      go_wp2_with fail
      go_ret
      exact ⟨_, rfl, Ho.out, Hf.out⟩

set_option maxHeartbeats 2000000 in
theorem ref_drop (a : Option Addr) (n c : Nat) (l : List Hd) (a2 : Option Addr) (m c2 : Nat) (ns : List ByteArray) (w : World) (h : Rd hdE w a n l) (hn1 : n ≤ 1000) (h2 : Rd strE w a2 m ns) :
    Calls Tryd.prog 42 #[.slice a n c, .slice a2 m c2] w fun e w' => ∃ v, e = .returned v ∧ Own hdE w' w.heap.size 50 v (dropL l ns) ∧ Frm noB w w' := by
  have hl := h.1
  have Hh := Lib.hid h
  have Hl := Lib.hid hl
  have H2 := Lib.hid h2
  clear h hl h2
  go_enter Tryd.func42, Tryd.ntmps42
  go_wp2_with fail
  go_loopw [5, 6] (fun o i wr => ∃ k : Nat, k ≤ n ∧ i = .int .i64 k ∧ Own hdE wr w.heap.size 50 o (dropL (l.take k) ns) ∧ Frm noB w wr) (fun _ i _ => n - (intOf i).toNat)
  case atStart => exact ⟨0, by omega, rfl, Own.nil _ _ _ _, Frm.refl _ _⟩
  case round =>
    obtain ⟨k, hk, rfl, ho, hf⟩ := hrel
    by_cases hlt : k < n
    · obtain ⟨x, hx⟩ := get_of_lt (l := l) (j := k) (by rw [Hl.out]; exact hlt)
      obtain ⟨b, off, rfl, hb, c0, c1⟩ := hd_rd (Hh.out.keep hf) hx
      have hsn := dropL_snoc hx ns
      have hrn := H2.out.keep hf
      have hwz := hf.size
      have hol : (dropL (l.take k) ns).length ≤ 1000000 := Nat.le_trans (dropL_len _ _) (by rw [List.length_take]; omega)
      cases hh : hasT ns x.name
      · rw [if_neg (by rw [hh]; simp)] at hsn
        have Ho := Lib.hid ho
        have Hf := Lib.hid hf
        have Hx := Lib.hid hx
        have Hsn := Lib.hid hsn
        have Hrn := Lib.hid hrn
        have Hwz := Lib.hid hwz
        have Hol := Lib.hid hol
        clear ho hf hx hsn hrn hwz hol
        go_wp2_with fail
        refine (hasText_any a2 m c2 ns x.name _ Hrn.out).mono ?_
        rintro e w1 ⟨rfl, rfl⟩
        rw [hh]
        have Hh := Lib.hid hh
        clear hh
        go_wp2_with (at_builtin; refine app_hd _ (by rfl) _ _ (by rfl) w.heap.size _ (dropL (l.take k) ns) (by rfl) Ho.out x _ (by rfl) _ rfl (by rfl) Hol.out Hwz.out ?_)
        intro v' w3 ho4 _ hf5 _ _
        have hf6 := Hf.out.new hf5 (fun i hi hh => by have := (Ho.out.lt i hh.symm).1; omega)
        have Ho4 := Lib.hid ho4
        have Hf6 := Lib.hid hf6
        clear ho4 hf6
        clear hf5
        go_wp2_with fail
        go_roundw
        case rel => exact ⟨k + 1, by omega, by go_num, by rw [Hsn.out]; exact Ho4.out, Hf6.out⟩
        case measure => simp [intOf]; omega
      · rw [if_pos hh] at hsn
        have Ho := Lib.hid ho
        have Hf := Lib.hid hf
        have Hx := Lib.hid hx
        have Hsn := Lib.hid hsn
        have Hrn := Lib.hid hrn
        have Hwz := Lib.hid hwz
        have Hol := Lib.hid hol
        clear ho hf hx hsn hrn hwz hol
        go_wp2_with fail
        refine (hasText_any a2 m c2 ns x.name _ Hrn.out).mono ?_
        rintro e w1 ⟨rfl, rfl⟩
        rw [hh]
        have Hh := Lib.hid hh
        clear hh
        go_wp2_with fail
        go_roundw
        case rel => exact ⟨k + 1, by omega, by go_num, by rw [Hsn.out]; exact Ho.out, Hf.out⟩
        case measure => simp [intOf]; omega
    · rw [List.take_of_length_le (by rw [Hl.out]; omega)] at ho
      have Ho := Lib.hid ho
      have Hf := Lib.hid hf
      clear ho hf
      go_wp2_with fail
      go_ret
      exact ⟨_, rfl, Ho.out, Hf.out⟩

set_option maxHeartbeats 2000000 in
theorem ref_set (a : Option Addr) (n c : Nat) (l : List Hd) (a2 : Option Addr) (m c2 : Nat) (b : List Hd) (w : World) (h : Rd hdE w a n l) (hsp : ∀ x, a = some x → x.spot = none) (hn : n ≤ 1000) (h2 : Rd hdE w a2 m b) :
    Calls Tryd.prog 41 #[.slice a n c, .slice a2 m c2] w fun e w' => ∃ v, e = .returned v ∧ Own hdE w' w.heap.size 50 v (setAll l b) ∧ Frm noB w w' := by
  have hl := h.1
  have hl2 := h2.1
  have hm := h2.2.1
  obtain ⟨i, hi, hz, hz1, hz2⟩ := info_parts info_hd
  have hmm : ([] : List Hd).length + n ≤ 1000000 := by simp; omega
  have Hh := Lib.hid h
  have Hl := Lib.hid hl
  have Hl2 := Lib.hid hl2
  have H2 := Lib.hid h2
  have Hsp := Lib.hid hsp
  have Hmm := Lib.hid hmm
  clear h hl hl2 h2 hsp hmm
  go_enter Tryd.func41, Tryd.ntmps41
  go_wp2_with (at_builtin; refine wpl_appR hdE _ (by rfl) _ _ _ (by rfl) w.heap.size 50 i _ 32 Tryd.underlying23 hi hz hz1 hz2 rfl (by decide) (by omega) (.slice none 0 0) [] (by rfl) (Own.nil _ _ _ _) a n c l (by rfl) Hh.out Hsp.out Hmm.out (Nat.le_refl _) ?_)
  intro v1 w1 ho1 hf1 _
  have hf2 : Frm noB w w1 := hf1.mono (fun i _ hh => by simp [Value.ownBlock] at hh)
  have Ho1 := Lib.hid ho1
  have Hf2 := Lib.hid hf2
  clear ho1 hf2
  clear hf1 hi hz hz1 hz2
  go_wp2_with fail
  go_loopw [5, 6] (fun o i wr => ∃ k : Nat, k ≤ m ∧ i = .int .i64 k ∧ Own hdE wr w.heap.size 50 o (setAll l (b.take k)) ∧ Frm noB w wr) (fun _ i _ => m - (intOf i).toNat)
  case atStart => exact ⟨0, by omega, rfl, Ho1.out, Hf2.out⟩
  case round =>
    obtain ⟨k, hk, rfl, ho, hf⟩ := hrel
    by_cases hlt : k < m
    · obtain ⟨x, hx⟩ := get_of_lt (l := b) (j := k) (by rw [Hl2.out]; exact hlt)
      have hrd2 := H2.out.keep hf
      obtain ⟨b2, off2, rfl, hbl, c0, c1⟩ := hd_rd hrd2 hx
      have hsn := setAll_snoc (l := l) hx
      have hL : (setAll l (b.take k)).length ≤ 1000 := setAll_le _ _ (by omega) _ (by rw [Hl.out]; exact hn)
      have Ho := Lib.hid ho
      have Hf := Lib.hid hf
      have Hx := Lib.hid hx
      have Hsn := Lib.hid hsn
      have HL := Lib.hid hL
      have Hrd2 := Lib.hid hrd2
      clear ho hf hx hsn hL hrd2
      go_wp2_with fail
      refine (set_any u5 (setAll l (b.take k)) x w.heap.size _ Ho.out HL.out).mono ?_
      rintro e w2 ⟨v', rfl, ho2, hf3⟩
      have ho3 := ho2.base Hf.out.size
      rw [← Hsn.out] at ho3
      have hf4 := Hf.out.trans hf3
      have Ho3 := Lib.hid ho3
      have Hf4 := Lib.hid hf4
      clear ho3 hf4
      clear ho2 hf3
      go_wp2_with fail
      go_roundw
      case rel => exact ⟨k + 1, by omega, by go_num, Ho3.out, Hf4.out⟩
      case measure => simp [intOf]; omega
    · obtain rfl : k = m := by omega
      rw [List.take_of_length_le (by rw [Hl2.out]; omega)] at ho
      have Ho := Lib.hid ho
      have Hf := Lib.hid hf
      clear ho hf
      go_wp2_with fail
      go_ret
      exact ⟨_, rfl, Ho.out, Hf.out⟩
end Go.Proofs.YtbeilgkogbcjjaaDoor
