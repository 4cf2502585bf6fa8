/- The walk of the statement HeadsRoom. -/
import Derived.Test.YtgajlpahhfenaaaDoorHeadHV
import Derived.Outline
set_option linter.unusedVariables false
namespace Go.Proofs.YtgajlpahhfenaaaDoor
open Go.RowKit

/-- The unlike names of heads, one list behind the other. -/
def addN (N : List ByteArray) (s : ByteArray) : List ByteArray := if hasT N s then N else N ++ [s]
def unl (N : List ByteArray) (l : List Hd) : List ByteArray := l.foldl (fun N h => addN N h.name) N
theorem unl_snoc {N : List ByteArray} {l : List Hd} {k : Nat} {x : Hd} (hx : l[k]? = some x) : unl N (l.take (k + 1)) = addN (unl N (l.take k)) x.name := by
  unfold unl
  rw [List.take_add_one, hx, List.foldl_append]; rfl
theorem hasT_iff (N : List ByteArray) (s : ByteArray) : hasT N s = true ↔ s ∈ N := by
  unfold hasT
  rw [List.any_eq_true]
  constructor
  · rintro ⟨x, hx, e⟩
    have : x = s := by simpa using e
    rw [← this]; exact hx
  · intro h
    exact ⟨s, h, by simp⟩
/-- What is set has the first eight of the names. -/
theorem room_step {L : List Hd} {N : List ByteArray} (h : L.map (·.name) = N.take 8) (x : Hd) : (setL L x).map (·.name) = (addN N x.name).take 8 := by
  have hl : L.length = min 8 N.length := by have := congrArg List.length h; simpa using this
  unfold setL addN
  by_cases h1 : hasN L x.name = true
  · have hm : x.name ∈ N := List.mem_of_mem_take (by rw [← h]; exact (hasN_map L x.name).1 h1)
    rw [if_pos h1, putL_names, if_pos ((hasT_iff N x.name).2 hm)]; exact h
  · rw [if_neg h1]
    by_cases h2 : hasT N x.name = true
    · rw [if_pos h2]
      have h8 : ¬ L.length < 8 := by
        intro h8
        have : N.take 8 = N := List.take_of_length_le (by omega)
        rw [this] at h
        exact h1 ((hasN_map L x.name).2 (by rw [h]; exact (hasT_iff N x.name).1 h2))
      rw [if_neg h8]; exact h
    · rw [if_neg h2]
      by_cases h8 : L.length < 8
      · have e : N.take 8 = N := List.take_of_length_le (by omega)
        rw [if_pos h8, List.map_append, h, e, List.take_of_length_le (by simp; omega)]; rfl
      · rw [if_neg h8, h, List.take_append_of_le_length (by omega)]
theorem room_all (b : List Hd) : ∀ (L : List Hd) (N : List ByteArray), L.map (·.name) = N.take 8 → (setAll L b).map (·.name) = (unl N b).take 8 := by
  induction b with
  | nil => intro L N h; exact h
  | cons x t ih => intro L N h; exact ih _ _ (room_step h x)
theorem room_len {L b : List Hd} (hL : L.length ≤ 8) : (setAll L b).length = min 8 (unl (L.map (·.name)) b).length := by
  have := congrArg List.length (room_all b L (L.map (·.name)) (by rw [List.take_of_length_le (by simpa using hL)]))
  simpa using this
theorem unl_len (b : List Hd) : ∀ N : List ByteArray, (unl N b).length ≤ N.length + b.length := by
  induction b with
  | nil => intro N; exact Nat.le_refl _
  | cons x t ih =>
    intro N
    have h1 := ih (addN N x.name)
    have h2 : (addN N x.name).length ≤ N.length + 1 := by unfold addN; split <;> simp
    show (unl (addN N x.name) t).length ≤ _
    simp only [List.length_cons]; omega

theorem clamp_any (n : Int) (w : World) (h0 : 0 ≤ n) (h1 : n ≤ 1000) : Calls Tryd.prog 25 #[.int .i64 n, .int .i64 0, .int .i64 8] w fun e w' => e = .returned (.int .i64 (min 8 n)) ∧ w = w' := by
  by_cases h : n ≤ 8
  · have e : min 8 n = n := by omega
    have e2 : ¬ n < 0 := by omega
    have e3 : ¬ 8 < n := by omega
    have e4 : min n 8 = n := by omega
    have He := Lib.hid e
    have He4 := Lib.hid e4
    clear e e4
    go_enter Tryd.func25, Tryd.ntmps25
    go_wp2_with fail
    go_ret
    exact ⟨by rw [He.out]; rfl, rfl⟩
  · have e : min 8 n = 8 := by omega
    have e2 : ¬ n < 0 := by omega
    have e3 : 8 < n := by omega
    have He := Lib.hid e
    clear e
    go_enter Tryd.func25, Tryd.ntmps25
    go_wp2_with fail
    go_ret
    exact ⟨by rw [He.out]; rfl, rfl⟩

set_option maxRecDepth 100000 in
set_option maxHeartbeats 4000000 in
theorem headsRoom_walk (a0 : Option Addr) (len0 cap0 : Nat) (z0 : List Int) (a1 : Option Addr) (len1 cap1 : Nat) (z1 : List Int) (w : World) (w0 : IsRow .i64 w a0 len0 cap0 z0) (w1 : IsRow .i64 w a1 len1 cap1 z1) :
    Calls Tryd.prog 6 #[.slice a0 len0 cap0, .slice a1 len1 cap1] w fun e w' => e = .returned (.bool true) ∧ Below w.heap.size w w' := by
  obtain ⟨xs, h0⟩ := w0.list
  obtain ⟨ys, h1⟩ := w1.list
  have hg := GoodL.gen (xs.take 12)
  have hgl : (genH (xs.take 12)).length ≤ 8 := hg.len
  have hml : (someH (ys.take 12)).length ≤ 12 := by unfold someH; rw [List.length_map, List.length_take]; omega
  have hroom := room_len (b := someH (ys.take 12)) hgl
  have H0 := Lib.hid h0
  have H1 := Lib.hid h1
  have Hg := Lib.hid hg
  have Hgl := Lib.hid hgl
  have Hml := Lib.hid hml
  have Hroom := Lib.hid hroom
  clear h0 h1 hg hgl hml hroom
  clear w0 w1
  go_enter Tryd.func6, Tryd.ntmps6
  go_wp2_with fail
  with_reducible refine (heads_hv a0 len0 cap0 xs _ H0.out).mono ?_
  rintro e x1 ⟨va, rfl, ha, hf1⟩
  have h1' := H1.out.keep hf1
  have Ha := Lib.hid ha
  have Hf1 := Lib.hid hf1
  have H1' := Lib.hid h1'
  clear ha hf1 h1'
  go_wp2_with fail
  with_reducible refine (some_hv a1 len1 cap1 ys _ H1'.out).mono ?_
  rintro e x2 ⟨vb, rfl, hb, hf2⟩
  have ha2 := Ha.out.keep hf2
  have hf2 := Hf1.out.trans hf2
  generalize genH (xs.take 12) = L at *
  generalize someH (ys.take 12) = M at *
  obtain ⟨a1', a2', rfl, hra, hcc⟩ := ha2.shape
  clear hcc
  obtain ⟨b1', b2', rfl, hrb, hcc⟩ := hb.shape
  clear hcc
  obtain ⟨n, hn⟩ : ∃ n, n = L.length := ⟨_, rfl⟩
  obtain ⟨m, hm⟩ : ∃ m, m = M.length := ⟨_, rfl⟩
  rw [← hn] at hra ha2 ⊢
  rw [← hm] at hrb hb ⊢
  have hn8 : n ≤ 8 := by have := Hgl.out; omega
  have hm12 : m ≤ 12 := by have := Hml.out; omega
  have Ha2 := Lib.hid ha2
  have Hb := Lib.hid hb
  have Hf2 := Lib.hid hf2
  have Hra := Lib.hid hra
  have Hrb := Lib.hid hrb
  have Hn := Lib.hid hn
  have Hm := Lib.hid hm
  clear ha2 hb hf2 hra hrb hn hm
  go_wp2_with fail
  go_loopw [7, 8] (fun o i wr => ∃ k : Nat, k ≤ n ∧ i = .int .i64 k ∧ Own strE wr x2.heap.size 9 o ((L.take k).map (·.name)) ∧ Frm noB x2 wr) (fun _ i _ => n - (intOf i).toNat)
  case atStart => exact ⟨0, by omega, rfl, Own.nil _ _ _ _, Frm.refl _ _⟩
  case round =>
    obtain ⟨k, hk, rfl, ho, hf⟩ := hrel
    by_cases hlt : k < n
    · obtain ⟨x, hx⟩ := get_of_lt (l := L) (j := k) (by rw [← Hn.out]; exact hlt)
      obtain ⟨b, off, rfl, hbl, c0, c1⟩ := hd_rd (Hra.out.keep hf) hx
      have hsn : (L.take (k + 1)).map (·.name) = (L.take k).map (·.name) ++ [x.name] := by rw [take_snoc hx, List.map_append]; rfl
      obtain ⟨N, hN⟩ : ∃ N, N = (L.take k).map (·.name) := ⟨_, rfl⟩
      have hNl : N.length ≤ 1000000 := by rw [hN, List.length_map, List.length_take]; omega
      rw [← hN] at ho hsn
      have hwz := hf.size
      have Ho := Lib.hid ho
      have Hf := Lib.hid hf
      have Hx := Lib.hid hx
      have Hsn := Lib.hid hsn
      have HN := Lib.hid hN
      have HNl := Lib.hid hNl
      have Hwz := Lib.hid hwz
      clear ho hf hx hsn hN hNl hwz
      go_wp2_with (at_builtin; refine app_str _ (by rfl) _ _ (by rfl) x2.heap.size _ N (by rfl) Ho.out x.name _ (by rfl) _ rfl (by rfl) HNl.out Hwz.out ?_)
      intro v' w3 ho2 _ hf3 _ _
      have hf4 := Hf.out.new hf3 (fun i hi hh => by have := (Ho.out.lt i hh.symm).1; omega)
      have Ho2 := Lib.hid ho2
      have Hf4 := Lib.hid hf4
      clear ho2 hf4
      clear hf3
      go_wp2_with fail
      go_roundw
      case rel => exact ⟨k + 1, by omega, by go_num, by rw [Hsn.out]; exact Ho2.out, Hf4.out⟩
      case measure => simp [intOf]; omega
    · obtain rfl : k = n := by omega
      rw [List.take_of_length_le (by rw [← Hn.out]; exact Nat.le_refl _)] at ho
      obtain ⟨N0, hN0⟩ : ∃ N0, N0 = L.map (·.name) := ⟨_, rfl⟩
      have hN0l : N0.length ≤ 8 := by rw [hN0, List.length_map, ← Hn.out]; exact hn8
      rw [← hN0] at ho Hroom
      have Ho := Lib.hid ho
      have Hf := Lib.hid hf
      have HN0 := Lib.hid hN0
      clear ho hf hN0
      go_wp2_with fail
      go_loopw [7, 9] (fun o i wy => ∃ j : Nat, j ≤ m ∧ i = .int .i64 j ∧ Own strE wy x2.heap.size 9 o (unl N0 (M.take j)) ∧ Frm noB x2 wy) (fun _ i _ => m - (intOf i).toNat)
      case atStart => exact ⟨0, by omega, rfl, Ho.out, Hf.out⟩
      case round =>
        obtain ⟨j, hj, rfl, ho, hf⟩ := hrel
        by_cases hlt : j < m
        · obtain ⟨x, hx⟩ := get_of_lt (l := M) (j := j) (by rw [← Hm.out]; exact hlt)
          obtain ⟨b, off, rfl, hbl, c0, c1⟩ := hd_rd (Hrb.out.keep hf) hx
          have hsn := unl_snoc (N := N0) hx
          have hNl : (unl N0 (M.take j)).length ≤ 1000000 := by have := unl_len (M.take j) N0; rw [List.length_take] at this; omega
          generalize unl N0 (M.take j) = N at *
          obtain ⟨oa, oc, rfl, hro⟩ := ho.rd
          obtain ⟨nN, hnN⟩ : ∃ nN, nN = N.length := ⟨_, rfl⟩
          rw [← hnN] at hro ho ⊢
          have hwz := hf.size
          cases hh : hasT N x.name
          · have ha : addN N x.name = N ++ [x.name] := by unfold addN; rw [if_neg (by rw [hh]; simp)]
            rw [ha] at hsn
            have Ho := Lib.hid ho
            have Hf := Lib.hid hf
            have Hx := Lib.hid hx
            have Hsn := Lib.hid hsn
            have HNl := Lib.hid hNl
            have Hwz := Lib.hid hwz
            have Hro := Lib.hid hro
            have HnN := Lib.hid hnN
            have Ha := Lib.hid ha
            clear ho hf hx hsn hNl hwz hro hnN ha
            go_wp2_with fail
            refine (hasText_any oa nN oc N x.name _ Hro.out).mono ?_
            rintro e w1 ⟨rfl, rfl⟩
            rw [hh]
            have Hh := Lib.hid hh
            clear hh
            go_wp2_with (at_builtin; refine app_str _ (by rfl) _ _ (by rfl) x2.heap.size _ N (by rfl) Ho.out x.name _ (by rfl) _ rfl (by rfl) HNl.out Hwz.out ?_)
            intro v' w3 ho2 _ hf3 _ _
            have hf4 := Hf.out.new hf3 (fun i hi hh => by have := (Ho.out.lt i hh.symm).1; omega)
            have Ho2 := Lib.hid ho2
            have Hf4 := Lib.hid hf4
            clear ho2 hf4
            clear hf3
            go_wp2_with fail
            go_roundw
            case rel => exact ⟨j + 1, by omega, by go_num, by rw [Hsn.out]; exact Ho2.out, Hf4.out⟩
            case measure => simp [intOf]; omega
          · have ha : addN N x.name = N := by unfold addN; rw [if_pos hh]
            rw [ha] at hsn
            have Ho := Lib.hid ho
            have Hf := Lib.hid hf
            have Hx := Lib.hid hx
            have Hsn := Lib.hid hsn
            have HNl := Lib.hid hNl
            have Hwz := Lib.hid hwz
            have Hro := Lib.hid hro
            have HnN := Lib.hid hnN
            have Ha := Lib.hid ha
            clear ho hf hx hsn hNl hwz hro hnN ha
            go_wp2_with fail
            refine (hasText_any oa nN oc N x.name _ Hro.out).mono ?_
            rintro e w1 ⟨rfl, rfl⟩
            rw [hh]
            have Hh := Lib.hid hh
            clear hh
            go_wp2_with fail
            go_roundw
            case rel => exact ⟨j + 1, by omega, by go_num, by rw [Hsn.out]; exact Ho.out, Hf.out⟩
            case measure => simp [intOf]; omega
        · obtain rfl : j = m := by omega
          rw [List.take_of_length_le (by rw [← Hm.out]; exact Nat.le_refl _)] at ho
          have hNl : (unl N0 M).length ≤ 1000 := by have := unl_len M N0; rw [← Hm.out] at this; omega
          generalize unl N0 M = N at *
          obtain ⟨oa, oc, rfl, hro⟩ := ho.rd
          clear hro
          obtain ⟨nN, hnN⟩ : ∃ nN, nN = N.length := ⟨_, rfl⟩
          rw [← hnN] at ho hNl Hroom ⊢
          have ha3 := Ha2.out.keep hf
          have hb3 := Hb.out.keep hf
          have hfw := Hf2.out.trans hf
          have Ho := Lib.hid ho
          have Hf := Lib.hid hf
          have HnN := Lib.hid hnN
          have Ha3 := Lib.hid ha3
          have Hb3 := Lib.hid hb3
          have Hfw := Lib.hid hfw
          clear ho hf hnN ha3 hb3 hfw
          go_wp2_with fail
          refine (set_hv _ _ L M _ Ha3.out (by have := Hgl.out; omega) Hg.out.nd Hb3.out).mono ?_
          rintro e y1 ⟨vs, rfl, hs, hg1⟩
          obtain ⟨s1, s2, rfl, hxx⟩ := hs.shape
          clear hxx
          have hsl : ((setAll L M).length : Int) = min 8 (nN : Int) := by rw [Hroom.out]; omega
          generalize (setAll L M).length = nS at *
          have hfy := Hfw.out.trans hg1
          have heq : ((nS : Int) == min 8 (nN : Int)) = true := by rw [hsl]; simp
          have Hs := Lib.hid hs
          have Hsl := Lib.hid hsl
          have Hfy := Lib.hid hfy
          clear hs hsl hfy
          clear hg1
          go_wp2_with fail
          refine (clamp_any (nN : Int) _ (by omega) (by omega)).mono ?_
          rintro e y2 ⟨rfl, rfl⟩
          generalize min 8 (nN : Int) = mm at *
          go_wp2_with fail
          refine (hlives_any _).mono ?_
          rintro e y3 ⟨rfl, hg3⟩
          have hf10 := Hfy.out.trans hg3
          have Hf10 := Lib.hid hf10
          clear hf10
          clear hg3
          go_wp2_with fail
          go_ret
          exact ⟨rfl, Hf10.out.below (Nat.le_refl _) (fun _ _ h => h)⟩
end Go.Proofs.YtgajlpahhfenaaaDoor
