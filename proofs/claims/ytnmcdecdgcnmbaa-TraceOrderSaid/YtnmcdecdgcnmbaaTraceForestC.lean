/- trace.Forest. -/
import Derived.Test.YtnmcdecdgcnmbaaTraceSpans
import Derived.Test.YtnmcdecdgcnmbaaTraceUp
set_option linter.unusedVariables false
namespace Go.Proofs.Ytnmcdecdgcnmbaa
open Go.RowKit

def inN (L : List Spn) (n : List UInt8) : Bool := L.any fun x => (Lit.string n).sameKey (nameK x)
def dupFree (L : List Spn) : Bool := (List.range L.length).all fun j => match L[j]? with
  | some x => !isIn (L.take j) x
  | none => true
def upsIn (L : List Spn) : Bool := L.all fun s => (upL s.name.data.toList).isEmpty || inN L (upL s.name.data.toList)
def forestB (L : List Spn) : Bool := dupFree L && upsIn L
theorem notedF_snoc {L : List Spn} {k : Nat} {x : Spn} (hk : L[k]? = some x) (l : Lit) (hl : WideAt.IsKeyLit l) : notedF (L.take (k + 1)) l = setF (notedF (L.take k)) (nameK x) (some (.bool true)) l := by
  rw [List.take_add_one, hk]
  exact notedF_app _ _ _ hl
theorem dup_hit {L : List Spn} {k : Nat} {x : Spn} (hk : L[k]? = some x) (h : isIn (L.take k) x = true) : forestB L = false := by
  unfold forestB
  have : dupFree L = false := by
    unfold dupFree
    rw [List.all_eq_false]
    exact ⟨k, List.mem_range.2 (get_lt hk), by rw [hk]; simp [h]⟩
  rw [this]; rfl
theorem up_miss {L : List Spn} {x : Spn} (hx : x ∈ L) (hu : (upL x.name.data.toList).isEmpty = false) (h : inN L (upL x.name.data.toList) = false) : forestB L = false := by
  unfold forestB
  have : upsIn L = false := by
    unfold upsIn
    rw [List.all_eq_false]
    exact ⟨x, hx, by rw [hu, h]; simp⟩
  rw [this, Bool.and_false]
theorem forest_yes {L : List Spn} (h1 : ∀ k x, L[k]? = some x → isIn (L.take k) x = false) (h2 : ∀ x ∈ L, (upL x.name.data.toList).isEmpty = true ∨ inN L (upL x.name.data.toList) = true) : forestB L = true := by
  unfold forestB
  rw [Bool.and_eq_true]
  constructor
  · unfold dupFree
    rw [List.all_eq_true]
    intro k _
    split
    · rename_i x hx; rw [h1 k x hx]; rfl
    · rfl
  · unfold upsIn
    rw [List.all_eq_true]
    intro x hx
    rcases h2 x hx with h | h <;> simp [h]

set_option maxHeartbeats 2000000 in
theorem forest_any (a : Option Addr) (n c : Nat) (L : List Spn) (w : World) (h : Rd spnE w a n L) (hn : n ≤ 1000) (hN : ∀ s ∈ L, s.name.size ≤ 1000000) :
    Calls Try.prog 21 #[.slice a n c] w fun e w' => e = .returned (.bool (forestB L)) ∧ Frm noB w w' := by
  have hl := h.1
  have hmm := fun (w : World) (n : Int) => run_makeMap_hint (t := 26) Try.underlying26 n w
  have hm0 := VMap.made w Try.prog 9
  have Hh := Lib.hid h
  have Hl := Lib.hid hl
  have HN := Lib.hid hN
  have Hm0 := Lib.hid hm0
  clear h hl hN hm0
  go_enter Try.func21, Try.ntmps21
  go_wp2_with fail
  go_loopw [2, 14] (fun r i wr => ∃ k sz : Nat, k ≤ n ∧ r = .bool false ∧ i = .int .i64 k ∧ VMap wr Try.prog 9 w.heap.size k sz (notedF (L.take k)) ∧ Frm noB w wr ∧ ∀ j x, j < k → L[j]? = some x → isIn (L.take j) x = false) (fun _ i _ => n - (intOf i).toNat)
  case atStart => exact ⟨0, 0, by omega, rfl, rfl, Hm0.out, (Frm.refl _ _).alloc _, by omega⟩
  case round =>
    obtain ⟨k, sz, hk, rfl, rfl, hm, hf, hnd⟩ := hrel
    by_cases hlt : k < n
    · obtain ⟨x, hx⟩ := get_of_lt (l := L) (j := k) (by rw [Hl.out]; exact hlt)
      have hxs := HN.out x (List.mem_of_getElem? hx)
      obtain ⟨b, off, rfl, hb, c0, c1, c2, c3, c4, c5⟩ := spn_rd (Hh.out.keep hf) hx
      have hkS := Go.WideMaps.keyOf_string_mk Try.underlying9 (show x.name.size ≤ maxLen by simp only [maxLen]; omega)
      have hm1 := hm.frm ((Frm.refl noB wr).alloc (.cells (boxS x) 35)) (fun h => h)
      have hlk := hm1.look (t := 26) keyS Try.underlying26 (zeroB _) hkS
      rw [show notedF (L.take k) (.string x.name.data.toList) = if isIn (L.take k) x then some (.bool true) else none from rfl] at hlk
      simp only [boxS] at hlk hm1
      cases hi : isIn (L.take k) x
      · obtain ⟨w1, hrun, hv1, hf1⟩ := hm1.store (t := 26) keyS Try.underlying26 (by simp only [maxLen]; omega) hkS (.bool true)
        have hv2 := hv1.congr (notedF_snoc hx)
        have hf2 := ((hf.alloc (.cells #[.string x.name, .int .i64 x.serv, .int .i64 x.frm, .int .i64 x.til, .bool x.well, .int .i64 x.kids] 35)).new hf1 (fun i hi h => by simp only [oneB] at h; omega))
        have hnd2 : ∀ j y, j < k + 1 → L[j]? = some y → isIn (L.take j) y = false := fun j y hj hy => by
          rcases Nat.lt_or_ge j k with h | h
          · exact hnd j y h hy
          · obtain rfl : j = k := by omega
            rw [hx] at hy; simp at hy; subst hy; exact hi
        rw [hi] at hlk
        simp at hlk
        have Hm := Lib.hid hm
        have Hf := Lib.hid hf
        have Hnd := Lib.hid hnd
        have Hx := Lib.hid hx
        have Hm1 := Lib.hid hm1
        have Hv1 := Lib.hid hv1
        have Hf1 := Lib.hid hf1
        have Hv2 := Lib.hid hv2
        have Hf2 := Lib.hid hf2
        have Hnd2 := Lib.hid hnd2
        have HkS := Lib.hid hkS
        have Hi := Lib.hid hi
        clear hm hf hnd hx hm1 hv1 hf1 hv2 hf2 hnd2 hkS hi
        go_wp2_with fail
        go_roundw
        case rel => exact ⟨k + 1, _, by omega, rfl, by go_num, Hv2.out, Hf2.out, Hnd2.out⟩
        case measure => simp [intOf]; omega
      · have hv := dup_hit hx hi
        rw [hi] at hlk
        simp at hlk
        have Hm := Lib.hid hm
        have Hf := Lib.hid hf
        have Hnd := Lib.hid hnd
        have Hx := Lib.hid hx
        have Hm1 := Lib.hid hm1
        have Hv := Lib.hid hv
        have HkS := Lib.hid hkS
        have Hi := Lib.hid hi
        clear hm hf hnd hx hm1 hv hkS hi
        go_wp2_with fail
        go_ret
        exact ⟨ret_bool Hv.out.symm, Hf.out.alloc _⟩
    · obtain rfl : k = n := by omega
      rw [List.take_of_length_le (by rw [Hl.out]; exact Nat.le_refl _)] at hm
      have hnd2 : ∀ j y, L[j]? = some y → isIn (L.take j) y = false := fun j y hy => hnd j y (by rw [← Hl.out]; exact get_lt hy) hy
      have Hm := Lib.hid hm
      have Hf := Lib.hid hf
      have Hnd := Lib.hid hnd
      have Hnd2 := Lib.hid hnd2
      clear hm hf hnd hnd2
      go_wp2_with fail
      obtain ⟨wo, rfl⟩ : ∃ wo : World, wo = wr := ⟨_, rfl⟩
      go_loopw [2, 28] (fun r i wr => ∃ j : Nat, j ≤ k ∧ r = .bool false ∧ i = .int .i64 j ∧ Frm noB wo wr ∧ ∀ x ∈ L.take j, (upL x.name.data.toList).isEmpty = true ∨ inN L (upL x.name.data.toList) = true) (fun _ i _ => k - (intOf i).toNat)
      case atStart => exact ⟨0, by omega, rfl, rfl, Frm.refl _ _, by simp⟩
      case round =>
        obtain ⟨j, hj, rfl, rfl, hfw, hin⟩ := hrel
        by_cases hlt : j < k
        · obtain ⟨x, hx⟩ := get_of_lt (l := L) (j := j) (by rw [Hl.out]; exact hlt)
          have hxs := HN.out x (List.mem_of_getElem? hx)
          have hff := Hf.out.trans hfw
          obtain ⟨b, off, rfl, hb, c0, c1, c2, c3, c4, c5⟩ := spn_rd (Hh.out.keep hff) hx
          have hul := upL_le x.name.data.toList
          rw [ba_len] at hul
          have hus : (bs (upL x.name.data.toList)).size ≤ maxLen := by rw [bs_size]; simp only [maxLen]; omega
          have hkS := Go.WideMaps.keyOf_string_mk Try.underlying9 hus
          have hm1 := Hm.out.frm (hfw.alloc (.cells (boxS x) 35)) (fun h => h)
          have hlk := hm1.look (t := 26) keyS Try.underlying26 (zeroB _) hkS
          rw [bs_list, show notedF L (.string (upL x.name.data.toList)) = if inN L (upL x.name.data.toList) then some (.bool true) else none from rfl] at hlk
          simp only [boxS] at hlk
          have htk : L.take (j + 1) = L.take j ++ [x] := by rw [List.take_add_one, hx]; rfl
          have hem := bs_isEmpty (upL x.name.data.toList)
          have hxm := List.mem_of_getElem? hx
          have hext : (upL x.name.data.toList).isEmpty = true ∨ inN L (upL x.name.data.toList) = true → ∀ y ∈ L.take (j + 1), (upL y.name.data.toList).isEmpty = true ∨ inN L (upL y.name.data.toList) = true := fun h y hy => by
            rw [htk] at hy
            rcases List.mem_append.1 hy with h1 | h1
            · exact hin y h1
            · simp at h1; subst h1; exact h
          cases he : (upL x.name.data.toList).isEmpty
          · rw [he] at hem
            cases hi : inN L (upL x.name.data.toList)
            · have hv := up_miss hxm he hi
              rw [hi] at hlk
              simp at hlk
              have Hfw := Lib.hid hfw
              have Hin := Lib.hid hin
              have Hx := Lib.hid hx
              have Hff := Lib.hid hff
              have Htk := Lib.hid htk
              have Hxm := Lib.hid hxm
              have Hext := Lib.hid hext
              have Hv := Lib.hid hv
              have HkS := Lib.hid hkS
              have Hm1 := Lib.hid hm1
              have He := Lib.hid he
              have Hi := Lib.hid hi
              clear hfw hin hx hff htk hxm hext hv hkS hm1 he hi
              go_wp2_with fail
              refine (up_any x.name _ hxs).mono ?_
              rintro e w' ⟨rfl, rfl⟩
              go_wp2_with fail
              go_ret
              exact ⟨ret_bool Hv.out.symm, Hff.out.alloc _⟩
            · have hin2 := hext (.inr hi)
              rw [hi] at hlk
              simp at hlk
              have Hfw := Lib.hid hfw
              have Hin := Lib.hid hin
              have Hx := Lib.hid hx
              have Hff := Lib.hid hff
              have Htk := Lib.hid htk
              have Hxm := Lib.hid hxm
              have Hext := Lib.hid hext
              have Hin2 := Lib.hid hin2
              have HkS := Lib.hid hkS
              have Hm1 := Lib.hid hm1
              have He := Lib.hid he
              have Hi := Lib.hid hi
              clear hfw hin hx hff htk hxm hext hin2 hkS hm1 he hi
              go_wp2_with fail
              refine (up_any x.name _ hxs).mono ?_
              rintro e w' ⟨rfl, rfl⟩
              go_wp2_with fail
              go_roundw
              case rel => exact ⟨j + 1, by omega, rfl, by go_num, Hfw.out.alloc _, Hin2.out⟩
              case measure => simp [intOf]; omega
          · have hin2 := hext (.inl he)
            rw [he] at hem
            have Hfw := Lib.hid hfw
            have Hin := Lib.hid hin
            have Hx := Lib.hid hx
            have Hff := Lib.hid hff
            have Htk := Lib.hid htk
            have Hxm := Lib.hid hxm
            have Hext := Lib.hid hext
            have Hin2 := Lib.hid hin2
            have HkS := Lib.hid hkS
            have Hm1 := Lib.hid hm1
            have He := Lib.hid he
            clear hfw hin hx hff htk hxm hext hin2 hkS hm1 he
            go_wp2_with fail
            refine (up_any x.name _ hxs).mono ?_
            rintro e w' ⟨rfl, rfl⟩
            go_wp2_with fail
            go_roundw
            case rel => exact ⟨j + 1, by omega, rfl, by go_num, Hfw.out.alloc _, Hin2.out⟩
            case measure => simp [intOf]; omega
        · obtain rfl : j = k := by omega
          rw [List.take_of_length_le (by rw [Hl.out]; exact Nat.le_refl _)] at hin
          have hv := forest_yes Hnd2.out hin
          have hff := Hf.out.trans hfw
          have Hfw := Lib.hid hfw
          have Hin := Lib.hid hin
          have Hv := Lib.hid hv
          have Hff := Lib.hid hff
          clear hfw hin hv hff
          go_wp2_with fail
          go_ret
          exact ⟨ret_bool Hv.out.symm, Hff.out⟩
end Go.Proofs.Ytnmcdecdgcnmbaa
