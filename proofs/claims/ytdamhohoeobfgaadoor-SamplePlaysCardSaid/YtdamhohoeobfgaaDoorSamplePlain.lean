/- Plain: requests from 1 to 6. -/
import Derived.Test.YtdamhohoeobfgaaDoorSampleMisc
set_option linter.unusedVariables false
namespace Go.Proofs.YtdamhohoeobfgaaDoor
open Go.RowKit

theorem nodup_len : ∀ (n : Nat) (l : List Int), l.Nodup → (∀ x ∈ l, 1 ≤ x ∧ x ≤ (n : Int)) → l.length ≤ n
  | 0, l, _, h => by
    cases l with
    | nil => simp
    | cons a l => have := h a (by simp); omega
  | n + 1, l, hn, h => by
    by_cases hm : ((n : Int) + 1) ∈ l
    · have := nodup_len n (l.erase ((n : Int) + 1)) (hn.erase _) (fun x hx => by
        have h1 := (List.Nodup.mem_erase_iff hn).1 hx
        have h2 := h x h1.2
        have h3 := h1.1
        omega)
      rw [List.length_erase_of_mem hm] at this
      omega
    · have := nodup_len n l hn (fun x hx => by
        have h2 := h x hx
        have h3 : x ≠ (n : Int) + 1 := fun e => hm (e ▸ hx)
        omega)
      omega
theorem reqs_six {L : List Spn} (h : ∀ s ∈ L, SpanOk s) : (reqsL L).length ≤ 6 := by
  refine nodup_len 6 _ (reqsL_nodup L) (fun x hx => ?_)
  obtain ⟨s, hs, rfl⟩ := (mem_reqsL L x).1 hx
  exact ⟨(h s hs).lo, (h s hs).hi⟩
theorem never_full {L : List Spn} (h : ∀ s ∈ L, SpanOk s) (x : Spn) : goneL 9 L x = [] ∧ addL 9 L x = L ++ [x] := by
  have h1 := reqs_six h
  have h2 : fullB 9 L x = false := by unfold fullB; rw [decide_eq_false (by omega), Bool.and_false]
  unfold goneL addL
  rw [h2]
  exact ⟨rfl, rfl⟩
theorem over_gone (L : List Spn) (k p : Int) : overL false 99 10 p (othersL L k) k = [] := by
  have : keepB false 99 10 k p = true := rfl
  unfold overL; rw [this, if_pos rfl, ofL_others_same]
theorem ok_app {L : List Spn} {x : Spn} (h : ∀ s ∈ L, SpanOk s) (hx : SpanOk x) : ∀ s ∈ L ++ [x], SpanOk s := by
  intro s hs
  rcases List.mem_append.1 hs with h1 | h1
  · exact h s h1
  · rw [List.mem_singleton] at h1; subst h1; exact hx
theorem ok_nm {L : List Spn} (h : ∀ s ∈ L, SpanOk s) : ∀ s ∈ L, NmS s := fun s hs => (h s hs).nm
set_option maxHeartbeats 1000000 in
theorem rsame_empty (a0 : Option Addr) (c0 : Nat) (v : Value) (L : List Spn) (base : Nat) (w : World) (h : Own spnE w base 39 v L) :
    Calls Tryd.prog 16 #[.slice a0 0 c0, v] w fun e w' => e = .returned (.bool (decide (L.length = 0))) ∧ Frm noB w w' := by
  obtain ⟨a, c, rfl, hl, hg⟩ := h.shape
  obtain ⟨n, hn⟩ : ∃ n, n = L.length := ⟨_, rfl⟩
  rw [← hn] at hl hg h ⊢
  have Hh := Lib.hid h
  have Hg := Lib.hid hg
  have Hn := Lib.hid hn
  clear h hg hn
  go_enter Tryd.func16, Tryd.ntmps16
  by_cases h0 : n = 0
  · subst h0
    go_wp2_with fail
    refine wp_loop_once ?_
    go_wp2_with fail
    go_ret
    exact ⟨rfl, Frm.refl _ _⟩
  · have hb : ((0 : Int) != (n : Int)) = true := by rw [bne_iff_ne]; omega
    have hd : decide (n = 0) = false := by simpa using h0
    have Hd := Lib.hid hd
    clear hd
    go_wp2_with fail
    go_ret
    exact ⟨by rw [Hd.out]; rfl, Frm.refl _ _⟩
end Go.Proofs.YtdamhohoeobfgaaDoor
