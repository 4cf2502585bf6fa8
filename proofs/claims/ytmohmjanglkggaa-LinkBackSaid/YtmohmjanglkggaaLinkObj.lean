/- Links: cloned faults, New. -/
import Derived.Test.YtmohmjanglkggaaLinkList
set_option linter.unusedVariables false
namespace Go.Proofs.Ytmohmjanglkggaa
open Go.RowKit

set_option maxHeartbeats 400000 in
theorem clone_flt (g n c : Nat) (xs : List Value) (w : World) (base : Nat) (hn : n ≤ 100) (h : w.ownsRow base 41 6 (.slice (some ⟨g, 0, none⟩) n c) n xs) (h1 : ∀ u ∈ xs, u.oneCell' = true) :
    Calls Try.prog 22 #[.slice (some ⟨g, 0, none⟩) n c] w fun e w' => ∃ v, e = .returned v ∧ w'.ownsRow w.heap.size 41 6 v n xs ∧ Frm noB w w' ∧ v ≠ .slice none 0 0 := by
  obtain ⟨i0, hi, hz0, hz1, hz2⟩ := info_parts info_flt
  have heq := fun (w : World) => Lib.run_eql_slice_nil (P := Try.prog) w 23 41 (some ⟨g, 0, none⟩) n c 0 0 Try.underlying23
  have H := Lib.hid h
  clear h
  go_enter Try.func22, Try.ntmps22
  go_wp2_with (at_builtin; refine wpList_append_own _ rfl _ _ 23 rfl w.heap.size 41 i0 _ 6 48 Try.underlying23 hi hz0 hz1 hz2 rfl (by decide) _ 0 [] rfl (World.ownsRow_made w #[] 0 (Nat.le_refl _) (by decide) rfl) ⟨g, 0, none⟩ n c xs rfl ?c1 ?c2 h1 ?c3 ?c4 ?c5 ?_)
  case c1 => exact H.out.1
  case c2 =>
    intro j u hu
    exact (H.out.alloc (.cells #[] 41)).cells rfl j u hu
  case c3 => simp only [maxLen]; omega
  case c4 => omega
  case c5 => simp
  intro v' w1 hown hg hnil
  have Hown := Lib.hid hown
  have Hg := Lib.hid hg
  have Hnil := Lib.hid hnil
  clear hown hg hnil
  go_wp2
  go_ret
  refine ⟨_, rfl, by simpa using Hown.out, ?_, by have := Hnil.out; simpa using this⟩
  exact (((Frm.refl noB w).alloc _).new (Frm.ofGrown Hg.out) (fun i hi h => by simp [Value.ownBlock] at h; omega))

set_option maxHeartbeats 400000 in
theorem clone_nil (w : World) :
    Calls Try.prog 22 #[.slice none 0 0] w fun e w' => e = .returned (.slice none 0 0) ∧ w = w' := by
  have heq := fun (w : World) => Lib.run_eql_slice_nil (P := Try.prog) w 23 41 none 0 0 0 0 Try.underlying23
  go_enter Try.func22, Try.ntmps22
  go_wp2
  go_ret
  exact ⟨rfl, rfl⟩

/-- The cells of a Link: its hop, its faults, 40 counts. -/
def linkCells (hop : Int) (v : Value) (cs : List Int) : Array Value := (.int .i64 hop :: v :: i64s cs).toArray

/-- A Link at a block; its faults lie in a block of their own. -/
structure Lnk (w : World) (b : Nat) (base : Nat) (v : Value) (hop : Int) (fs : List Flt) (cs : List Int) : Prop where
  blk : Blk w b (linkCells hop v cs) 54
  len : cs.length = 40
  few : fs.length ≤ 40
  own : w.ownsRow base 41 6 v fs.length (fltCells fs)
  ok : ∀ f ∈ fs, Okf f
  apart : v.ownBlock ≠ some b

theorem Lnk.frm {S : Nat → Prop} {w w' : World} {b base : Nat} {v : Value} {hop : Int} {fs : List Flt} {cs : List Int} (h : Lnk w b base v hop fs cs) (f : Frm S w w') (hb : ¬ S b) (hs : ∀ k, base ≤ k → k < w.heap.size → v.ownBlock = some k → ¬ S k) :
    Lnk w' b base v hop fs cs :=
  ⟨h.blk.frm f hb, h.len, h.few, by
    refine ⟨h.own.1, ?_⟩
    rcases h.own.2 with h1 | ⟨g, cap, cur, h1, h2, h3, h4⟩
    · exact .inl h1
    · refine .inr ⟨g, cap, cur, h1, h2, ?_, h4⟩
      have hg := (Array.getElem?_eq_some_iff.1 h3).1
      rw [f.block g hg (hs g h2 hg (by rw [h1]; rfl))]; exact h3, h.ok, h.apart⟩

def NewLink (w : World) (hop : Int) (fs : List Flt) (e : Ending) (w' : World) : Prop :=
  ∃ (b : Nat) (v : Value), e = .returned (.pointer (some ⟨b, 0, none⟩)) ∧ w.heap.size ≤ b ∧ Lnk w' b w.heap.size v hop fs (List.replicate 40 0) ∧ Frm noB w w'

set_option maxHeartbeats 1000000 in
theorem new_link (hop : Int) (base n : Nat) (v : Value) (fs : List Flt) (w : World) (hlen : fs.length = n) (hn : n ≤ 40) (h : w.ownsRow base 41 6 v n (fltCells fs)) (hok : ∀ f ∈ fs, Okf f) :
    Calls Try.prog 10 #[.int .i64 hop, v] w (NewLink w hop fs) := by
  have H := Lib.hid h
  have Hok := Lib.hid hok
  have Hlen := Lib.hid hlen
  rcases h.2 with ⟨rfl, rfl⟩ | ⟨g, cap, cur, rfl, h1, h2, h3, h4, h5, h6⟩
  · have hfs : fs = [] := List.eq_nil_of_length_eq_zero hlen
    subst hfs
    clear h hok hlen
    go_enter Try.func10, Try.ntmps10
    go_wp2_with fail
    refine (clone_nil _).mono ?_
    rintro e w' ⟨rfl, rfl⟩
    go_wp2
    go_ret
    refine ⟨w.heap.size, .slice none 0 0, rfl, Nat.le_refl _, ⟨Blk.made w _ _, rfl, by simp, World.ownsRow_nil _ _ _ _, by simp, by simp [Value.ownBlock]⟩, (Frm.refl _ _).alloc _⟩
  · have Hg : Hid (g < w.heap.size) := Lib.hid (Array.getElem?_eq_some_iff.1 h2).1
    clear h hok hlen h2 h5 h6
    go_enter Try.func10, Try.ntmps10
    have hn' : (n : Int) ≤ 40 := by omega
    go_wp2_with fail
    refine (clone_flt g n cap (fltCells fs) _ base (by omega) H.out (fltCells_one _)).mono ?_
    rintro e w1 ⟨v, rfl, hown, hf, hne⟩
    obtain ⟨g', cap', hv⟩ : ∃ g' cap', v = .slice (some ⟨g', 0, none⟩) n cap' := by
      rcases hown.2 with ⟨h, _⟩ | ⟨g', cap', cur', h, _⟩
      · exact absurd h hne
      · exact ⟨g', cap', h⟩
    subst hv
    have Hown := Lib.hid hown
    have Hf := Lib.hid hf
    have Hv : Hid (∀ k, (Value.slice (some ⟨g', 0, none⟩) n cap').ownBlock = some k → k < w1.heap.size) := Lib.hid fun k hk => (hown.lt k hk).2
    have hsz := hf.size
    clear hown hf hne
    go_wp2
    go_ret
    refine ⟨w1.heap.size, _, rfl, hsz, ⟨Blk.made w1 _ _, rfl, by rw [Hlen.out]; exact hn, by rw [Hlen.out]; exact Hown.out.alloc _, Hok.out, ?_⟩, Hf.out.alloc _⟩
    intro e
    have := Hv.out _ e
    omega
end Go.Proofs.Ytmohmjanglkggaa
