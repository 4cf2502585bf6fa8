/- What the statements of layer 2 share: few, lives. -/
import Derived.Test.YtfgbcfhnbkffnaaDrawMore
set_option linter.unusedVariables false
namespace Go.Proofs.Ytfgbcfhnbkffnaa
open Go.RowKit

theorem drw_new {w : World} {seed : Nat} (h : seed < 18446744073709551616) :
    Drw (w.alloc (.cells #[.func (.func 20) #[] #[], .slice none 0 0, .int .u64 (seed : Int), .int .i64 ((0 : Nat) : Int)] 48)) w.heap.size w.heap.size [] seed 0 :=
  ⟨h, by simp, .inl ⟨rfl, Blk.made w _ _⟩⟩
theorem m1 : ((nxt [] 0 : Nat) : Int) = 16294208416658607535 := by have h : nxt [] 0 = 16294208416658607535 := by decide +kernel
                                                                   rw [h]; rfl
theorem m2 : ((nxt [].tail (seedOn [] 0) : Nat) : Int) = 7960286522194355700 := by
  have h : nxt [].tail (seedOn [] 0) = 7960286522194355700 := by decide +kernel
  rw [h]; rfl
theorem m3 : ((hashN (ByteArray.mk #[97]).data.toList : Nat) : Int) = 12638187200555641996 := by
  have h : hashN (ByteArray.mk #[97]).data.toList = 12638187200555641996 := by decide +kernel
  rw [h]; rfl

set_option maxHeartbeats 400000 in
theorem lives_any (w : World) : Calls Try.prog 12 #[] w fun e w' => e = .returned (.bool true) ∧ Frm noB w w' := by
  go_enter Try.func12, Try.ntmps12
  go_wp2_with fail
  refine (new_none 0 none 0 w).mono ?_
  rintro e w1 ⟨rfl, hw⟩
  have hd : Drw w1 w.heap.size w.heap.size [] 0 0 := hw ▸ drw_new (by decide)
  have hf : Frm noB w w1 := hw ▸ (Frm.refl noB w).alloc _
  have Hd := Lib.hid hd
  have Hf := Lib.hid hf
  clear hd hf hw
  go_wp2_with fail
  refine (next_any _ _ _ _ _ _ Hd.out (by decide)).mono ?_
  rintro e w2 ⟨rfl, hd2, hf2⟩
  have Hd2 := Lib.hid hd2
  have Hf2 := Lib.hid (Hf.out.new hf2 (fun i hi h => by simp only [oneB] at h; omega))
  clear hd2 hf2
  rw [m1]
  go_wp2_with fail
  refine (next_any _ _ _ _ _ _ Hd2.out (by decide)).mono ?_
  rintro e w3 ⟨rfl, hd3, hf3⟩
  have Hd3 := Lib.hid hd3
  have Hf3 := Lib.hid (Hf2.out.new hf3 (fun i hi h => by simp only [oneB] at h; omega))
  clear hd3 hf3
  rw [m2]
  go_wp2_with fail
  refine (hash_any _ _ (by decide)).mono ?_
  rintro e w4 ⟨rfl, rfl⟩
  rw [m3]
  go_wp2_with fail
  refine (used_any _ _ _ _ _ _ Hd3.out).mono ?_
  rintro e w4 ⟨rfl, rfl⟩
  go_wp2
  go_ret
  exact ⟨rfl, Hf3.out⟩

theorem info_u64' : (Try.prog.info? 22).map (fun i => (i.zero, i.size, i.bytes)) = some (some (.int .u64 0), 1, 8) := by kernel_rfl

/-- few of a slice of no length: nil. -/
theorem few_none (a : Option Addr) (c : Nat) (w : World) :
    Calls Try.prog 8 #[.slice a 0 c] w fun e w' => e = .returned (.slice none 0 0) ∧ w = w' := by
  rcases a with _ | x
  · go_enter Try.func8, Try.ntmps8
    go_wp2
    go_ret
    exact ⟨rfl, rfl⟩
  · go_enter Try.func8, Try.ntmps8
    go_wp2
    go_ret
    exact ⟨rfl, rfl⟩


/-- few of others: the first 12, in a block of their own. -/
theorem few_some (b off n c : Nat) (said : List Nat) (w : World) (hn : 0 < n) (hnc : n ≤ c) (hm : c ≤ 9223372036854775807) (hl : said.length = n)
    (hc : ∀ (j x : Nat), said[j]? = some x → w.cell? ⟨b, off + j, none⟩ = some (.int .u64 (x : Int))) :
    Calls Try.prog 8 #[.slice (some ⟨b, off, none⟩) n c] w fun e w' => ∃ g cap, e = .returned (.slice (some ⟨g, 0, none⟩) (min n 12) cap) ∧
      w'.ownsRow w.heap.size 22 1 (.slice (some ⟨g, 0, none⟩) (min n 12) cap) (min n 12) (u64s (said.take 12)) ∧ Frm noB w w' ∧ w.heap.size ≤ g := by
  obtain ⟨i0, hi, hz0, hz1, hz2⟩ := info_parts info_u64'
  have hlen : (u64s (said.take 12)).length = min n 12 := by simp [u64s, hl, Nat.min_comm]
  have hcells : ∀ j u, (u64s (said.take 12))[j]? = some u → w.cell? ((⟨b, off, none⟩ : Addr).add j) = some u := by
    intro j u hu
    rw [Addr.add_lit]
    refine ofNat_cells (vs := said.take 12) (fun j x hx => hc j x ?_) j u hu
    rw [List.getElem?_take] at hx
    split at hx
    · exact hx
    · simp at hx
  have Hlen := Lib.hid hlen
  have Hcells := Lib.hid hcells
  clear hc hlen hcells hl
  by_cases h12 : n ≤ 12
  · rw [show min n 12 = n from by omega] at *
    go_enter Try.func8, Try.ntmps8
    go_wp2_with (at_builtin; refine wpList_append_own _ rfl _ _ 23 rfl w.heap.size 22 i0 (.int .u64 0) 1 8 Try.underlying23 hi hz0 hz1 hz2 rfl (by decide) (.slice none 0 0) 0 [] rfl (World.ownsRow_nil w w.heap.size 22 1) ⟨b, off, none⟩ n c (u64s (said.take 12)) rfl ?c1 ?c2 ?c6 ?c3 ?c4 ?c5 ?_)
    case c1 => rw [Hlen.out, Nat.mul_one]
    case c2 => exact Hcells.out
    case c6 => exact u64s_one _
    case c3 => simp only [maxLen]; omega
    case c4 => omega
    case c5 => omega
    intro v' w1 hown hg hnil
    have Hown := Lib.hid hown
    have Hg := Lib.hid hg
    have Hnil := Lib.hid hnil
    clear hown hg hnil
    go_wp2
    go_ret
    have hown2 : w1.ownsRow w.heap.size 22 1 v' n (u64s (said.take 12)) := by simpa using Hown.out
    rcases hown2.2 with ⟨h, h0⟩ | ⟨g, cap, cur, h1, h2, h3⟩
    · omega
    · subst h1
      exact ⟨g, cap, rfl, hown2, (Frm.refl noB w).new (Frm.ofGrown Hg.out) (fun i hi h => by simp [Value.ownBlock] at h), h2⟩
  · rw [show min n 12 = 12 from by omega] at *
    have h13 : 12 < n := by omega
    clear h12
    go_enter Try.func8, Try.ntmps8
    go_wp2_with (at_builtin; refine wpList_append_own _ rfl _ _ 23 rfl w.heap.size 22 i0 (.int .u64 0) 1 8 Try.underlying23 hi hz0 hz1 hz2 rfl (by decide) (.slice none 0 0) 0 [] rfl (World.ownsRow_nil w w.heap.size 22 1) ⟨b, off, none⟩ 12 c (u64s (said.take 12)) rfl ?c1 ?c2 ?c6 ?c3 ?c4 ?c5 ?_)
    case c1 => rw [Hlen.out, Nat.mul_one]
    case c2 => exact Hcells.out
    case c6 => exact u64s_one _
    case c3 => simp only [maxLen]; omega
    case c4 => omega
    case c5 => omega
    intro v' w1 hown hg hnil
    have Hown := Lib.hid hown
    have Hg := Lib.hid hg
    have Hnil := Lib.hid hnil
    clear hown hg hnil
    go_wp2
    go_ret
    have hown2 : w1.ownsRow w.heap.size 22 1 v' 12 (u64s (said.take 12)) := by simpa using Hown.out
    rcases hown2.2 with ⟨h, h0⟩ | ⟨g, cap, cur, h1, h2, h3⟩
    · omega
    · subst h1
      exact ⟨g, cap, rfl, hown2, (Frm.refl noB w).new (Frm.ofGrown Hg.out) (fun i hi h => by simp [Value.ownBlock] at h), h2⟩

theorem few_blk (b off n c : Nat) (said : List Nat) (w : World) (hn : 0 < n) (hnc : n ≤ c) (hm : c ≤ 9223372036854775807) (hl : said.length = n)
    (hc : ∀ (j x : Nat), said[j]? = some x → w.cell? ⟨b, off + j, none⟩ = some (.int .u64 (x : Int))) :
    Calls Try.prog 8 #[.slice (some ⟨b, off, none⟩) n c] w fun e w' => ∃ g cap cur, e = .returned (.slice (some ⟨g, 0, none⟩) (min n 12) cap) ∧
      w.heap.size ≤ g ∧ Blk w' g cur 22 ∧ min n 12 ≤ cap ∧ cap ≤ 9223372036854775807 ∧ cur.size = cap ∧ (∀ (j x : Nat), (said.take 12)[j]? = some x → cur[j]? = some (.int .u64 (x : Int))) ∧ Frm noB w w' := by
  refine (few_some b off n c said w hn hnc hm hl hc).mono ?_
  rintro e w' ⟨g, cap, rfl, hown, hf, hg⟩
  obtain ⟨g', cap', cur, hv, hb, hblk, h1, h2, h3, h4, h5⟩ := ownsRow_blk hown (by simp)
  simp only [Value.slice.injEq, Option.some.injEq, Addr.mk.injEq, and_true, true_and] at hv
  obtain ⟨rfl, rfl⟩ := hv
  refine ⟨g, cap, cur, rfl, hg, hblk, h1, h2, h3, ?_, hf⟩
  intro j x hx
  exact h5 j _ (by unfold u64s; rw [List.getElem?_map, hx]; rfl)

theorem few_m (b off n c : Nat) (said : List Nat) (w : World) (m : Nat) (sd : List Nat) (hmm : m = min n 12) (hsd : sd = said.take 12) (hn : 0 < n) (hnc : n ≤ c) (hm : c ≤ 9223372036854775807) (hl : said.length = n)
    (hc : ∀ (j x : Nat), said[j]? = some x → w.cell? ⟨b, off + j, none⟩ = some (.int .u64 (x : Int))) :
    Calls Try.prog 8 #[.slice (some ⟨b, off, none⟩) n c] w fun e w' => ∃ g cap cur, e = .returned (.slice (some ⟨g, 0, none⟩) m cap) ∧
      w.heap.size ≤ g ∧ Blk w' g cur 22 ∧ m ≤ cap ∧ cap ≤ 9223372036854775807 ∧ cur.size = cap ∧ (∀ (j x : Nat), sd[j]? = some x → cur[j]? = some (.int .u64 (x : Int))) ∧ Frm noB w w' := by
  subst hmm
  subst hsd
  exact few_blk b off n c said w hn hnc hm hl hc
end Go.Proofs.Ytfgbcfhnbkffnaa
