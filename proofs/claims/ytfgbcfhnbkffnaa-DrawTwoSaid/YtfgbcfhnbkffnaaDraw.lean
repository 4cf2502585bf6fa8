/- The contracts of package draw: what each function computes and which blocks it turns. -/
import Derived.Test.YtfgbcfhnbkffnaaLib
import Derived.Test.YtfgbcfhnbkffnaaDrawPlain
import Derived.Test.YtfgbcfhnbkffnaaClone
set_option linter.unusedVariables false
namespace Go.Proofs.Ytfgbcfhnbkffnaa
open Go.RowKit

set_option maxHeartbeats 400000 in
theorem scramble_any (z : Nat) (w : World) (h : z < 18446744073709551616) :
    Calls Try.prog 23 #[.int .u64 (z : Int)] w fun e w' => e = .returned (.int .u64 (scr z : Nat)) ∧ w = w' := by
  have hs := Lib.hid (scr_walk z h)
  have h1 : (z : Int) ≤ 18446744073709551615 := by omega
  go_enter Try.func23, Try.ntmps23
  go_wp2
  go_ret
  refine ⟨?_, rfl⟩
  rw [← hs.out]; rfl

set_option maxHeartbeats 400000 in
theorem fromSeed_any (b : Nat) (f s : Value) (seed : Nat) (u : Value) (w : World)
    (hb : Blk w b #[f, s, .int .u64 (seed : Int), u] 48) :
    Calls Try.prog 20 #[.pointer (some ⟨b, 0, none⟩)] w fun e w' => e = .returned (.int .u64 (scr (stepped seed) : Nat)) ∧ w.setCell ⟨b, 2, none⟩ (.int .u64 (stepped seed : Nat)) = w' := by
  have hc := hb.cell 2
  have hf := hb.free 2
  have hst : stepped seed < 18446744073709551616 := by unfold stepped; omega
  have e : IntKind.u64.wrap ((seed : Int) + 11400714819323198485) = ((stepped seed : Nat) : Int) := by
    rw [IntKind.wrap_u64]; unfold stepped; omega
  have He := Lib.hid e
  clear e
  simp at hc
  go_enter Try.func20, Try.ntmps20
  go_wp2_with fail
  rw [He.out]
  refine (scramble_any _ _ hst).mono ?_
  rintro e w' ⟨rfl, rfl⟩
  go_wp2
  go_ret
  exact ⟨rfl, rfl⟩

/-- One that is said, and others behind it. -/
theorem fromSaid_more (b r off n c : Nat) (f seed u : Value) (x : Nat) (w : World) (hr : r ≠ b) (hn : 0 < n) (hc : n < c) (hm : c ≤ 9223372036854775807)
    (hb : Blk w b #[f, .slice (some ⟨r, off, none⟩) (n + 1) c, seed, u] 48) (hx : w.cell? ⟨r, off, none⟩ = some (.int .u64 (x : Int))) :
    Calls Try.prog 22 #[.pointer (some ⟨b, 0, none⟩)] w fun e w' => e = .returned (.int .u64 (x : Int)) ∧
      w.setCell ⟨b, 1, none⟩ (.slice (some ⟨r, off + 1, none⟩) n (c - 1)) = w' := by
  have hc1 := hb.cell 1
  have hf1 := hb.free 1
  simp at hc1
  have h1 : (1 : Int) ≤ (n : Int) + 1 := by omega
  have h2 : ((n : Int) == 0) = false := by simp; omega
  go_enter Try.func22, Try.ntmps22
  go_wp2
  go_ret
  exact ⟨rfl, rfl⟩

/-- The last one that is said. -/
theorem fromSaid_last (b r off c : Nat) (f seed u : Value) (x : Nat) (w : World) (hc : 1 ≤ c) (hm : c ≤ 9223372036854775807)
    (hb : Blk w b #[f, .slice (some ⟨r, off, none⟩) 1 c, seed, u] 48) (hx : w.cell? ⟨r, off, none⟩ = some (.int .u64 (x : Int))) :
    Calls Try.prog 22 #[.pointer (some ⟨b, 0, none⟩)] w fun e w' => e = .returned (.int .u64 (x : Int)) ∧
      Blk w' b #[.func (.func 20) #[] #[], .slice none 0 0, seed, u] 48 ∧ Frm (oneB b) w w' := by
  have hc1 := hb.cell 1
  have hc0 := hb.cell 0
  have hf1 := hb.free 1
  have hf0 := hb.free 0
  simp at hc1 hc0
  have key : ∀ v : Value, Blk (((w.setCell ⟨b, 1, none⟩ v).setCell ⟨b, 1, none⟩ (.slice none 0 0)).setCell ⟨b, 0, none⟩ (.func (.func 20) #[] #[])) b
      #[.func (.func 20) #[] #[], .slice none 0 0, seed, u] 48 ∧
      Frm (oneB b) w (((w.setCell ⟨b, 1, none⟩ v).setCell ⟨b, 1, none⟩ (.slice none 0 0)).setCell ⟨b, 0, none⟩ (.func (.func 20) #[] #[])) := fun v =>
    ⟨by simpa using ((hb.set 1 v).set 1 (.slice none 0 0)).set 0 (.func (.func 20) #[] #[]), (((Frm.refl _ w).setOne 1 _).setOne 1 _).setOne 0 _⟩
  have Key := Lib.hid key
  clear key hb
  by_cases h1 : c = 1
  · subst h1
    go_enter Try.func22, Try.ntmps22
    go_wp2
    go_ret
    exact ⟨rfl, Key.out _⟩
  · have h2 : 1 < c := by omega
    go_enter Try.func22, Try.ntmps22
    go_wp2
    go_ret
    exact ⟨rfl, Key.out _⟩

/-- Draws at a block: those that are said lie in block r. -/
structure Drw (w : World) (b r : Nat) (said : List Nat) (seed used : Nat) : Prop where
  seedLt : seed < 18446744073709551616
  alls : ∀ x ∈ said, x < 18446744073709551616
  held : (said = [] ∧ Blk w b #[.func (.func 20) #[] #[], .slice none 0 0, .int .u64 (seed : Int), .int .i64 (used : Int)] 48) ∨
    ∃ off c, said ≠ [] ∧ r ≠ b ∧ said.length ≤ c ∧ c ≤ 9223372036854775807 ∧ Blk w b #[.func (.func 22) #[] #[], .slice (some ⟨r, off, none⟩) said.length c, .int .u64 (seed : Int), .int .i64 (used : Int)] 48 ∧
      ∀ (j x : Nat), said[j]? = some x → w.cell? ⟨r, off + j, none⟩ = some (.int .u64 (x : Int))

theorem Drw.blk {w : World} {b r : Nat} {said : List Nat} {seed used : Nat} (h : Drw w b r said seed used) :
    ∃ f s, Blk w b #[f, s, .int .u64 (seed : Int), .int .i64 (used : Int)] 48 := by
  rcases h.held with ⟨_, hb⟩ | ⟨off, c, _, _, _, _, hb, _⟩
  · exact ⟨_, _, hb⟩
  · exact ⟨_, _, hb⟩
theorem Drw.rlt {w : World} {b r : Nat} {said : List Nat} {seed used : Nat} (h : Drw w b r said seed used) (hn : said ≠ []) : r < w.heap.size := by
  rcases h.held with ⟨h0, _⟩ | ⟨off, c, _, _, _, _, _, hc⟩
  · exact absurd h0 hn
  · cases said with
    | nil => exact absurd rfl hn
    | cons x l => exact World.block_lt_of_cell? w ⟨r, off + 0, none⟩ (hc 0 x rfl)
theorem Drw.frm {S : Nat → Prop} {w w' : World} {b r : Nat} {said : List Nat} {seed used : Nat} (h : Drw w b r said seed used) (f : Frm S w w') (hb : ¬ S b) (hr : ¬ S r) :
    Drw w' b r said seed used := by
  refine ⟨h.seedLt, h.alls, ?_⟩
  rcases h.held with ⟨h1, h2⟩ | ⟨off, c, h1, h0, h2, h3, h4, h5⟩
  · exact .inl ⟨h1, h2.frm f hb⟩
  · exact .inr ⟨off, c, h1, h0, h2, h3, h4.frm f hb, fun j x hx => cell_frm f hr (h5 j x hx)⟩

/-- What comes next, and what is left. -/
def nxt : List Nat → Nat → Nat
  | [], seed => scr (stepped seed)
  | x :: _, _ => x
def seedOn : List Nat → Nat → Nat
  | [], seed => stepped seed
  | _ :: _, seed => seed
theorem nxt_lt (said : List Nat) (seed : Nat) (h : ∀ x ∈ said, x < 18446744073709551616) : nxt said seed < 18446744073709551616 := by
  cases said with
  | nil => exact scr_lt _
  | cons x l => exact h x (by simp)

theorem setUsed {w : World} {b : Nat} {f s g u v : Value} (h : Blk w b #[f, s, g, u] 48) : Blk (w.setCell ⟨b, 3, none⟩ v) b #[f, s, g, v] 48 := by simpa using h.set 3 v

set_option maxHeartbeats 400000 in
theorem next_any (b r : Nat) (said : List Nat) (seed used : Nat) (w : World) (h : Drw w b r said seed used) (hu : used < 4611686018427387904) :
    Calls Try.prog 10 #[.pointer (some ⟨b, 0, none⟩)] w fun e w' => e = .returned (.int .u64 (nxt said seed : Nat)) ∧
      Drw w' b r said.tail (seedOn said seed) (used + 1) ∧ Frm (oneB b) w w' := by
  have hsd := h.seedLt
  have hal := h.alls
  have hu0 : (0 : Int) ≤ used := by omega
  have hu1 : (used : Int) ≤ 4611686018427387904 := by omega
  rcases h.held with ⟨rfl, hb⟩ | ⟨off, c, hn, hne, hc, hm, hb, hcell⟩
  · have h0 := hb.cell 0
    have h3 := hb.cell 3
    have f3 := hb.free 3
    simp at h0 h3
    have hb1 := Lib.hid (setUsed (v := .int .i64 (used + 1)) hb)
    have hfr := Lib.hid ((Frm.refl (oneB b) w).setOne 3 (.int .i64 (used + 1)))
    have st : stepped seed < 18446744073709551616 := by unfold stepped; omega
    clear hb h hal
    go_enter Try.func10, Try.ntmps10
    go_wp2_with fail
    refine (fromSeed_any b _ _ seed _ _ hb1.out).mono ?_
    rintro e w1 ⟨rfl, rfl⟩
    go_wp2
    go_ret
    refine ⟨rfl, ⟨st, by simp, .inl ⟨rfl, ?_⟩⟩, hfr.out.setOne 2 _⟩
    simpa [seedOn] using hb1.out.set 2 (.int .u64 (stepped seed : Nat))
  · obtain ⟨x, l, rfl⟩ : ∃ x l, said = x :: l := by cases said with | nil => exact absurd rfl hn | cons x l => exact ⟨x, l, rfl⟩
    have h0 := hb.cell 0
    have h3 := hb.cell 3
    have f3 := hb.free 3
    simp at h0 h3
    have hb1 := Lib.hid (setUsed (v := .int .i64 (used + 1)) hb)
    have hfr := Lib.hid ((Frm.refl (oneB b) w).setOne 3 (.int .i64 (used + 1)))
    have hx := hcell 0 x (by simp)
    have hx' : (w.setCell ⟨b, 3, none⟩ (.int .i64 (used + 1))).cell? ⟨r, off, none⟩ = some (.int .u64 (x : Int)) :=
      cell_frm hfr.out (fun e => hne e) hx
    have Hx := Lib.hid hx'
    have Hal := Lib.hid hal
    have Hcell := Lib.hid hcell
    clear hb h hal hx hx' hcell hn
    have hl1 : (x :: l).length = l.length + 1 := rfl
    rw [hl1] at hc
    by_cases hl : l = []
    · subst hl
      go_enter Try.func10, Try.ntmps10
      go_wp2_with fail
      refine (fromSaid_last b r off c _ _ _ x _ (by simpa using hc) hm hb1.out Hx.out).mono ?_
      rintro e w1 ⟨rfl, hb2, f2⟩
      have Hb2 := Lib.hid hb2
      have Hf2 := Lib.hid f2
      clear hb2 f2
      go_wp2
      go_ret
      exact ⟨rfl, ⟨hsd, by simp, .inl ⟨rfl, Hb2.out⟩⟩, hfr.out.trans Hf2.out⟩
    · have hp : 0 < l.length := List.length_pos_iff.2 hl
      have Hl := Lib.hid hl
      clear hl
      go_enter Try.func10, Try.ntmps10
      go_wp2_with fail
      refine (fromSaid_more b r off l.length c _ _ _ x _ hne hp (by omega) hm hb1.out Hx.out).mono ?_
      rintro e w1 ⟨rfl, rfl⟩
      go_wp2
      go_ret
      have hf2 := hfr.out.setOne 1 (.slice (some ⟨r, off + 1, none⟩) l.length (c - 1))
      refine ⟨rfl, ⟨hsd, fun y hy => Hal.out y (List.mem_cons_of_mem _ hy), .inr ⟨off + 1, c - 1, Hl.out, hne, by simp; omega, by omega, ?_, ?_⟩⟩, hf2⟩
      · simpa [seedOn] using hb1.out.set 1 (.slice (some ⟨r, off + 1, none⟩) l.length (c - 1))
      · intro j y hy
        have := Hcell.out (j + 1) y (by simpa using hy)
        rw [show off + 1 + j = off + (j + 1) from by omega]
        exact cell_frm hf2 (fun e => hne e) this

set_option maxHeartbeats 400000 in
theorem new_none (seed : Nat) (a : Option Addr) (c : Nat) (w : World) :
    Calls Try.prog 9 #[.int .u64 (seed : Int), .slice a 0 c] w fun e w' => e = .returned (.pointer (some ⟨w.heap.size, 0, none⟩)) ∧
      w.alloc (.cells #[.func (.func 20) #[] #[], .slice none 0 0, .int .u64 (seed : Int), .int .i64 ((0 : Nat) : Int)] 48) = w' := by
  go_enter Try.func9, Try.ntmps9
  go_wp2
  go_ret
  exact ⟨rfl, rfl⟩

theorem ofNat_cells {vs : List Nat} {w : World} {b off : Nat} (h : ∀ (j x : Nat), vs[j]? = some x → w.cell? ⟨b, off + j, none⟩ = some (.int .u64 (x : Int))) :
    ∀ j u, (vs.map fun (x : Nat) => Value.int .u64 (x : Int))[j]? = some u → w.cell? ⟨b, off + j, none⟩ = some u := by
  intro j u hu
  rw [List.getElem?_map] at hu
  cases hv : vs[j]? with
  | none => rw [hv] at hu; simp at hu
  | some x => rw [hv] at hu; simp at hu; rw [h j x hv, hu]

set_option maxHeartbeats 400000 in
theorem new_some (seed b off n c : Nat) (said : List Nat) (w : World) (hs : seed < 18446744073709551616) (hn : 0 < n) (hm : n * 8 ≤ 140737488355328) (hl : said.length = n)
    (hall : ∀ x ∈ said, x < 18446744073709551616) (hc : ∀ (j x : Nat), said[j]? = some x → w.cell? ⟨b, off + j, none⟩ = some (.int .u64 (x : Int))) :
    Calls Try.prog 9 #[.int .u64 (seed : Int), .slice (some ⟨b, off, none⟩) n c] w fun e w' => ∃ r, e = .returned (.pointer (some ⟨w.heap.size, 0, none⟩)) ∧
      Drw w' w.heap.size r said seed 0 ∧ w.heap.size < r ∧ Frm noB w w' := by
  have h0 : (0 : Int) < (n : Int) := by omega
  have Hc := Lib.hid hc
  have Hl := Lib.hid hl
  have Hall := Lib.hid hall
  clear hc hl hall
  have nb := Blk.made w #[.func (.func 20) #[] #[], .slice none 0 0, .int .u64 (seed : Int), .int .i64 ((0 : Nat) : Int)] 48
  have fb := (Frm.refl noB w).alloc (.cells #[.func (.func 20) #[] #[], .slice none 0 0, .int .u64 (seed : Int), .int .i64 ((0 : Nat) : Int)] 48)
  have NB := Lib.hid nb
  have FB := Lib.hid fb
  clear nb fb
  go_enter Try.func9, Try.ntmps9
  go_wp2_with fail
  refine (clone_u64 b off n c (said.map fun (x : Nat) => Value.int .u64 (x : Int)) _ hm (by rw [List.length_map, Hl.out]) (by simp [Value.oneCell']) ?_).mono ?_
  · intro j u hu
    exact cell_frm FB.out (fun h => h) (ofNat_cells Hc.out j u hu)
  rintro e w1 ⟨v, rfl, hown, hf1, hnn⟩
  have hblk : Blk w1 w.heap.size #[.func (.func 20) #[] #[], .slice none 0 0, .int .u64 (seed : Int), .int .i64 ((0 : Nat) : Int)] 48 := NB.out.frm hf1 (fun h => h)
  obtain ⟨g, cap, cur, hv, hg, hgb, hnc, hcm, hcs, htk⟩ : ∃ g cap cur, v = .slice (some ⟨g, 0, none⟩) n cap ∧ w.heap.size + 1 ≤ g ∧ w1.heap[g]? = some (.cells cur 22 (0, 0)) ∧ n ≤ cap ∧ cap ≤ maxLen ∧ cur.size = cap * 1 ∧ cur.toList.take (n * 1) = said.map fun (x : Nat) => Value.int .u64 (x : Int) := by
    rcases hown.2 with ⟨h, _⟩ | ⟨g, cap, cur, h1, h2, h3⟩
    · exact absurd h hnn
    · exact ⟨g, cap, cur, h1, by simpa using h2, h3⟩
  subst hv
  have hcells := ownsRow_cells1 hown
  have f1 := hblk.free 1
  have f0 := hblk.free 0
  have c1 := hblk.cell 1
  have c0 := hblk.cell 0
  simp at c1 c0
  have Hblk := Lib.hid hblk
  have Hcells := Lib.hid hcells
  have Hf1 := Lib.hid (FB.out.trans hf1)
  clear hblk hcells hown hf1 hnn hgb hcs htk
  go_wp2
  go_ret
  have hfr := (Hf1.out.setNew (p := ⟨w.heap.size, 1, none⟩) (Nat.le_refl _) (.slice (some ⟨g, 0, none⟩) n cap)).setNew (p := ⟨w.heap.size, 0, none⟩) (Nat.le_refl _) (.func (.func 22) #[] #[])
  refine ⟨g, rfl, ⟨hs, Hall.out, .inr ⟨0, cap, ?_, by omega, by rw [Hl.out]; exact hnc, by simpa only [maxLen] using hcm, ?_, ?_⟩⟩, by omega, hfr⟩
  · intro e; have := Hl.out; rw [e] at this; simp at this; omega
  · rw [Hl.out]; simpa using (Hblk.out.set 1 (.slice (some ⟨g, 0, none⟩) n cap)).set 0 (.func (.func 22) #[] #[])
  · intro j x hx
    have h := Hcells.out j (.int .u64 (x : Int)) (by rw [List.getElem?_map, hx]; rfl)
    rw [Nat.zero_add]
    rw [World.cell?_setCell_other _ _ _ _ (by intro e; cases e; omega), World.cell?_setCell_other _ _ _ _ (by intro e; cases e; omega)]
    exact h
end Go.Proofs.Ytfgbcfhnbkffnaa
