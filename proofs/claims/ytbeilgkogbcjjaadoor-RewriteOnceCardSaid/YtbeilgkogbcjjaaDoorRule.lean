/- Rule of the reference of rewriting. -/
import Derived.Test.YtbeilgkogbcjjaaDoorRewHeads
import Derived.Test.YtbeilgkogbcjjaaDoorOf
import Derived.Test.YtbeilgkogbcjjaaDoorStoreNew
import Derived.Test.YtbeilgkogbcjjaaDoorIntsC
import Derived.Outline
set_option linter.unusedVariables false
set_option linter.unusedSimpArgs false
namespace Go.Proofs.YtbeilgkogbcjjaaDoor
open Go.RowKit

theorem takeD {P : Program} {ops : Array Oper} {Q : Exit → Act → World → Prop} {md : Region.Mode} {S : World → Prop} {i : Nat} {oi : Oper} (d : Option Tmp) {v : Value} {fuel : Nat} {listed : Array Bool} {a : Act} {w : World} (hi : ops[i]? = some oi) (hd : oi.dst = d)
    (hs : Region.noSelect ops = true) (hf : Region.free md ops listed i = true) (hr : (Region.ready md ops listed).contains i = true)
    (hQ : ∀ c a w, Q (.panic c) (a.put oi.dst v) w → Q (.panic c) a w) (hy : YieldsIf P ops S oi v a) (hS : S w)
    (h : wpAnyH P md ops Q S fuel (listed.setIfInBounds i true) (a.put d v) w) : wpAnyH P md ops Q S (fuel + 1) listed a w := by
  subst hd
  exact wpAnyH_take hi hs hf hr hQ hy hS h
/-- The numbers of the rule so far. -/
def pick (xs : List Int) (k j : Nat) : Int := if j < k then (xs[j]?).getD 0 else 0
def nC (xs : List Int) (k : Nat) : Array Value := #[.int .i64 (pick xs k 0), .int .i64 (pick xs k 1), .int .i64 (pick xs k 2), .int .i64 (pick xs k 3)]
theorem nC_set (xs : List Int) (k : Nat) (x : Int) (hk : k < 4) (hx : xs[k]? = some x) : (nC xs k).setIfInBounds k (.int .i64 x) = nC xs (k + 1) := by
  have hc : k = 0 ∨ k = 1 ∨ k = 2 ∨ k = 3 := by omega
  rcases hc with rfl | rfl | rfl | rfl <;> simp [nC, pick, hx]
def numAt (xs : List Int) (j : Nat) : Int := (xs[j]?).getD 0
theorem pick_end {xs : List Int} {k j : Nat} (h : k = 4 ∨ xs.length ≤ k) (hj : j < 4) : pick xs k j = numAt xs j := by
  unfold pick numAt
  split
  · rfl
  · rw [List.getElem?_eq_none (by omega)]; rfl
theorem numAt_bd {w : World} {a : Option Addr} {n : Nat} {xs : List Int} (h : IntsL w a n xs) (j : Nat) : -9223372036854775808 ≤ numAt xs j ∧ numAt xs j ≤ 9223372036854775807 := by
  unfold numAt
  cases e : xs[j]? with
  | none => simp
  | some x => exact h.bd x (List.mem_of_getElem? e)
theorem nB0 {w : World} {B : Nat} {T : TypeId} {a b c d : Value} (h : Blk w B #[a, b, c, d] T) : w.cell? ⟨B, 0, none⟩ = some a := (h.cell 0).trans rfl
theorem nB1 {w : World} {B : Nat} {T : TypeId} {a b c d : Value} (h : Blk w B #[a, b, c, d] T) : w.cell? ⟨B, 1, none⟩ = some b := (h.cell 1).trans rfl
theorem nB2 {w : World} {B : Nat} {T : TypeId} {a b c d : Value} (h : Blk w B #[a, b, c, d] T) : w.cell? ⟨B, 2, none⟩ = some c := (h.cell 2).trans rfl
theorem nB012 {w : World} {B : Nat} {T : TypeId} {a b c d : Value} (h : Blk w B #[a, b, c, d] T) : w.cell? ⟨B, 0, none⟩ = some a ∧ w.cell? ⟨B, 1, none⟩ = some b ∧ w.cell? ⟨B, 2, none⟩ = some c := ⟨nB0 h, nB1 h, nB2 h⟩
theorem nB3 {w : World} {B : Nat} {T : TypeId} {a b c d : Value} (h : Blk w B #[a, b, c, d] T) : w.cell? ⟨B, 3, none⟩ = some d := (h.cell 3).trans rfl
def zeroR : Array Value := ruleC ⟨#[]⟩ false ⟨#[]⟩ (.slice none 0 0) (.slice none 0 0)

/-- A rule's Prefix. -/
def pfxOf (z y : Int) : ByteArray := if around z 6 = 5 then ⟨#[]⟩ else bs (pathOf (ofZ y))
theorem pfx_cases (z y : Int) : (pfxOf z y).data.toList = [] ∨ ∃ c, PartsOk c ∧ (pfxOf z y).data.toList = pathOf c ∧ (pathOf c).length ≤ 60 := by
  unfold pfxOf
  split
  · exact .inl rfl
  · exact .inr ⟨_, ofZ_ok y, rfl, ofZ_len y⟩
theorem IsRow.caps {w : World} {a : Option Addr} {n c : Nat} {z : List Int} (h : IsRow .i64 w a n c z) : n ≤ c ∧ c ≤ 9223372036854775807 := by
  rcases h with ⟨rfl, rfl, rfl, _⟩ | ⟨x, rfl, hl, hm, hz, hcell, _⟩
  · exact ⟨Nat.le_refl _, by omega⟩
  · exact ⟨hl, by simpa only [maxLen] using hm⟩
theorem eb_dec {q : Nat} {b : Bool} (h : ((q : Int) == 1) = b) : decide (q = 1) = b := by
  rw [← h, Bool.eq_iff_iff, decide_eq_true_eq, beq_iff_eq]; omega
theorem ne_lt {i H : Nat} (hi : i < H) (e : oneB H i) : False := Nat.lt_irrefl H ((show i = H from e) ▸ hi)
theorem ge_ne {b B x : Nat} (h : x ≤ b) (hB : B < x) (e : oneB B b) : False := Nat.lt_irrefl b (Nat.lt_of_lt_of_le ((show b = B from e) ▸ hB) h)
theorem drop_min {xs : List Int} {n k : Nat} (hn : xs.length = n) (hk : k = min n 4) : xs.drop k = xs.drop 4 := by
  rcases Nat.le_total n 4 with h | h
  · rw [List.drop_of_length_le (by omega), List.drop_of_length_le (by omega)]
  · rw [show k = 4 from by omega]
set_option maxRecDepth 100000 in
set_option maxHeartbeats 10000000 in
theorem rule_any (a : Option Addr) (n c : Nat) (xs : List Int) (w : World) (h : IntsL w a n xs) (hc : n ≤ c) (hc2 : c ≤ 9223372036854775807) :
    Calls Tryd.prog 10 #[.slice a n c] w fun e w' => ∃ sv dv, e = .returned (ruleV (bs (pathOf (ofZ (numAt xs 0)))) (decide (around (numAt xs 2) 4 = 1)) (pfxOf (numAt xs 3) (numAt xs 1)) sv dv) ∧ HV w' sv (genH ((xs.drop 4).take 4)) ∧ SV w' dv (namesH ((xs.drop 8).take 6)) ∧ Frm noB w w' := by
  have hl := h.len
  have hn := h.most
  have hR := Blk.made w zeroR 35
  have hN := blk_new (w.alloc (.cells zeroR 35)) #[.int .i64 0, .int .i64 0, .int .i64 0, .int .i64 0] 3 (B := w.heap.size + 1) (by simp)
  have hR2 := hR.alloc (.cells #[.int .i64 0, .int .i64 0, .int .i64 0, .int .i64 0] 3)
  have fa := ((Frm.refl noB w).alloc (.cells zeroR 35)).alloc (.cells #[.int .i64 0, .int .i64 0, .int .i64 0, .int .i64 0] 3)
  unfold zeroR ruleC at *
  have Hh := Lib.hid h
  have Hl := Lib.hid hl
  have HR := Lib.hid hR
  have HN := Lib.hid hN
  have HR2 := Lib.hid hR2
  have Hfa := Lib.hid fa
  clear h hl hR hN hR2 fa
  go_enter Tryd.func10, Tryd.ntmps10
  go_wp2_with fail
  go_loopw [4] (fun i wr => ∃ k : Nat, k ≤ n ∧ k ≤ 4 ∧ i = .int .i64 k ∧ Blk wr (w.heap.size + 1) (nC xs k) 3 ∧ Blk wr w.heap.size zeroR 35 ∧ Frm noB w wr) (fun i _ => n - (intOf i).toNat)
  case atStart => exact ⟨0, by omega, by omega, rfl, HN.out, HR2.out, Hfa.out⟩
  case round =>
    obtain ⟨k, hk, hk4, rfl, hb, hr, hf⟩ := hrel
    by_cases hgo : k < 4 ∧ k < n
    · obtain ⟨hlt4, hlt⟩ := hgo
      obtain ⟨x, hx⟩ := get_of_lt (l := xs) (j := k) (by rw [Hl.out]; exact hlt)
      obtain ⟨b, off, rfl, hbl, c0⟩ := (Hh.out.keep hf).cells k x hx
      have hst := nC_set xs k x hlt4 hx
      have hlt5 : k < (nC xs k).size := hlt4
      obtain ⟨u, hu⟩ : ∃ u, (nC xs k)[k]? = some u := ⟨_, Array.getElem?_eq_getElem hlt5⟩
      have c1 := (hb.cell k).trans hu
      have y1 := hb.free k
      have bl := hb.lt
      have hb2 := hb.set k (.int .i64 x)
      rw [hst] at hb2
      have hr2 := hr.set_ne (a := ⟨w.heap.size + 1, k, none⟩) (by simp) (.int .i64 x)
      have hf2 := hf.setNew (p := ⟨w.heap.size + 1, k, none⟩) (by simp) (.int .i64 x)
      have i1 : (0 : Int) ≤ (k : Int) := by omega
      have i2 : (k : Int) < 4 := by omega
      have Hb := Lib.hid hb
      have Hr := Lib.hid hr
      have Hf := Lib.hid hf
      have Hx := Lib.hid hx
      have Hst := Lib.hid hst
      have Hu := Lib.hid hu
      have Hb2 := Lib.hid hb2
      have Hr2 := Lib.hid hr2
      have Hf2 := Lib.hid hf2
      have Hlt5 := Lib.hid hlt5
      clear hb hr hf hx hst hu hb2 hr2 hf2 hlt5
      go_wp2_with fail
      go_roundw
      case rel => exact ⟨k + 1, by omega, by omega, by go_num, Hb2.out, Hr2.out, Hf2.out⟩
      case measure => simp [intOf]; omega
    · have hend : (k < 4 ∧ ¬ k < n) ∨ ¬ k < 4 := by omega
      have he2 : k = 4 ∨ xs.length ≤ k := by rw [Hl.out]; omega
      have hN4 : nC xs k = #[.int .i64 (numAt xs 0), .int .i64 (numAt xs 1), .int .i64 (numAt xs 2), .int .i64 (numAt xs 3)] := by
        unfold nC
        rw [pick_end he2 (by omega), pick_end he2 (by omega), pick_end he2 (by omega), pick_end he2 (by omega)]
      rw [hN4] at hb
      have k0 := numAt_bd Hh.out 0
      have k1 := numAt_bd Hh.out 1
      have k2 := numAt_bd Hh.out 2
      have k3 := numAt_bd Hh.out 3
      obtain ⟨w4, hw4⟩ : ∃ W, W = wr := ⟨_, rfl⟩
      subst hw4
      generalize hm0 : numAt xs 0 = m0 at *
      generalize hm1 : numAt xs 1 = m1 at *
      generalize hm2 : numAt xs 2 = m2 at *
      generalize hm3 : numAt xs 3 = m3 at *
      have har := fun w => around_any m2 4 w k2.1 k2.2 (by omega) (by omega)
      have har3 := fun w => around_any m3 6 w k3.1 k3.2 (by omega) (by omega)
      generalize hq2 : around m2 4 = q2 at *
      generalize hq3 : around m3 6 = q3 at *
      have hw := hf.size
      obtain ⟨eb, heb⟩ : ∃ eb, ((q2 : Int) == 1) = eb := ⟨_, rfl⟩
      have Hk0 := Lib.hid k0
      have Hk1 := Lib.hid k1
      have Hk2 := Lib.hid k2
      have Hk3 := Lib.hid k3
      clear k0 k1 k2 k3
      have Hf := Lib.hid hf
      have Hb := Lib.hid hb
      have Hr := Lib.hid hr
      have Har3 := Lib.hid har3
      have Hq2 := Lib.hid hq2
      have Hq3 := Lib.hid hq3
      have HN4 := Lib.hid hN4
      have Hm0 := Lib.hid hm0
      have Hm1 := Lib.hid hm1
      have Hm2 := Lib.hid hm2
      have Hm3 := Lib.hid hm3
      clear hf hb hr har3 hq2 hq3 hN4 hm0 hm1 hm2 hm3
      clear he2
      rcases hend with ⟨e1, e2⟩ | e1
      all_goals
        go_upto_region 6 with fail
        go_cut [5] (fun s wx => ∃ B, s = .pointer (some ⟨B, 0, none⟩) ∧ Blk wx B (ruleC (bs (pathOf (ofZ m0))) eb (bs (pathOf (ofZ m1))) (.slice none 0 0) (.slice none 0 0)) 35 ∧ Blk wx w.heap.size zeroR 35 ∧ Blk wx (w.heap.size + 1) #[.int .i64 m0, .int .i64 m1, .int .i64 m2, .int .i64 m3] 3 ∧ w.heap.size + 1 < B ∧ Frm noB w4 wx)
        case first =>
          have k0 := Hk0.out
          have k1 := Hk1.out
          have hb := Hb.out
          have hr := Hr.out
          have hfw := Hf.out
          have hNlt := hb.lt
          refine wp_region_noPanic ?_
          refine wp_region_held_drew (S := fun W => W.cell? ⟨w.heap.size + 1, 0, none⟩ = some (.int .i64 m0) ∧ W.cell? ⟨w.heap.size + 1, 1, none⟩ = some (.int .i64 m1) ∧ W.cell? ⟨w.heap.size + 1, 2, none⟩ = some (.int .i64 m2)) (by kernel_rfl) ?_ (fun hHeld => ?_)
          · (refine nB012 (T := 3) (a := .int .i64 m0) (b := .int .i64 m1) (c := .int .i64 m2) (d := .int .i64 m3) ?_; (repeat (first | assumption | ((with_reducible refine blk_new _ _ _ ?_); (first | (with_reducible rfl) | (simp; done))) | (with_reducible refine Blk.drew ?_) | (with_reducible refine Blk.alloc ?_ _) | (with_reducible refine Blk.frm ?_ (by assumption) (fun h => h)))))
          refine takeD (i := 0) (some 25) (v := ?_) rfl rfl (by kernel_rfl) (by kernel_rfl) (by kernel_rfl) (fun _ _ _ h => h) (Or.inl ⟨by kernel_rfl, ?_⟩) (by assumption) ?_
          rotate_left
          · (intro w hSw; (try dsimp only at hSw); go_simp; try (with_reducible rfl))
          (try dsimp only [Act.put]); try simp only [Act.put, List.setIfInBounds_toArray, List.set_cons_zero, List.set_cons_succ]
          refine takeD (i := 1) (some 26) (v := ?_) rfl rfl (by kernel_rfl) (by kernel_rfl) (by kernel_rfl) (fun _ _ _ h => h) (Or.inl ⟨by kernel_rfl, ?_⟩) (by assumption) ?_
          rotate_left
          · (intro w hSw; (try dsimp only at hSw); go_simp; try (with_reducible rfl))
          (try dsimp only [Act.put]); try simp only [Act.put, List.setIfInBounds_toArray, List.set_cons_zero, List.set_cons_succ]
          refine takeD (i := 2) (some 27) (v := ?_) rfl rfl (by kernel_rfl) (by kernel_rfl) (by kernel_rfl) (fun _ _ _ h => h) (Or.inl ⟨by kernel_rfl, ?_⟩) (by assumption) ?_
          rotate_left
          · (intro w hSw; (try dsimp only at hSw); go_simp; try (with_reducible rfl))
          (try dsimp only [Act.put]); try simp only [Act.put, List.setIfInBounds_toArray, List.set_cons_zero, List.set_cons_succ]
          refine takeD (i := 4) (some 29) (v := ?_) rfl rfl (by kernel_rfl) (by kernel_rfl) (by kernel_rfl) (fun _ _ _ h => h) (Or.inl ⟨by kernel_rfl, ?_⟩) (by assumption) ?_
          rotate_left
          · (intro w hSw; (try dsimp only at hSw); go_simp; try (with_reducible rfl))
          (try dsimp only [Act.put]); try simp only [Act.put, List.setIfInBounds_toArray, List.set_cons_zero, List.set_cons_succ]
          refine takeD (i := 5) (some 30) (v := ?_) rfl rfl (by kernel_rfl) (by kernel_rfl) (by kernel_rfl) (fun _ _ _ h => h) (Or.inl ⟨by kernel_rfl, ?_⟩) (by assumption) ?_
          rotate_left
          · (intro w hSw; (try dsimp only at hSw); go_simp; try (with_reducible rfl))
          (try dsimp only [Act.put]); try simp only [Act.put, List.setIfInBounds_toArray, List.set_cons_zero, List.set_cons_succ]
          refine takeD (i := 6) (some 31) (v := ?_) rfl rfl (by kernel_rfl) (by kernel_rfl) (by kernel_rfl) (fun _ _ _ h => h) (Or.inl ⟨by kernel_rfl, ?_⟩) (by assumption) ?_
          rotate_left
          · (intro w hSw; (try dsimp only at hSw); go_simp; try (with_reducible rfl))
          (try dsimp only [Act.put]); try simp only [Act.put, List.setIfInBounds_toArray, List.set_cons_zero, List.set_cons_succ]
          refine takeD (i := 10) (some 35) (v := ?_) rfl rfl (by kernel_rfl) (by kernel_rfl) (by kernel_rfl) (fun _ _ _ h => h) (Or.inl ⟨by kernel_rfl, ?_⟩) (by assumption) ?_
          rotate_left
          · (intro w hSw; (try dsimp only at hSw); go_simp; try (with_reducible rfl))
          (try dsimp only [Act.put]); try simp only [Act.put, List.setIfInBounds_toArray, List.set_cons_zero, List.set_cons_succ]
          refine takeD (i := 11) (some 36) (v := ?_) rfl rfl (by kernel_rfl) (by kernel_rfl) (by kernel_rfl) (fun _ _ _ h => h) (Or.inl ⟨by kernel_rfl, ?_⟩) (by assumption) ?_
          rotate_left
          · (intro w hSw; (try dsimp only at hSw); go_simp; try (with_reducible rfl))
          (try dsimp only [Act.put]); try simp only [Act.put, List.setIfInBounds_toArray, List.set_cons_zero, List.set_cons_succ]
          refine takeD (i := 12) (some 37) (v := ?_) rfl rfl (by kernel_rfl) (by kernel_rfl) (by kernel_rfl) (fun _ _ _ h => h) (Or.inl ⟨by kernel_rfl, ?_⟩) (by assumption) ?_
          rotate_left
          · (intro w hSw; (try dsimp only at hSw); go_simp; try (with_reducible rfl))
          (try dsimp only [Act.put]); try simp only [Act.put, List.setIfInBounds_toArray, List.set_cons_zero, List.set_cons_succ]
          refine wpAnyH_ready (rs := [3, 15]) (by kernel_rfl) (by simp) ?_
          refine AllReadyH.cons rfl (fun K hK => ?_) ?_
          · go_simp
            with_reducible refine (of_any m0 _ k0.1 k0.2).mono ?_
            rintro e ym0 ⟨rfl, hgm0⟩
            refine hK.out _ _ ?_ (fun hHeld => ?_)
            · (refine nB012 (T := 3) (a := .int .i64 m0) (b := .int .i64 m1) (c := .int .i64 m2) (d := .int .i64 m3) ?_; (repeat (first | assumption | ((with_reducible refine blk_new _ _ _ ?_); (first | (with_reducible rfl) | (simp; done))) | (with_reducible refine Blk.drew ?_) | (with_reducible refine Blk.alloc ?_ _) | (with_reducible refine Blk.frm ?_ (by assumption) (fun h => h)))))
            clear hK K
            (try dsimp only [Act.put]); try simp only [Act.put, List.setIfInBounds_toArray, List.set_cons_zero, List.set_cons_succ]
            refine wpAnyH_ready (rs := [7, 15]) (by kernel_rfl) (by simp) ?_
            refine AllReadyH.cons rfl (fun K hK => ?_) ?_
            · go_simp
              with_reducible refine (har _).mono ?_
              rintro e y ⟨rfl, hyy⟩
              subst hyy
              go_wp2_with fail
              refine hK.out _ _ ?_ (fun hHeld => ?_)
              · (refine nB012 (T := 3) (a := .int .i64 m0) (b := .int .i64 m1) (c := .int .i64 m2) (d := .int .i64 m3) ?_; (repeat (first | assumption | ((with_reducible refine blk_new _ _ _ ?_); (first | (with_reducible rfl) | (simp; done))) | (with_reducible refine Blk.drew ?_) | (with_reducible refine Blk.alloc ?_ _) | (with_reducible refine Blk.frm ?_ (by assumption) (fun h => h)))))
              clear hK K
              (try dsimp only [Act.put]); try simp only [Act.put, List.setIfInBounds_toArray, List.set_cons_zero, List.set_cons_succ]
              refine takeD (i := 8) (some 33) (v := ?_) rfl rfl (by kernel_rfl) (by kernel_rfl) (by kernel_rfl) (fun _ _ _ h => h) (Or.inl ⟨by kernel_rfl, ?_⟩) (by assumption) ?_
              rotate_left
              · (intro w hSw; (try dsimp only at hSw); go_simp; try (with_reducible rfl))
              (try dsimp only [Act.put]); try simp only [Act.put, List.setIfInBounds_toArray, List.set_cons_zero, List.set_cons_succ]
              refine takeD (i := 9) (some 34) (v := ?_) rfl rfl (by kernel_rfl) (by kernel_rfl) (by kernel_rfl) (fun _ _ _ h => h) (Or.inl ⟨by kernel_rfl, ?_⟩) (by assumption) ?_
              rotate_left
              · (intro w hSw; (try dsimp only at hSw); go_simp; try (with_reducible rfl))
              (try dsimp only [Act.put]); try simp only [Act.put, List.setIfInBounds_toArray, List.set_cons_zero, List.set_cons_succ]
              refine wpAnyH_ready (rs := [13, 15]) (by kernel_rfl) (by simp) ?_
              refine AllReadyH.cons rfl (fun K hK => ?_) ?_
              · go_simp
                with_reducible refine (of_any m1 _ k1.1 k1.2).mono ?_
                rintro e ym1 ⟨rfl, hgm1⟩
                refine hK.out _ _ ?_ (fun hHeld => ?_)
                · (refine nB012 (T := 3) (a := .int .i64 m0) (b := .int .i64 m1) (c := .int .i64 m2) (d := .int .i64 m3) ?_; (repeat (first | assumption | ((with_reducible refine blk_new _ _ _ ?_); (first | (with_reducible rfl) | (simp; done))) | (with_reducible refine Blk.drew ?_) | (with_reducible refine Blk.alloc ?_ _) | (with_reducible refine Blk.frm ?_ (by assumption) (fun h => h)))))
                clear hK K
                (try dsimp only [Act.put]); try simp only [Act.put, List.setIfInBounds_toArray, List.set_cons_zero, List.set_cons_succ]
                refine takeD (i := 14) (some 39) (v := ?_) rfl rfl (by kernel_rfl) (by kernel_rfl) (by kernel_rfl) (fun _ _ _ h => h) (Or.inl ⟨by kernel_rfl, ?_⟩) (by assumption) ?_
                rotate_left
                · (intro w hSw; (try dsimp only at hSw); go_simp; try (with_reducible rfl))
                (try dsimp only [Act.put]); try simp only [Act.put, List.setIfInBounds_toArray, List.set_cons_zero, List.set_cons_succ]
                refine wpAnyH_ready (rs := [15]) (by kernel_rfl) (by simp) ?_
                refine AllReadyH.cons rfl (fun K hK => ?_) ?_
                · go_simp
                  refine hK.out _ _ ?_ (fun hHeld => ?_)
                  · (refine nB012 (T := 3) (a := .int .i64 m0) (b := .int .i64 m1) (c := .int .i64 m2) (d := .int .i64 m3) ?_; (repeat (first | assumption | ((with_reducible refine blk_new _ _ _ ?_); (first | (with_reducible rfl) | (simp; done))) | (with_reducible refine Blk.drew ?_) | (with_reducible refine Blk.alloc ?_ _) | (with_reducible refine Blk.frm ?_ (by assumption) (fun h => h)))))
                  clear hK K
                  (try dsimp only [Act.put]); try simp only [Act.put, List.setIfInBounds_toArray, List.set_cons_zero, List.set_cons_succ]
                  refine wpAnyH_ready (rs := [16]) (by kernel_rfl) (by simp) ?_
                  refine AllReadyH.cons rfl (fun K hK => ?_) ?_
                  · rw [if_pos (by rfl)]
                    refine wp_store_blk 35 _ _ (by rfl) _ (by rfl) #[.string ⟨#[]⟩, .bool false, .slice none 0 0, .slice none 0 0, .int .i64 0, .int .i64 0, .int .i64 0, .int .i64 0, .string ⟨#[]⟩, .slice none 0 0, .slice none 0 0, .int .i64 0, .int .i64 0, .int .i64 0, .int .i64 0, .int .i64 0, .int .i64 0, .int .i64 0, .int .i64 0] 35 ?_ _ (by rfl) (by exact info_rule) (by rfl) (by kernel_rfl) (fun wz hBz hfz => ?_)
                    · (repeat (first | assumption | ((with_reducible refine blk_new _ _ _ ?_); (first | (with_reducible rfl) | (simp; done))) | (with_reducible refine Blk.drew ?_) | (with_reducible refine Blk.alloc ?_ _) | (with_reducible refine Blk.frm ?_ (by assumption) (fun h => h))))
                    have s0 : w4.heap.size ≤ ym0.heap.size := Frm.size (S := noB) (by (repeat (first | (with_reducible exact Frm.refl _ _) | assumption | (with_reducible refine Frm.alloc ?_ _) | (with_reducible refine Frm.drew ?_) | (with_reducible refine Frm.trans ?_ (by assumption)))))
                    have s1 : w4.heap.size ≤ ym1.heap.size := Frm.size (S := noB) (by (repeat (first | (with_reducible exact Frm.refl _ _) | assumption | (with_reducible refine Frm.alloc ?_ _) | (with_reducible refine Frm.drew ?_) | (with_reducible refine Frm.trans ?_ (by assumption)))))
                    have hNz : Blk wz (w.heap.size + 1) #[.int .i64 m0, .int .i64 m1, .int .i64 m2, .int .i64 m3] 3 := by
                      refine Blk.frm ?_ hfz (fun e => ?_)
                      · (repeat (first | assumption | ((with_reducible refine blk_new _ _ _ ?_); (first | (with_reducible rfl) | (simp; done))) | (with_reducible refine Blk.drew ?_) | (with_reducible refine Blk.alloc ?_ _) | (with_reducible refine Blk.frm ?_ (by assumption) (fun h => h))))
                      · unfold oneB at e; omega
                    have hRz : Blk wz w.heap.size zeroR 35 := by
                      refine Blk.frm ?_ hfz (fun e => ?_)
                      · (repeat (first | assumption | ((with_reducible refine blk_new _ _ _ ?_); (first | (with_reducible rfl) | (simp; done))) | (with_reducible refine Blk.drew ?_) | (with_reducible refine Blk.alloc ?_ _) | (with_reducible refine Blk.frm ?_ (by assumption) (fun h => h))))
                      · unfold oneB at e; omega
                    have hfin : Frm noB w4 wz := by
                      refine Frm.new ?_ hfz (fun i hi e => ?_)
                      · (repeat (first | (with_reducible exact Frm.refl _ _) | assumption | (with_reducible refine Frm.alloc ?_ _) | (with_reducible refine Frm.drew ?_) | (with_reducible refine Frm.trans ?_ (by assumption))))
                      · unfold oneB at e; omega
                    refine hK.out _ _ ?_ (fun hHeld => ?_)
                    · (refine nB012 (T := 3) (a := .int .i64 m0) (b := .int .i64 m1) (c := .int .i64 m2) (d := .int .i64 m3) ?_; (repeat (first | assumption | ((with_reducible refine blk_new _ _ _ ?_); (first | (with_reducible rfl) | (simp; done))) | (with_reducible refine Blk.drew ?_) | (with_reducible refine Blk.alloc ?_ _) | (with_reducible refine Blk.frm ?_ (by assumption) (fun h => h)))))
                    clear hK K
                    (try dsimp only [Act.put]); try simp only [Act.put, List.setIfInBounds_toArray, List.set_cons_zero, List.set_cons_succ]
                    refine wpAnyH_done (by kernel_rfl) ?_ _
                    refine NoPanic.normal ?_
                    go_wp2_with fail
                    go_meet
                    exact ⟨_, rfl, hBz, hRz, hNz, by omega, hfin⟩
                  exact AllReadyH.nil
                exact AllReadyH.nil
              refine AllReadyH.cons rfl (fun K hK => ?_) ?_
              · go_simp
                refine hK.out _ _ ?_ (fun hHeld => ?_)
                · (refine nB012 (T := 3) (a := .int .i64 m0) (b := .int .i64 m1) (c := .int .i64 m2) (d := .int .i64 m3) ?_; (repeat (first | assumption | ((with_reducible refine blk_new _ _ _ ?_); (first | (with_reducible rfl) | (simp; done))) | (with_reducible refine Blk.drew ?_) | (with_reducible refine Blk.alloc ?_ _) | (with_reducible refine Blk.frm ?_ (by assumption) (fun h => h)))))
                clear hK K
                (try dsimp only [Act.put]); try simp only [Act.put, List.setIfInBounds_toArray, List.set_cons_zero, List.set_cons_succ]
                refine wpAnyH_ready (rs := [13]) (by kernel_rfl) (by simp) ?_
                refine AllReadyH.cons rfl (fun K hK => ?_) ?_
                · go_simp
                  with_reducible refine (of_any m1 _ k1.1 k1.2).mono ?_
                  rintro e ym1 ⟨rfl, hgm1⟩
                  refine hK.out _ _ ?_ (fun hHeld => ?_)
                  · (refine nB012 (T := 3) (a := .int .i64 m0) (b := .int .i64 m1) (c := .int .i64 m2) (d := .int .i64 m3) ?_; (repeat (first | assumption | ((with_reducible refine blk_new _ _ _ ?_); (first | (with_reducible rfl) | (simp; done))) | (with_reducible refine Blk.drew ?_) | (with_reducible refine Blk.alloc ?_ _) | (with_reducible refine Blk.frm ?_ (by assumption) (fun h => h)))))
                  clear hK K
                  (try dsimp only [Act.put]); try simp only [Act.put, List.setIfInBounds_toArray, List.set_cons_zero, List.set_cons_succ]
                  refine takeD (i := 14) (some 39) (v := ?_) rfl rfl (by kernel_rfl) (by kernel_rfl) (by kernel_rfl) (fun _ _ _ h => h) (Or.inl ⟨by kernel_rfl, ?_⟩) (by assumption) ?_
                  rotate_left
                  · (intro w hSw; (try dsimp only at hSw); go_simp; try (with_reducible rfl))
                  (try dsimp only [Act.put]); try simp only [Act.put, List.setIfInBounds_toArray, List.set_cons_zero, List.set_cons_succ]
                  refine wpAnyH_ready (rs := [16]) (by kernel_rfl) (by simp) ?_
                  refine AllReadyH.cons rfl (fun K hK => ?_) ?_
                  · rw [if_pos (by rfl)]
                    refine wp_store_blk 35 _ _ (by rfl) _ (by rfl) #[.string ⟨#[]⟩, .bool false, .slice none 0 0, .slice none 0 0, .int .i64 0, .int .i64 0, .int .i64 0, .int .i64 0, .string ⟨#[]⟩, .slice none 0 0, .slice none 0 0, .int .i64 0, .int .i64 0, .int .i64 0, .int .i64 0, .int .i64 0, .int .i64 0, .int .i64 0, .int .i64 0] 35 ?_ _ (by rfl) (by exact info_rule) (by rfl) (by kernel_rfl) (fun wz hBz hfz => ?_)
                    · (repeat (first | assumption | ((with_reducible refine blk_new _ _ _ ?_); (first | (with_reducible rfl) | (simp; done))) | (with_reducible refine Blk.drew ?_) | (with_reducible refine Blk.alloc ?_ _) | (with_reducible refine Blk.frm ?_ (by assumption) (fun h => h))))
                    have s0 : w4.heap.size ≤ ym0.heap.size := Frm.size (S := noB) (by (repeat (first | (with_reducible exact Frm.refl _ _) | assumption | (with_reducible refine Frm.alloc ?_ _) | (with_reducible refine Frm.drew ?_) | (with_reducible refine Frm.trans ?_ (by assumption)))))
                    have s1 : w4.heap.size ≤ ym1.heap.size := Frm.size (S := noB) (by (repeat (first | (with_reducible exact Frm.refl _ _) | assumption | (with_reducible refine Frm.alloc ?_ _) | (with_reducible refine Frm.drew ?_) | (with_reducible refine Frm.trans ?_ (by assumption)))))
                    have hNz : Blk wz (w.heap.size + 1) #[.int .i64 m0, .int .i64 m1, .int .i64 m2, .int .i64 m3] 3 := by
                      refine Blk.frm ?_ hfz (fun e => ?_)
                      · (repeat (first | assumption | ((with_reducible refine blk_new _ _ _ ?_); (first | (with_reducible rfl) | (simp; done))) | (with_reducible refine Blk.drew ?_) | (with_reducible refine Blk.alloc ?_ _) | (with_reducible refine Blk.frm ?_ (by assumption) (fun h => h))))
                      · unfold oneB at e; omega
                    have hRz : Blk wz w.heap.size zeroR 35 := by
                      refine Blk.frm ?_ hfz (fun e => ?_)
                      · (repeat (first | assumption | ((with_reducible refine blk_new _ _ _ ?_); (first | (with_reducible rfl) | (simp; done))) | (with_reducible refine Blk.drew ?_) | (with_reducible refine Blk.alloc ?_ _) | (with_reducible refine Blk.frm ?_ (by assumption) (fun h => h))))
                      · unfold oneB at e; omega
                    have hfin : Frm noB w4 wz := by
                      refine Frm.new ?_ hfz (fun i hi e => ?_)
                      · (repeat (first | (with_reducible exact Frm.refl _ _) | assumption | (with_reducible refine Frm.alloc ?_ _) | (with_reducible refine Frm.drew ?_) | (with_reducible refine Frm.trans ?_ (by assumption))))
                      · unfold oneB at e; omega
                    refine hK.out _ _ ?_ (fun hHeld => ?_)
                    · (refine nB012 (T := 3) (a := .int .i64 m0) (b := .int .i64 m1) (c := .int .i64 m2) (d := .int .i64 m3) ?_; (repeat (first | assumption | ((with_reducible refine blk_new _ _ _ ?_); (first | (with_reducible rfl) | (simp; done))) | (with_reducible refine Blk.drew ?_) | (with_reducible refine Blk.alloc ?_ _) | (with_reducible refine Blk.frm ?_ (by assumption) (fun h => h)))))
                    clear hK K
                    (try dsimp only [Act.put]); try simp only [Act.put, List.setIfInBounds_toArray, List.set_cons_zero, List.set_cons_succ]
                    refine wpAnyH_done (by kernel_rfl) ?_ _
                    refine NoPanic.normal ?_
                    go_wp2_with fail
                    go_meet
                    exact ⟨_, rfl, hBz, hRz, hNz, by omega, hfin⟩
                  exact AllReadyH.nil
                exact AllReadyH.nil
              exact AllReadyH.nil
            refine AllReadyH.cons rfl (fun K hK => ?_) ?_
            · go_simp
              refine hK.out _ _ ?_ (fun hHeld => ?_)
              · (refine nB012 (T := 3) (a := .int .i64 m0) (b := .int .i64 m1) (c := .int .i64 m2) (d := .int .i64 m3) ?_; (repeat (first | assumption | ((with_reducible refine blk_new _ _ _ ?_); (first | (with_reducible rfl) | (simp; done))) | (with_reducible refine Blk.drew ?_) | (with_reducible refine Blk.alloc ?_ _) | (with_reducible refine Blk.frm ?_ (by assumption) (fun h => h)))))
              clear hK K
              (try dsimp only [Act.put]); try simp only [Act.put, List.setIfInBounds_toArray, List.set_cons_zero, List.set_cons_succ]
              refine wpAnyH_ready (rs := [7]) (by kernel_rfl) (by simp) ?_
              refine AllReadyH.cons rfl (fun K hK => ?_) ?_
              · go_simp
                with_reducible refine (har _).mono ?_
                rintro e y ⟨rfl, hyy⟩
                subst hyy
                go_wp2_with fail
                refine hK.out _ _ ?_ (fun hHeld => ?_)
                · (refine nB012 (T := 3) (a := .int .i64 m0) (b := .int .i64 m1) (c := .int .i64 m2) (d := .int .i64 m3) ?_; (repeat (first | assumption | ((with_reducible refine blk_new _ _ _ ?_); (first | (with_reducible rfl) | (simp; done))) | (with_reducible refine Blk.drew ?_) | (with_reducible refine Blk.alloc ?_ _) | (with_reducible refine Blk.frm ?_ (by assumption) (fun h => h)))))
                clear hK K
                (try dsimp only [Act.put]); try simp only [Act.put, List.setIfInBounds_toArray, List.set_cons_zero, List.set_cons_succ]
                refine takeD (i := 8) (some 33) (v := ?_) rfl rfl (by kernel_rfl) (by kernel_rfl) (by kernel_rfl) (fun _ _ _ h => h) (Or.inl ⟨by kernel_rfl, ?_⟩) (by assumption) ?_
                rotate_left
                · (intro w hSw; (try dsimp only at hSw); go_simp; try (with_reducible rfl))
                (try dsimp only [Act.put]); try simp only [Act.put, List.setIfInBounds_toArray, List.set_cons_zero, List.set_cons_succ]
                refine takeD (i := 9) (some 34) (v := ?_) rfl rfl (by kernel_rfl) (by kernel_rfl) (by kernel_rfl) (fun _ _ _ h => h) (Or.inl ⟨by kernel_rfl, ?_⟩) (by assumption) ?_
                rotate_left
                · (intro w hSw; (try dsimp only at hSw); go_simp; try (with_reducible rfl))
                (try dsimp only [Act.put]); try simp only [Act.put, List.setIfInBounds_toArray, List.set_cons_zero, List.set_cons_succ]
                refine wpAnyH_ready (rs := [13]) (by kernel_rfl) (by simp) ?_
                refine AllReadyH.cons rfl (fun K hK => ?_) ?_
                · go_simp
                  with_reducible refine (of_any m1 _ k1.1 k1.2).mono ?_
                  rintro e ym1 ⟨rfl, hgm1⟩
                  refine hK.out _ _ ?_ (fun hHeld => ?_)
                  · (refine nB012 (T := 3) (a := .int .i64 m0) (b := .int .i64 m1) (c := .int .i64 m2) (d := .int .i64 m3) ?_; (repeat (first | assumption | ((with_reducible refine blk_new _ _ _ ?_); (first | (with_reducible rfl) | (simp; done))) | (with_reducible refine Blk.drew ?_) | (with_reducible refine Blk.alloc ?_ _) | (with_reducible refine Blk.frm ?_ (by assumption) (fun h => h)))))
                  clear hK K
                  (try dsimp only [Act.put]); try simp only [Act.put, List.setIfInBounds_toArray, List.set_cons_zero, List.set_cons_succ]
                  refine takeD (i := 14) (some 39) (v := ?_) rfl rfl (by kernel_rfl) (by kernel_rfl) (by kernel_rfl) (fun _ _ _ h => h) (Or.inl ⟨by kernel_rfl, ?_⟩) (by assumption) ?_
                  rotate_left
                  · (intro w hSw; (try dsimp only at hSw); go_simp; try (with_reducible rfl))
                  (try dsimp only [Act.put]); try simp only [Act.put, List.setIfInBounds_toArray, List.set_cons_zero, List.set_cons_succ]
                  refine wpAnyH_ready (rs := [16]) (by kernel_rfl) (by simp) ?_
                  refine AllReadyH.cons rfl (fun K hK => ?_) ?_
                  · rw [if_pos (by rfl)]
                    refine wp_store_blk 35 _ _ (by rfl) _ (by rfl) #[.string ⟨#[]⟩, .bool false, .slice none 0 0, .slice none 0 0, .int .i64 0, .int .i64 0, .int .i64 0, .int .i64 0, .string ⟨#[]⟩, .slice none 0 0, .slice none 0 0, .int .i64 0, .int .i64 0, .int .i64 0, .int .i64 0, .int .i64 0, .int .i64 0, .int .i64 0, .int .i64 0] 35 ?_ _ (by rfl) (by exact info_rule) (by rfl) (by kernel_rfl) (fun wz hBz hfz => ?_)
                    · (repeat (first | assumption | ((with_reducible refine blk_new _ _ _ ?_); (first | (with_reducible rfl) | (simp; done))) | (with_reducible refine Blk.drew ?_) | (with_reducible refine Blk.alloc ?_ _) | (with_reducible refine Blk.frm ?_ (by assumption) (fun h => h))))
                    have s0 : w4.heap.size ≤ ym0.heap.size := Frm.size (S := noB) (by (repeat (first | (with_reducible exact Frm.refl _ _) | assumption | (with_reducible refine Frm.alloc ?_ _) | (with_reducible refine Frm.drew ?_) | (with_reducible refine Frm.trans ?_ (by assumption)))))
                    have s1 : w4.heap.size ≤ ym1.heap.size := Frm.size (S := noB) (by (repeat (first | (with_reducible exact Frm.refl _ _) | assumption | (with_reducible refine Frm.alloc ?_ _) | (with_reducible refine Frm.drew ?_) | (with_reducible refine Frm.trans ?_ (by assumption)))))
                    have hNz : Blk wz (w.heap.size + 1) #[.int .i64 m0, .int .i64 m1, .int .i64 m2, .int .i64 m3] 3 := by
                      refine Blk.frm ?_ hfz (fun e => ?_)
                      · (repeat (first | assumption | ((with_reducible refine blk_new _ _ _ ?_); (first | (with_reducible rfl) | (simp; done))) | (with_reducible refine Blk.drew ?_) | (with_reducible refine Blk.alloc ?_ _) | (with_reducible refine Blk.frm ?_ (by assumption) (fun h => h))))
                      · unfold oneB at e; omega
                    have hRz : Blk wz w.heap.size zeroR 35 := by
                      refine Blk.frm ?_ hfz (fun e => ?_)
                      · (repeat (first | assumption | ((with_reducible refine blk_new _ _ _ ?_); (first | (with_reducible rfl) | (simp; done))) | (with_reducible refine Blk.drew ?_) | (with_reducible refine Blk.alloc ?_ _) | (with_reducible refine Blk.frm ?_ (by assumption) (fun h => h))))
                      · unfold oneB at e; omega
                    have hfin : Frm noB w4 wz := by
                      refine Frm.new ?_ hfz (fun i hi e => ?_)
                      · (repeat (first | (with_reducible exact Frm.refl _ _) | assumption | (with_reducible refine Frm.alloc ?_ _) | (with_reducible refine Frm.drew ?_) | (with_reducible refine Frm.trans ?_ (by assumption))))
                      · unfold oneB at e; omega
                    refine hK.out _ _ ?_ (fun hHeld => ?_)
                    · (refine nB012 (T := 3) (a := .int .i64 m0) (b := .int .i64 m1) (c := .int .i64 m2) (d := .int .i64 m3) ?_; (repeat (first | assumption | ((with_reducible refine blk_new _ _ _ ?_); (first | (with_reducible rfl) | (simp; done))) | (with_reducible refine Blk.drew ?_) | (with_reducible refine Blk.alloc ?_ _) | (with_reducible refine Blk.frm ?_ (by assumption) (fun h => h)))))
                    clear hK K
                    (try dsimp only [Act.put]); try simp only [Act.put, List.setIfInBounds_toArray, List.set_cons_zero, List.set_cons_succ]
                    refine wpAnyH_done (by kernel_rfl) ?_ _
                    refine NoPanic.normal ?_
                    go_wp2_with fail
                    go_meet
                    exact ⟨_, rfl, hBz, hRz, hNz, by omega, hfin⟩
                  exact AllReadyH.nil
                exact AllReadyH.nil
              exact AllReadyH.nil
            exact AllReadyH.nil
          refine AllReadyH.cons rfl (fun K hK => ?_) ?_
          · go_simp
            refine hK.out _ _ ?_ (fun hHeld => ?_)
            · (refine nB012 (T := 3) (a := .int .i64 m0) (b := .int .i64 m1) (c := .int .i64 m2) (d := .int .i64 m3) ?_; (repeat (first | assumption | ((with_reducible refine blk_new _ _ _ ?_); (first | (with_reducible rfl) | (simp; done))) | (with_reducible refine Blk.drew ?_) | (with_reducible refine Blk.alloc ?_ _) | (with_reducible refine Blk.frm ?_ (by assumption) (fun h => h)))))
            clear hK K
            (try dsimp only [Act.put]); try simp only [Act.put, List.setIfInBounds_toArray, List.set_cons_zero, List.set_cons_succ]
            refine wpAnyH_ready (rs := [3]) (by kernel_rfl) (by simp) ?_
            refine AllReadyH.cons rfl (fun K hK => ?_) ?_
            · go_simp
              with_reducible refine (of_any m0 _ k0.1 k0.2).mono ?_
              rintro e ym0 ⟨rfl, hgm0⟩
              refine hK.out _ _ ?_ (fun hHeld => ?_)
              · (refine nB012 (T := 3) (a := .int .i64 m0) (b := .int .i64 m1) (c := .int .i64 m2) (d := .int .i64 m3) ?_; (repeat (first | assumption | ((with_reducible refine blk_new _ _ _ ?_); (first | (with_reducible rfl) | (simp; done))) | (with_reducible refine Blk.drew ?_) | (with_reducible refine Blk.alloc ?_ _) | (with_reducible refine Blk.frm ?_ (by assumption) (fun h => h)))))
              clear hK K
              (try dsimp only [Act.put]); try simp only [Act.put, List.setIfInBounds_toArray, List.set_cons_zero, List.set_cons_succ]
              refine wpAnyH_ready (rs := [7]) (by kernel_rfl) (by simp) ?_
              refine AllReadyH.cons rfl (fun K hK => ?_) ?_
              · go_simp
                with_reducible refine (har _).mono ?_
                rintro e y ⟨rfl, hyy⟩
                subst hyy
                go_wp2_with fail
                refine hK.out _ _ ?_ (fun hHeld => ?_)
                · (refine nB012 (T := 3) (a := .int .i64 m0) (b := .int .i64 m1) (c := .int .i64 m2) (d := .int .i64 m3) ?_; (repeat (first | assumption | ((with_reducible refine blk_new _ _ _ ?_); (first | (with_reducible rfl) | (simp; done))) | (with_reducible refine Blk.drew ?_) | (with_reducible refine Blk.alloc ?_ _) | (with_reducible refine Blk.frm ?_ (by assumption) (fun h => h)))))
                clear hK K
                (try dsimp only [Act.put]); try simp only [Act.put, List.setIfInBounds_toArray, List.set_cons_zero, List.set_cons_succ]
                refine takeD (i := 8) (some 33) (v := ?_) rfl rfl (by kernel_rfl) (by kernel_rfl) (by kernel_rfl) (fun _ _ _ h => h) (Or.inl ⟨by kernel_rfl, ?_⟩) (by assumption) ?_
                rotate_left
                · (intro w hSw; (try dsimp only at hSw); go_simp; try (with_reducible rfl))
                (try dsimp only [Act.put]); try simp only [Act.put, List.setIfInBounds_toArray, List.set_cons_zero, List.set_cons_succ]
                refine takeD (i := 9) (some 34) (v := ?_) rfl rfl (by kernel_rfl) (by kernel_rfl) (by kernel_rfl) (fun _ _ _ h => h) (Or.inl ⟨by kernel_rfl, ?_⟩) (by assumption) ?_
                rotate_left
                · (intro w hSw; (try dsimp only at hSw); go_simp; try (with_reducible rfl))
                (try dsimp only [Act.put]); try simp only [Act.put, List.setIfInBounds_toArray, List.set_cons_zero, List.set_cons_succ]
                refine wpAnyH_ready (rs := [13]) (by kernel_rfl) (by simp) ?_
                refine AllReadyH.cons rfl (fun K hK => ?_) ?_
                · go_simp
                  with_reducible refine (of_any m1 _ k1.1 k1.2).mono ?_
                  rintro e ym1 ⟨rfl, hgm1⟩
                  refine hK.out _ _ ?_ (fun hHeld => ?_)
                  · (refine nB012 (T := 3) (a := .int .i64 m0) (b := .int .i64 m1) (c := .int .i64 m2) (d := .int .i64 m3) ?_; (repeat (first | assumption | ((with_reducible refine blk_new _ _ _ ?_); (first | (with_reducible rfl) | (simp; done))) | (with_reducible refine Blk.drew ?_) | (with_reducible refine Blk.alloc ?_ _) | (with_reducible refine Blk.frm ?_ (by assumption) (fun h => h)))))
                  clear hK K
                  (try dsimp only [Act.put]); try simp only [Act.put, List.setIfInBounds_toArray, List.set_cons_zero, List.set_cons_succ]
                  refine takeD (i := 14) (some 39) (v := ?_) rfl rfl (by kernel_rfl) (by kernel_rfl) (by kernel_rfl) (fun _ _ _ h => h) (Or.inl ⟨by kernel_rfl, ?_⟩) (by assumption) ?_
                  rotate_left
                  · (intro w hSw; (try dsimp only at hSw); go_simp; try (with_reducible rfl))
                  (try dsimp only [Act.put]); try simp only [Act.put, List.setIfInBounds_toArray, List.set_cons_zero, List.set_cons_succ]
                  refine wpAnyH_ready (rs := [16]) (by kernel_rfl) (by simp) ?_
                  refine AllReadyH.cons rfl (fun K hK => ?_) ?_
                  · rw [if_pos (by rfl)]
                    refine wp_store_blk 35 _ _ (by rfl) _ (by rfl) #[.string ⟨#[]⟩, .bool false, .slice none 0 0, .slice none 0 0, .int .i64 0, .int .i64 0, .int .i64 0, .int .i64 0, .string ⟨#[]⟩, .slice none 0 0, .slice none 0 0, .int .i64 0, .int .i64 0, .int .i64 0, .int .i64 0, .int .i64 0, .int .i64 0, .int .i64 0, .int .i64 0] 35 ?_ _ (by rfl) (by exact info_rule) (by rfl) (by kernel_rfl) (fun wz hBz hfz => ?_)
                    · (repeat (first | assumption | ((with_reducible refine blk_new _ _ _ ?_); (first | (with_reducible rfl) | (simp; done))) | (with_reducible refine Blk.drew ?_) | (with_reducible refine Blk.alloc ?_ _) | (with_reducible refine Blk.frm ?_ (by assumption) (fun h => h))))
                    have s0 : w4.heap.size ≤ ym0.heap.size := Frm.size (S := noB) (by (repeat (first | (with_reducible exact Frm.refl _ _) | assumption | (with_reducible refine Frm.alloc ?_ _) | (with_reducible refine Frm.drew ?_) | (with_reducible refine Frm.trans ?_ (by assumption)))))
                    have s1 : w4.heap.size ≤ ym1.heap.size := Frm.size (S := noB) (by (repeat (first | (with_reducible exact Frm.refl _ _) | assumption | (with_reducible refine Frm.alloc ?_ _) | (with_reducible refine Frm.drew ?_) | (with_reducible refine Frm.trans ?_ (by assumption)))))
                    have hNz : Blk wz (w.heap.size + 1) #[.int .i64 m0, .int .i64 m1, .int .i64 m2, .int .i64 m3] 3 := by
                      refine Blk.frm ?_ hfz (fun e => ?_)
                      · (repeat (first | assumption | ((with_reducible refine blk_new _ _ _ ?_); (first | (with_reducible rfl) | (simp; done))) | (with_reducible refine Blk.drew ?_) | (with_reducible refine Blk.alloc ?_ _) | (with_reducible refine Blk.frm ?_ (by assumption) (fun h => h))))
                      · unfold oneB at e; omega
                    have hRz : Blk wz w.heap.size zeroR 35 := by
                      refine Blk.frm ?_ hfz (fun e => ?_)
                      · (repeat (first | assumption | ((with_reducible refine blk_new _ _ _ ?_); (first | (with_reducible rfl) | (simp; done))) | (with_reducible refine Blk.drew ?_) | (with_reducible refine Blk.alloc ?_ _) | (with_reducible refine Blk.frm ?_ (by assumption) (fun h => h))))
                      · unfold oneB at e; omega
                    have hfin : Frm noB w4 wz := by
                      refine Frm.new ?_ hfz (fun i hi e => ?_)
                      · (repeat (first | (with_reducible exact Frm.refl _ _) | assumption | (with_reducible refine Frm.alloc ?_ _) | (with_reducible refine Frm.drew ?_) | (with_reducible refine Frm.trans ?_ (by assumption))))
                      · unfold oneB at e; omega
                    refine hK.out _ _ ?_ (fun hHeld => ?_)
                    · (refine nB012 (T := 3) (a := .int .i64 m0) (b := .int .i64 m1) (c := .int .i64 m2) (d := .int .i64 m3) ?_; (repeat (first | assumption | ((with_reducible refine blk_new _ _ _ ?_); (first | (with_reducible rfl) | (simp; done))) | (with_reducible refine Blk.drew ?_) | (with_reducible refine Blk.alloc ?_ _) | (with_reducible refine Blk.frm ?_ (by assumption) (fun h => h)))))
                    clear hK K
                    (try dsimp only [Act.put]); try simp only [Act.put, List.setIfInBounds_toArray, List.set_cons_zero, List.set_cons_succ]
                    refine wpAnyH_done (by kernel_rfl) ?_ _
                    refine NoPanic.normal ?_
                    go_wp2_with fail
                    go_meet
                    exact ⟨_, rfl, hBz, hRz, hNz, by omega, hfin⟩
                  exact AllReadyH.nil
                exact AllReadyH.nil
              exact AllReadyH.nil
            exact AllReadyH.nil
          exact AllReadyH.nil
        case rest =>
          have Heb := Lib.hid heb
          obtain ⟨B, rfl, hB, hR, hN, hlt, hfb⟩ := hcut
          have hwB : w.heap.size < B := Nat.lt_of_succ_lt hlt
          have n3 := nB3 hN
          have b8 := (hB.cell 8).trans (show _ = some (Value.string (bs (pathOf (ofZ m1)))) from rfl)
          have y8 := hB.free 8
          have bl := hB.lt
          have hfw := Hf.out.trans hfb
          have hBz := hB.set 8 (.string ⟨#[]⟩)
          have hRz := hR.set_ne (a := ⟨B, 8, none⟩) (Nat.ne_of_lt hwB) (.string ⟨#[]⟩)
          have hfz := hfw.setNew (p := ⟨B, 8, none⟩) (Nat.le_of_lt hwB) (.string ⟨#[]⟩)
          rw [show (ruleC (bs (pathOf (ofZ m0))) eb (bs (pathOf (ofZ m1))) (.slice none 0 0) (.slice none 0 0)).setIfInBounds 8 (.string ⟨#[]⟩) = ruleC (bs (pathOf (ofZ m0))) eb ⟨#[]⟩ (.slice none 0 0) (.slice none 0 0) from rfl] at hBz
          have hx := Hh.out
          have hkmin : min n 4 ≤ n := Nat.min_le_left _ _
          obtain ⟨a', hsl, hil, hsp'⟩ := slice_fromI a n c (min n 4) hkmin hc
          obtain ⟨k4, hk4⟩ : ∃ k, k = min n 4 := ⟨_, rfl⟩
          rw [← hk4] at hsl hil hkmin
          have hmin : min (n : Int) 4 = (k4 : Int) := by omega
          have hdr : xs.drop k4 = xs.drop 4 := drop_min Hl.out hk4
          obtain ⟨n5, hn5⟩ : ∃ k, k = n - k4 := ⟨_, rfl⟩
          obtain ⟨c5, hc5⟩ : ∃ k, k = c - k4 := ⟨_, rfl⟩
          rw [← hn5, ← hc5] at hsl
          rw [← hn5] at hil
          have hc55 : n5 ≤ c5 := by omega
          have hc52 : c5 ≤ 9223372036854775807 := by omega
          have hn563 : n5 ≤ 9223372036854775807 := by omega
          have hkmin2 : min n5 4 ≤ n5 := Nat.min_le_left _ _
          obtain ⟨a6, hsl2, hil2, _⟩ := slice_fromI a' n5 c5 (min n5 4) hkmin2 hc55
          obtain ⟨k6, hk6⟩ : ∃ k, k = min n5 4 := ⟨_, rfl⟩
          rw [← hk6] at hsl2 hil2 hkmin2
          have hmin2 : min (n5 : Int) 4 = (k6 : Int) := by omega
          have hx4 : ∀ w', Frm noB w w' → IntsL w' a' n5 (xs.drop 4) := fun w' f => by
            have := hil _ _ (hx.keep f)
            rwa [hdr] at this
          have hdr2 : (xs.drop 4).drop k6 = xs.drop 8 := by rw [drop_min (hx4 _ hfw).len hk6, List.drop_drop]
          have hx8 : ∀ w', Frm noB w w' → IntsL w' a6 (n5 - k6) (xs.drop 8) := fun w' f => by
            have := hil2 _ _ (hx4 _ f)
            rwa [hdr2] at this
          have i1 : (0 : Int) ≤ (k4 : Int) := by omega
          have i2 : (k4 : Int) ≤ (n : Int) := by omega
          by_cases h5 : q3 = 5
          · have t5 : ((q3 : Int) == 5) = true := by simp; omega
            have HB := Lib.hid hB
            have HR := Lib.hid hR
            have HN := Lib.hid hN
            have Hfb := Lib.hid hfb
            have Hfw := Lib.hid hfw
            have HBz := Lib.hid hBz
            have HRz := Lib.hid hRz
            have Hfz := Lib.hid hfz
            have Hx := Lib.hid hx
            have Hil := Lib.hid hil
            have Hsp' := Lib.hid hsp'
            have Hil2 := Lib.hid hil2
            have Hdr := Lib.hid hdr
            have Hdr2 := Lib.hid hdr2
            have Hx4 := Lib.hid hx4
            have Hx8 := Lib.hid hx8
            have Hn5 := Lib.hid hn5
            have Hc5 := Lib.hid hc5
            have Hk4 := Lib.hid hk4
            have Hk6 := Lib.hid hk6
            have H5 := Lib.hid h5
            clear hB hR hN hfb hfw hBz hRz hfz hx hil hsp' hil2 hdr hdr2 hx4 hx8 hn5 hc5 hk4 hk6 h5
            go_wp2_with fail
            refine (Har3.out _).mono ?_
            rintro e w' ⟨rfl, rfl⟩
            clear n3
            go_wp2_with fail
            refine (ints_any a' n5 c5 4 (xs.drop 4) _ (Hx4.out _ Hfz.out) hc55 hc52 (by omega)).mono ?_
            rintro e x1 ⟨a7, c7, rfl, hi7, hg1⟩
            generalize hn7 : ((xs.drop 4).take 4).length = n7 at *
            have Hn7 := Lib.hid hn7
            clear hn7
            have hB1 := HBz.out.frm hg1 (fun h => h)
            have hR1 := HRz.out.frm hg1 (fun h => h)
            have hf1 := Hfz.out.trans hg1
            have hB1l := hB1.lt
            have hB1w := Nat.lt_trans hwB hB1l
            clear b8 y8 bl
            have Hi7 := Lib.hid hi7
            have Hg1 := Lib.hid hg1
            have HB1 := Lib.hid hB1
            have HR1 := Lib.hid hR1
            have Hf1 := Lib.hid hf1
            clear hi7 hg1 hB1 hR1 hf1
            go_wp2_with fail
            refine (heads_any a7 n7 c7 ((xs.drop 4).take 4) _ Hi7.out).mono ?_
            rintro e x2 ⟨sv, rfl, hs, hg2⟩
            rw [List.take_take, show min 12 4 = 4 from rfl] at hs
            have hs_lt := fun k h => (hs.lt k h).1
            have hsl3 := hs.shape
            obtain ⟨sa, sc, rfl, hxx⟩ := hsl3
            clear hxx
            obtain ⟨ns, hns⟩ : ∃ n, n = (genH ((xs.drop 4).take 4)).length := ⟨_, rfl⟩
            rw [← hns] at hs hs_lt ⊢
            have hB2 := HB1.out.frm hg2 (fun h => h)
            have hR2 := HR1.out.frm hg2 (fun h => h)
            have hf2 := Hf1.out.trans hg2
            have b9 := (hB2.cell 9).trans (show _ = some (Value.slice none 0 0) from rfl)
            have y9 := hB2.free 9
            have bl := hB2.lt
            have hB3 := hB2.set 9 (.slice sa ns sc)
            have hR3 := hR2.set_ne (a := ⟨B, 9, none⟩) (Nat.ne_of_lt hwB) (.slice sa ns sc)
            have hf3 := hf2.setNew (p := ⟨B, 9, none⟩) (Nat.le_of_lt hwB) (.slice sa ns sc)
            have hs3 := hs.frm (S := oneB B) ((Frm.refl (oneB B) x2).setOne 9 (.slice sa ns sc)) (fun b hb e => ge_ne (hs_lt b hb) hB1l e)
            rw [show (ruleC (bs (pathOf (ofZ m0))) eb ⟨#[]⟩ (.slice none 0 0) (.slice none 0 0)).setIfInBounds 9 (.slice sa ns sc) = ruleC (bs (pathOf (ofZ m0))) eb ⟨#[]⟩ (.slice sa ns sc) (.slice none 0 0) from rfl] at hB3
            have Hs := Lib.hid hs
            have HB2 := Lib.hid hB2
            have HR2 := Lib.hid hR2
            have Hf2 := Lib.hid hf2
            have HB3 := Lib.hid hB3
            have HR3 := Lib.hid hR3
            have Hf3 := Lib.hid hf3
            have Hs3 := Lib.hid hs3
            have Hns := Lib.hid hns
            have Hg2 := Lib.hid hg2
            clear hs hB2 hR2 hf2 hB3 hR3 hf3 hs3 hns hg2
            go_wp2_with fail
            refine (names_any a6 (n5 - k6) (c5 - k6) (xs.drop 8) _ (Hx8.out _ Hf3.out)).mono ?_
            rintro e x4 ⟨dv, rfl, hd, hg4⟩
            have hd_lt := fun k h => (hd.lt k h).1
            have hdl3 := hd.shape
            obtain ⟨da, dc, rfl, hxx⟩ := hdl3
            clear hxx b9 y9 bl
            obtain ⟨nd, hnd⟩ : ∃ n, n = (namesH ((xs.drop 8).take 6)).length := ⟨_, rfl⟩
            rw [← hnd] at hd hd_lt ⊢
            have hB4 := HB3.out.frm hg4 (fun h => h)
            have hR4 := HR3.out.frm hg4 (fun h => h)
            have hs4 := Hs3.out.keep hg4
            have hf4 := Hf3.out.trans hg4
            have b10 := (hB4.cell 10).trans (show _ = some (Value.slice none 0 0) from rfl)
            have y10 := hB4.free 10
            have bl := hB4.lt
            have hszB : B < (x2.setCell ⟨B, 9, none⟩ (.slice sa ns sc)).heap.size := HB3.out.lt
            have hB5 := hB4.set 10 (.slice da nd dc)
            have hR5 := hR4.set_ne (a := ⟨B, 10, none⟩) (Nat.ne_of_lt hwB) (.slice da nd dc)
            have hf5 := hf4.setNew (p := ⟨B, 10, none⟩) (Nat.le_of_lt hwB) (.slice da nd dc)
            have hs5 := hs4.frm (S := oneB B) ((Frm.refl (oneB B) x4).setOne 10 (.slice da nd dc)) (fun b hb e => ge_ne (hs_lt b hb) hB1l e)
            have hd5 := hd.frm (S := oneB B) ((Frm.refl (oneB B) x4).setOne 10 (.slice da nd dc)) (fun b hb e => ge_ne (hd_lt b hb) hszB e)
            rw [show (ruleC (bs (pathOf (ofZ m0))) eb ⟨#[]⟩ (.slice sa ns sc) (.slice none 0 0)).setIfInBounds 10 (.slice da nd dc) = ruleC (bs (pathOf (ofZ m0))) eb ⟨#[]⟩ (.slice sa ns sc) (.slice da nd dc) from rfl] at hB5
            have bL := hB5
            have bS := hR5
            have Hd := Lib.hid hd
            have HB4 := Lib.hid hB4
            have HR4 := Lib.hid hR4
            have Hf4 := Lib.hid hf4
            have HB5 := Lib.hid hB5
            have HR5 := Lib.hid hR5
            have Hf5 := Lib.hid hf5
            have Hs5 := Lib.hid hs5
            have Hd5 := Lib.hid hd5
            have Hs4 := Lib.hid hs4
            have Hnd := Lib.hid hnd
            have Hg4 := Lib.hid hg4
            have Hs_lt := Lib.hid hs_lt
            have Hd_lt := Lib.hid hd_lt
            clear hd hB4 hR4 hf4 hB5 hR5 hf5 hs5 hd5 hs4 hnd hg4 hs_lt hd_lt
            go_wp2_with (first | (refine wpl_load_blk (by rfl) 35 _ (by rfl) _ (by rfl) _ _ (by exact bL) _ Tryd.underlying35 (by rfl) (by exact info_rule) ?_) | (refine wpl_store_blk (by rfl) 35 _ _ (by rfl) _ (by rfl) _ _ (by exact bS) _ (by rfl) (by exact info_rule) (by rfl) (by kernel_rfl) ?_; intro wz hRq hfq))
            have hfin := Hf5.out.new hfq (fun i hi e => ne_lt hi e)
            have hsq := Hs5.out.frm hfq (fun b hb e => ge_ne (Hs_lt.out b hb) hB1w e)
            have hdq := Hd5.out.frm hfq (fun b hb e => ge_ne (Hd_lt.out b hb) (Nat.lt_trans hwB hszB) e)
            refine bodyPost_ret (rule_res _ _ _ _ _ (by rfl) hRq (by rfl)) rfl ⟨_, _, ?_, ⟨_, hsq⟩, ⟨_, hdq⟩, hfin⟩
            rw [Hm0.out, Hm1.out, Hm2.out, Hm3.out, Hq2.out, pfxOf, Hq3.out, if_pos H5.out, eb_dec Heb.out]
            rfl
          · have t5 : ((q3 : Int) == 5) = false := by simp; omega
            have HB := Lib.hid hB
            have HR := Lib.hid hR
            have HN := Lib.hid hN
            have Hfb := Lib.hid hfb
            have Hfw := Lib.hid hfw
            have HBz := Lib.hid hBz
            have HRz := Lib.hid hRz
            have Hfz := Lib.hid hfz
            have Hx := Lib.hid hx
            have Hil := Lib.hid hil
            have Hsp' := Lib.hid hsp'
            have Hil2 := Lib.hid hil2
            have Hdr := Lib.hid hdr
            have Hdr2 := Lib.hid hdr2
            have Hx4 := Lib.hid hx4
            have Hx8 := Lib.hid hx8
            have Hn5 := Lib.hid hn5
            have Hc5 := Lib.hid hc5
            have Hk4 := Lib.hid hk4
            have Hk6 := Lib.hid hk6
            have H5 := Lib.hid h5
            clear hB hR hN hfb hfw hBz hRz hfz hx hil hsp' hil2 hdr hdr2 hx4 hx8 hn5 hc5 hk4 hk6 h5
            go_wp2_with fail
            refine (Har3.out _).mono ?_
            rintro e w' ⟨rfl, rfl⟩
            clear n3
            go_wp2_with fail
            refine (ints_any a' n5 c5 4 (xs.drop 4) _ (Hx4.out _ Hfw.out) hc55 hc52 (by omega)).mono ?_
            rintro e x1 ⟨a7, c7, rfl, hi7, hg1⟩
            generalize hn7 : ((xs.drop 4).take 4).length = n7 at *
            have Hn7 := Lib.hid hn7
            clear hn7
            have hB1 := HB.out.frm hg1 (fun h => h)
            have hR1 := HR.out.frm hg1 (fun h => h)
            have hf1 := Hfw.out.trans hg1
            have hB1l := hB1.lt
            have hB1w := Nat.lt_trans hwB hB1l
            clear b8 y8 bl
            have Hi7 := Lib.hid hi7
            have Hg1 := Lib.hid hg1
            have HB1 := Lib.hid hB1
            have HR1 := Lib.hid hR1
            have Hf1 := Lib.hid hf1
            clear hi7 hg1 hB1 hR1 hf1
            go_wp2_with fail
            refine (heads_any a7 n7 c7 ((xs.drop 4).take 4) _ Hi7.out).mono ?_
            rintro e x2 ⟨sv, rfl, hs, hg2⟩
            rw [List.take_take, show min 12 4 = 4 from rfl] at hs
            have hs_lt := fun k h => (hs.lt k h).1
            have hsl3 := hs.shape
            obtain ⟨sa, sc, rfl, hxx⟩ := hsl3
            clear hxx
            obtain ⟨ns, hns⟩ : ∃ n, n = (genH ((xs.drop 4).take 4)).length := ⟨_, rfl⟩
            rw [← hns] at hs hs_lt ⊢
            have hB2 := HB1.out.frm hg2 (fun h => h)
            have hR2 := HR1.out.frm hg2 (fun h => h)
            have hf2 := Hf1.out.trans hg2
            have b9 := (hB2.cell 9).trans (show _ = some (Value.slice none 0 0) from rfl)
            have y9 := hB2.free 9
            have bl := hB2.lt
            have hB3 := hB2.set 9 (.slice sa ns sc)
            have hR3 := hR2.set_ne (a := ⟨B, 9, none⟩) (Nat.ne_of_lt hwB) (.slice sa ns sc)
            have hf3 := hf2.setNew (p := ⟨B, 9, none⟩) (Nat.le_of_lt hwB) (.slice sa ns sc)
            have hs3 := hs.frm (S := oneB B) ((Frm.refl (oneB B) x2).setOne 9 (.slice sa ns sc)) (fun b hb e => ge_ne (hs_lt b hb) hB1l e)
            rw [show (ruleC (bs (pathOf (ofZ m0))) eb (bs (pathOf (ofZ m1))) (.slice none 0 0) (.slice none 0 0)).setIfInBounds 9 (.slice sa ns sc) = ruleC (bs (pathOf (ofZ m0))) eb (bs (pathOf (ofZ m1))) (.slice sa ns sc) (.slice none 0 0) from rfl] at hB3
            have Hs := Lib.hid hs
            have HB2 := Lib.hid hB2
            have HR2 := Lib.hid hR2
            have Hf2 := Lib.hid hf2
            have HB3 := Lib.hid hB3
            have HR3 := Lib.hid hR3
            have Hf3 := Lib.hid hf3
            have Hs3 := Lib.hid hs3
            have Hns := Lib.hid hns
            have Hg2 := Lib.hid hg2
            clear hs hB2 hR2 hf2 hB3 hR3 hf3 hs3 hns hg2
            go_wp2_with fail
            refine (names_any a6 (n5 - k6) (c5 - k6) (xs.drop 8) _ (Hx8.out _ Hf3.out)).mono ?_
            rintro e x4 ⟨dv, rfl, hd, hg4⟩
            have hd_lt := fun k h => (hd.lt k h).1
            have hdl3 := hd.shape
            obtain ⟨da, dc, rfl, hxx⟩ := hdl3
            clear hxx b9 y9 bl
            obtain ⟨nd, hnd⟩ : ∃ n, n = (namesH ((xs.drop 8).take 6)).length := ⟨_, rfl⟩
            rw [← hnd] at hd hd_lt ⊢
            have hB4 := HB3.out.frm hg4 (fun h => h)
            have hR4 := HR3.out.frm hg4 (fun h => h)
            have hs4 := Hs3.out.keep hg4
            have hf4 := Hf3.out.trans hg4
            have b10 := (hB4.cell 10).trans (show _ = some (Value.slice none 0 0) from rfl)
            have y10 := hB4.free 10
            have bl := hB4.lt
            have hszB : B < (x2.setCell ⟨B, 9, none⟩ (.slice sa ns sc)).heap.size := HB3.out.lt
            have hB5 := hB4.set 10 (.slice da nd dc)
            have hR5 := hR4.set_ne (a := ⟨B, 10, none⟩) (Nat.ne_of_lt hwB) (.slice da nd dc)
            have hf5 := hf4.setNew (p := ⟨B, 10, none⟩) (Nat.le_of_lt hwB) (.slice da nd dc)
            have hs5 := hs4.frm (S := oneB B) ((Frm.refl (oneB B) x4).setOne 10 (.slice da nd dc)) (fun b hb e => ge_ne (hs_lt b hb) hB1l e)
            have hd5 := hd.frm (S := oneB B) ((Frm.refl (oneB B) x4).setOne 10 (.slice da nd dc)) (fun b hb e => ge_ne (hd_lt b hb) hszB e)
            rw [show (ruleC (bs (pathOf (ofZ m0))) eb (bs (pathOf (ofZ m1))) (.slice sa ns sc) (.slice none 0 0)).setIfInBounds 10 (.slice da nd dc) = ruleC (bs (pathOf (ofZ m0))) eb (bs (pathOf (ofZ m1))) (.slice sa ns sc) (.slice da nd dc) from rfl] at hB5
            have bL := hB5
            have bS := hR5
            have Hd := Lib.hid hd
            have HB4 := Lib.hid hB4
            have HR4 := Lib.hid hR4
            have Hf4 := Lib.hid hf4
            have HB5 := Lib.hid hB5
            have HR5 := Lib.hid hR5
            have Hf5 := Lib.hid hf5
            have Hs5 := Lib.hid hs5
            have Hd5 := Lib.hid hd5
            have Hs4 := Lib.hid hs4
            have Hnd := Lib.hid hnd
            have Hg4 := Lib.hid hg4
            have Hs_lt := Lib.hid hs_lt
            have Hd_lt := Lib.hid hd_lt
            clear hd hB4 hR4 hf4 hB5 hR5 hf5 hs5 hd5 hs4 hnd hg4 hs_lt hd_lt
            go_wp2_with (first | (refine wpl_load_blk (by rfl) 35 _ (by rfl) _ (by rfl) _ _ (by exact bL) _ Tryd.underlying35 (by rfl) (by exact info_rule) ?_) | (refine wpl_store_blk (by rfl) 35 _ _ (by rfl) _ (by rfl) _ _ (by exact bS) _ (by rfl) (by exact info_rule) (by rfl) (by kernel_rfl) ?_; intro wz hRq hfq))
            have hfin := Hf5.out.new hfq (fun i hi e => ne_lt hi e)
            have hsq := Hs5.out.frm hfq (fun b hb e => ge_ne (Hs_lt.out b hb) hB1w e)
            have hdq := Hd5.out.frm hfq (fun b hb e => ge_ne (Hd_lt.out b hb) (Nat.lt_trans hwB hszB) e)
            refine bodyPost_ret (rule_res _ _ _ _ _ (by rfl) hRq (by rfl)) rfl ⟨_, _, ?_, ⟨_, hsq⟩, ⟨_, hdq⟩, hfin⟩
            rw [Hm0.out, Hm1.out, Hm2.out, Hm3.out, Hq2.out, pfxOf, Hq3.out, if_neg H5.out, eb_dec Heb.out]
            rfl
end Go.Proofs.YtbeilgkogbcjjaaDoor
