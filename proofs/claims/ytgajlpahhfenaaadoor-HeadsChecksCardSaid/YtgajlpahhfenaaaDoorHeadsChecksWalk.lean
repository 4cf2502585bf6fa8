/- The walk of the statement HeadsChecks. -/
import Derived.Test.YtgajlpahhfenaaaDoorHeadHV
import Derived.Test.YtgajlpahhfenaaaDoorShort
import Derived.Test.YtgajlpahhfenaaaDoorAppR
import Derived.Outline
import Derived.Deep.RegionHeld3
set_option linter.unusedVariables false
namespace Go.Proofs.YtgajlpahhfenaaaDoor
open Go.RowKit

/-- Heads that came in, as a list. -/
theorem heads_of {W : World} (x : Addr) (n c : Nat) (hn : n ≤ c) (hc : c ≤ maxLen) (h : ∀ i, i < n → ∃ s v : ByteArray, W.cell? (x.add (i * 2)) = some (.string s) ∧ W.cell? (x.add (i * 2 + 1)) = some (.string v) ∧ s.size ≤ maxLen ∧ v.size ≤ maxLen) :
    ∃ L, Rd hdE W (some x) n L ∧ ∀ y ∈ L, y.name.size ≤ maxLen ∧ y.val.size ≤ maxLen := by
  have hn63 : n ≤ 9223372036854775807 := by simp only [maxLen] at hc; omega
  have key : ∀ k, k ≤ n → ∃ L : List Hd, L.length = k ∧ (∀ y ∈ L, y.name.size ≤ maxLen ∧ y.val.size ≤ maxLen) ∧ ∀ j y, L[j]? = some y → W.cell? (x.add (j * 2)) = some (.string y.name) ∧ W.cell? (x.add (j * 2 + 1)) = some (.string y.val) := by
    intro k
    induction k with
    | zero => intro _; exact ⟨[], rfl, by simp, by simp⟩
    | succ k ih =>
      intro hk
      obtain ⟨L, hl, hs, hcell⟩ := ih (by omega)
      obtain ⟨s, v, c0, c1, z0, z1⟩ := h k (by omega)
      refine ⟨L ++ [⟨s, v⟩], by simp [hl], fun y hy => ?_, fun j y hy => ?_⟩
      · rcases List.mem_append.1 hy with h1 | h1
        · exact hs y h1
        · simp at h1; subst h1; exact ⟨z0, z1⟩
      · by_cases hj : j < L.length
        · rw [List.getElem?_append_left hj] at hy; exact hcell j y hy
        · rw [List.getElem?_append_right (by omega)] at hy
          have hj2 := get_lt hy
          simp at hj2
          have : j = k := by omega
          subst this
          rw [show j - L.length = 0 from by omega] at hy
          simp at hy
          subst hy
          exact ⟨c0, c1⟩
  obtain ⟨L, hl, hs, hcell⟩ := key n (Nat.le_refl _)
  refine ⟨L, ⟨hl, hn63, fun j y hj => ?_⟩, hs⟩
  obtain ⟨c0, c1⟩ := hcell j y hj
  obtain ⟨b, off, spot⟩ := x
  have hspot : spot = none := by
    obtain ⟨z, hz⟩ := get_of_lt (l := L) (j := 0) (by have := get_lt hj; omega)
    have := World.cell?_spot (hcell 0 z hz).1
    simpa [Addr.add] using this
  subst hspot
  rw [Addr.add_lit] at c0 c1
  refine ⟨b, off, rfl, World.block_lt_of_cell? W ⟨b, off + j * 2, none⟩ c0, fun i u hu => ?_⟩
  have hi : i < 2 := by have := get_lt hu; exact this
  have hk : j * hdE.k = j * 2 := rfl
  rw [hk]
  have hcs : i = 0 ∨ i = 1 := by omega
  rcases hcs with rfl | rfl
  · have : u = .string y.name := by simpa [hdE, hdL] using hu.symm
    rw [this]; exact c0
  · have : u = .string y.val := by simpa [hdE, hdL] using hu.symm
    rw [this]; exact c1
theorem keep_low {α : Type} {E : Enc α} {w w' : World} {base H : Nat} {T : TypeId} {v v' : Value} {l : List α} (h : Own E w base T v l) (hlow : ∀ k, v.ownBlock = some k → k < H) (f : Frm (fun i => some i = v'.ownBlock) w w') (hv : ∀ k, v'.ownBlock = some k → H ≤ k) : Own E w' base T v l :=
  h.frm f (fun b hb e => by have h1 := hlow b hb; have h2 := hv b e.symm; omega)
theorem own_check (v : Value) (l : List Hd) (base : Nat) (w : World) (h : Own hdE w base 25 v l) (hs : ∀ x ∈ l, x.name.size ≤ 1000000 ∧ x.val.size ≤ 1000000) : Calls Tryd.prog 15 #[v] w fun e w' => e = .returned (.int .i64 (checkE l)) ∧ Frm noB w w' := by
  obtain ⟨a, c, rfl, hr⟩ := h.rd
  obtain ⟨h1, h2, _⟩ := h.cap
  exact check_any a _ c l w hr h1 h2 hs
theorem own_rcheck (v : Value) (l : List Hd) (base : Nat) (w : World) (h : Own hdE w base 25 v l) (hs : ∀ x ∈ l, x.name.size ≤ 1000000 ∧ x.val.size ≤ 1000000) : Calls Tryd.prog 16 #[v] w fun e w' => e = .returned (.int .i64 (checkE l)) ∧ Frm noB w w' := by
  obtain ⟨a, c, rfl, hr⟩ := h.rd
  obtain ⟨h1, h2, _⟩ := h.cap
  exact ref_check a _ c l w hr h1 h2 hs
theorem hbox2_lt {w : World} {b : Nat} {cs : Array Value} {T : TypeId} (h : Blk w b cs T) : b < w.heap.size := h.lt
theorem step_app_hd (w : World) {ops : Array Oper} {o : Oper} {a : Act} {K : Act → World → Prop} {Q : Exit → Act → World → Prop} {X : Prop} (hgd : o.guard = none) (s x : Operand)
    (ho : o.op = .call { callee := .builtin .append, args := #[s, x], argTypes := #[22, 22] }) (base : Nat)
    (v : Value) (l : List Hd) (hs : a.eval s = v) (hown : Own hdE w base 25 v l) (el : Hd) (B : Nat) (hx : a.eval x = .slice (some ⟨B, 0, none⟩) 1 1) (cs : Array Value) (hB : Blk w B cs 25) (hcs : cs.toList = hdL el)
    (hsm : l.length ≤ 1000000) (hbase : base ≤ w.heap.size)
    (h : ∀ v' w', Own hdE w' base 25 v' (l ++ [el]) → Frm (fun i => some i = v.ownBlock) w w' → (v'.ownBlock = v.ownBlock ∨ v'.ownBlock = some w.heap.size) → v' ≠ .slice none 0 0 → K (a.put o.dst v') w') :
    if Region.wanted o (yielded ops a.tmps) = true then Oper.wp Tryd.prog o a w K Q else X := by
  have hw : Region.wanted o (yielded ops a.tmps) = true := by simp [Region.wanted, hgd]
  rw [if_pos hw]
  obtain ⟨i, hi, hz, h1, h2⟩ := info_parts info_hd
  exact wp_app1g hdE w s x 22 ho base 25 i _ 32 Tryd.underlying22 hi hz h1 h2 rfl (by decide) (by omega) v l hs hown el B hx cs hB hcs hsm hbase h
theorem run_sl_fromH (a : Option Addr) (n c k : Nat) (hk : k ≤ n) (hn : n ≤ c) (w : World) :
    (Instr.slice 22 (.slice a n c) (some (.int .i64 (k : Int))) none none).run Tryd.prog w = .ok (.slice (if c = k then a else a.map (·.add (k * 2))) (n - k) (c - k)) w := by
  have h1 : (0 : Int) ≤ (k : Int) ∧ (k : Int) ≤ (n : Int) := by omega
  simp [Instr.slice, Instr.sliceBounds, Instr.sliceBound, asIntOf, run_underlying Tryd.underlying22, h1, hk, Tryd.sizeOf25]
theorem Rd.fromH {w : World} {a : Option Addr} {n c k : Nat} {l : List Hd} (h : Rd hdE w a n l) (hk : k ≤ n) (hn : n ≤ c) : Rd hdE w (if c = k then a else a.map (·.add (k * 2))) (n - k) (l.drop k) := by
  refine ⟨by rw [List.length_drop, h.1], by have := h.2.1; omega, fun j x hj => ?_⟩
  rw [List.getElem?_drop] at hj
  have hlt := get_lt hj
  rw [h.1] at hlt
  obtain ⟨b, off, rfl, hb, hc⟩ := h.2.2 (k + j) x hj
  rw [if_neg (by omega)]
  refine ⟨b, off + k * 2, by simp only [Option.map_some, Addr.add_lit], hb, fun i u hu => ?_⟩
  have := hc i u hu
  rwa [show off + k * 2 + (j * hdE.k + i) = off + ((k + j) * hdE.k + i) from by show off + k * 2 + (j * 2 + i) = off + ((k + j) * 2 + i); omega]
theorem slice_fromH (a : Option Addr) (n c k : Nat) (hk : k ≤ n) (hn : n ≤ c) (hsp : ∀ x, a = some x → x.spot = none) : ∃ a', (∀ w, (Instr.slice 22 (.slice a n c) (some (.int .i64 (k : Int))) none none).run Tryd.prog w = .ok (.slice a' (n - k) (c - k)) w) ∧
    (∀ w l, Rd hdE w a n l → Rd hdE w a' (n - k) (l.drop k)) ∧ ∀ x, a' = some x → x.spot = none :=
  ⟨_, fun w => run_sl_fromH a n c k hk hn w, fun w l h => h.fromH hk hn, fun x hx => by
    split at hx
    · exact hsp x hx
    · rw [Option.map_eq_some_iff] at hx
      obtain ⟨y, hy, rfl⟩ := hx
      have := hsp y hy
      obtain ⟨b, o, sp⟩ := y
      subst this
      rw [Addr.add_lit]⟩
set_option maxRecDepth 100000 in
set_option maxHeartbeats 4000000 in
theorem headsChecks_walk (a0 : Option Addr) (len0 cap0 : Nat) (L0 : List Hd) (a1 : Option Addr) (len1 cap1 : Nat) (z1 : List Int) (nm vl : ByteArray) (a3 : Int) (w : World) (w0 : Rd hdE w a0 len0 L0) (hs0 : ∀ x ∈ L0, x.name.size ≤ maxLen ∧ x.val.size ≤ maxLen) (w1 : IsRow .i64 w a1 len1 cap1 z1) (w2 : nm.size ≤ maxLen ∧ vl.size ≤ maxLen) (w3 : (Lit.int .i64 a3).wf = true) :
    Calls Tryd.prog 3 #[.slice a0 len0 cap0, .slice a1 len1 cap1, .agg #[.string nm, .string vl], .int .i64 a3] w fun e w' => e = .returned (.bool true) ∧ Below w.heap.size w w' := by
  obtain ⟨xs, h1⟩ := w1.list
  have b3 := wf_i64 w3
  have hn0 := w0.1
  have hn63 := w0.2.1
  have hbox := Blk.made w #[.string nm, .string vl] 25
  have fa := (Frm.refl noB w).alloc (.cells #[.string nm, .string vl] 25)
  have hr0 := w0.keep fa
  have h1' := h1.keep fa
  have hsn := fun w => short_any nm 70 w w2.1 (by omega)
  have hsv := fun w => short_any vl 70 w w2.2 (by omega)
  have hs1 : (bs (nm.data.toList.take 70)).size ≤ 70 := by rw [bs_size]; exact List.length_take_le _ _
  have hs2 : (bs (vl.data.toList.take 70)).size ≤ 70 := by rw [bs_size]; exact List.length_take_le _ _
  rw [show (⟨(nm.data.toList.take 70).toArray⟩ : ByteArray) = bs (nm.data.toList.take 70) from rfl] at hsn
  rw [show (⟨(vl.data.toList.take 70).toArray⟩ : ByteArray) = bs (vl.data.toList.take 70) from rfl] at hsv
  rw [show ((70 : Nat) : Int) = 70 from rfl] at hsn hsv
  generalize bs (nm.data.toList.take 70) = sn at *
  generalize bs (vl.data.toList.take 70) = sv at *
  have Hbox := Lib.hid hbox
  have Hr0 := Lib.hid hr0
  have H1' := Lib.hid h1'
  have Hsn := Lib.hid hsn
  have Hsv := Lib.hid hsv
  have Hs1 := Lib.hid hs1
  have Hs2 := Lib.hid hs2
  have Hb3 := Lib.hid b3
  have Hfa := Lib.hid fa
  have Hn0 := Lib.hid hn0
  have Hs0 := Lib.hid hs0
  clear hbox hr0 h1' hsn hsv hs1 hs2 b3 fa hn0 hs0
  clear w0 w1 w2 w3 h1
  go_enter Tryd.func3, Tryd.ntmps3
  go_upto_region 1 with fail
  generalize w.alloc (.cells #[.string nm, .string vl] 25) = W at *
  go_wp2_with fail
  go_loopw [9, 10] (fun o i wr => ∃ (k : Nat) (l : List Hd), k ≤ len0 ∧ k ≤ 10 ∧ i = .int .i64 k ∧ Own hdE wr W.heap.size 25 o l ∧ l.length = k ∧ (∀ x ∈ l, x.name.size ≤ 70 ∧ x.val.size ≤ 70) ∧ Frm noB W wr) (fun _ i _ => len0 - (intOf i).toNat)
  case atStart => exact ⟨0, [], by omega, by omega, rfl, Own.nil _ _ _ _, rfl, by simp, Frm.refl _ _⟩
  case round =>
    obtain ⟨k, l, hk, hk10, rfl, ho, hll, hls, hf⟩ := hrel
    by_cases hgo : k < len0 ∧ k < 10
    · obtain ⟨hlt, hlt10⟩ := hgo
      obtain ⟨x, hx⟩ := get_of_lt (l := L0) (j := k) (by rw [Hn0.out]; exact hlt)
      obtain ⟨b, off, rfl, hb, c0', c1'⟩ := hd_rd Hr0.out hx
      have c0 := cell_frm hf (fun h => h) c0'
      have c1 := cell_frm hf (fun h => h) c1'
      clear c0' c1'
      have hnb : ¬ some b = u9.ownBlock := fun e => Nat.lt_irrefl _ (Nat.lt_of_lt_of_le hb (ho.lt b e.symm).1)
      obtain ⟨hz0, hz1⟩ := Hs0.out x (List.mem_of_getElem? hx)
      have hxn := fun w => short_any x.name 70 w hz0 (by omega)
      have hxv := fun w => short_any x.val 70 w hz1 (by omega)
      have ht1 : (bs (x.name.data.toList.take 70)).size ≤ 70 := by rw [bs_size]; exact List.length_take_le _ _
      have ht2 : (bs (x.val.data.toList.take 70)).size ≤ 70 := by rw [bs_size]; exact List.length_take_le _ _
      rw [show (⟨(x.name.data.toList.take 70).toArray⟩ : ByteArray) = bs (x.name.data.toList.take 70) from rfl] at hxn
      rw [show (⟨(x.val.data.toList.take 70).toArray⟩ : ByteArray) = bs (x.val.data.toList.take 70) from rfl] at hxv
      rw [show ((70 : Nat) : Int) = 70 from rfl] at hxn hxv
      generalize bs (x.name.data.toList.take 70) = tn at *
      generalize bs (x.val.data.toList.take 70) = tv at *
      have hll2 : l.length ≤ 1000000 := by omega
      have hwz := hf.size
      have hls2 : ∀ y ∈ l ++ [(⟨tn, tv⟩ : Hd)], y.name.size ≤ 70 ∧ y.val.size ≤ 70 := fun y hy => by
        rcases List.mem_append.1 hy with h1 | h1
        · exact hls y h1
        · simp at h1; subst h1; exact ⟨ht1, ht2⟩
      obtain ⟨w4, hw4⟩ : ∃ W, W = wr := ⟨_, rfl⟩
      subst hw4
      have i1 : (0 : Int) ≤ (k : Int) := by omega
      have i2 : (k : Int) < (len0 : Int) := by omega
      have Ho := Lib.hid ho
      have Hll := Lib.hid hll
      have Hls := Lib.hid hls
      have Hf := Lib.hid hf
      have Hx := Lib.hid hx
      have Hz0 := Lib.hid hz0
      have Hz1 := Lib.hid hz1
      have Hxn := Lib.hid hxn
      have Hxv := Lib.hid hxv
      have Ht1 := Lib.hid ht1
      have Ht2 := Lib.hid ht2
      have Hll2 := Lib.hid hll2
      have Hwz := Lib.hid hwz
      have Hls2 := Lib.hid hls2
      clear ho hll hls hf hx hz0 hz1 hxn hxv ht1 ht2 hll2 hwz hls2
      go_upto_region 5 with fail
      have ho1 := Ho.out
      have hwz1 := Hwz.out
      clear Ho Hwz
      go_region_held3 (fun X => X.cell? ⟨b, off + k * 2, none⟩ = some (.string x.name) ∧ X.cell? ⟨b, off + k * 2 + 1, none⟩ = some (.string x.val))
        (first | exact ⟨c0, c1⟩ | exact ⟨cell_frm (((Frm.refl noB w4).drew).alloc _) (fun h => h) c0, cell_frm (((Frm.refl noB w4).drew).alloc _) (fun h => h) c1⟩ | exact ⟨cell_frm (((Frm.refl noB w4).alloc _).drew) (fun h => h) c0, cell_frm (((Frm.refl noB w4).alloc _).drew) (fun h => h) c1⟩ | exact ⟨d0, d1⟩)
        (first
          | (go_at_call 12; (with_reducible refine (Hxn.out _).mono ?_); rintro e y1 ⟨rfl, rfl⟩)
          | (go_at_call 12; (with_reducible refine (Hxv.out _).mono ?_); rintro e y1 ⟨rfl, rfl⟩)
          | ((refine step_app_hd _ (by rfl) _ _ (by rfl) W.heap.size _ l (by rfl) (ho1.keep (((Frm.refl noB w4).drew).alloc _)) ⟨tn, tv⟩ w4.heap.size (by rfl) _ (Blk.made _ _ _) (by rfl) Hll2.out (Nat.le_trans hwz1 (by simp)) ?_); intro v' y2 ho2 hf2 _ _; have d0 := cell_frm hf2 hnb (cell_frm (((Frm.refl noB w4).drew).alloc _) (fun h => h) c0); have d1 := cell_frm hf2 hnb (cell_frm (((Frm.refl noB w4).drew).alloc _) (fun h => h) c1)))
      have hf3 := Hf.out.new (((Frm.refl noB w4).drew.alloc _).mono (T := fun i => some i = u9.ownBlock) (fun _ _ h => h.elim) |>.trans hf2) (fun i hi hh => Nat.lt_irrefl _ (Nat.lt_of_lt_of_le hi (ho1.lt i hh.symm).1))
      have Ho2 := Lib.hid ho2
      have Hf3 := Lib.hid hf3
      clear ho2 hf3
      clear hf2 d0 d1 c0 c1 ho1 hwz1
      go_wp2_with fail
      go_roundw
      case rel => exact ⟨k + 1, _, by omega, by omega, by go_num, Ho2.out, by have := Hll.out; simp; omega, Hls2.out, Hf3.out⟩
      case measure => simp [intOf]; omega
    · have hend : (k < len0 ∧ ¬ k < 10) ∨ ¬ k < len0 := by omega
      obtain ⟨w5, hw5⟩ : ∃ W, W = wr := ⟨_, rfl⟩
      subst hw5
      have h1b := H1'.out.keep hf
      have Ho := Lib.hid ho
      have Hll := Lib.hid hll
      have Hls := Lib.hid hls
      have Hf := Lib.hid hf
      have H1b := Lib.hid h1b
      clear ho hll hls hf h1b
      rcases hend with ⟨e1, e2⟩ | e1
      all_goals
        go_wp2_with fail
        refine (heads_any a1 len1 cap1 xs _ H1b.out).mono ?_
        rintro e x1 ⟨vg, rfl, hg, hf1⟩
        have hgg := GoodL.gen (xs.take 12)
        generalize genH (xs.take 12) = G at *
        obtain ⟨n, hn⟩ : ∃ n, n = G.length := ⟨_, rfl⟩
        have hn8 : n ≤ 8 := by have := hgg.len; omega
        obtain ⟨ga, gc, rfl, hgr⟩ := hg.rd
        obtain ⟨hc1, hc2, hgsp⟩ := hg.cap
        rw [← hn] at hgr hc1 hg ⊢
        obtain ⟨m, hm⟩ : ∃ m, m = n + 1 := ⟨_, rfl⟩
        have hmi : (n : Int) + 1 = (m : Int) := by omega
        have har := fun w => around_any a3 m w Hb3.out.1 Hb3.out.2 (by omega) (by omega)
        have hql := around_lt a3 m (by omega)
        generalize around a3 m = q at *
        have hqn : q ≤ n := by omega
        have hqi : (0 : Int) ≤ (q : Int) := by omega
        have hqc : (q : Int) ≤ (gc : Int) := by omega
        have hqc2 : q ≤ gc := by omega
        obtain ⟨a7, hsl, hrf, hsp7⟩ := slice_fromH ga n gc q hqn hc1 hgsp
        have hff := Hf.out.trans hf1
        have ho2 := Ho.out.keep hf1
        have hbox2 := (Hbox.out.frm hff (fun h => h))
        have htk := hgr.take hqn
        have hwz := hff.size
        obtain ⟨i, hi, hz, hz1, hz2⟩ := info_parts info_hd
        have hmm : ([] : List Hd).length + q ≤ 1000000 := by simp; omega
        clear hql
        have Hg := Lib.hid hg
        have Hgr := Lib.hid hgr
        have Hgg := Lib.hid hgg
        have Hn := Lib.hid hn
        have Har := Lib.hid har
        have Hff := Lib.hid hff
        have Ho2 := Lib.hid ho2
        have Hbox2 := Lib.hid hbox2
        have Htk := Lib.hid htk
        have Hwz := Lib.hid hwz
        have Hmm := Lib.hid hmm
        have Hgsp := Lib.hid hgsp
        have Hrf := Lib.hid hrf
        have Hsp7 := Lib.hid hsp7
        have Hf1 := Lib.hid hf1
        have Hc2 := Lib.hid hc2
        have Hm := Lib.hid hm
        clear hg hgr hgg hn har hff ho2 hbox2 htk hwz hmm hgsp hrf hsp7 hf1 hc2 hm
        go_wp2_with fail
        refine (Har.out _).mono ?_
        rintro e w' ⟨rfl, rfl⟩
        go_wp2_with (at_builtin; refine wpl_appR hdE _ (by rfl) _ _ _ (by rfl) x1.heap.size 25 i _ 32 Tryd.underlying22 hi hz hz1 hz2 rfl (by decide) (by omega) (.slice none 0 0) [] (by rfl) (Own.nil _ _ _ _) ga q gc (G.take q) (by rfl) Htk.out Hgsp.out Hmm.out (Nat.le_refl _) ?_)
        intro v1 x2 hp1 hg1 _
        have hg1 : Frm noB x1 x2 := hg1.mono (fun i _ hh => by simp [Value.ownBlock] at hh)
        have hbox3 := Hbox2.out.frm hg1 (fun h => h)
        have hff3 := Hff.out.trans hg1
        have ho3 := Ho2.out.keep hg1
        have hg3 := Hg.out.keep hg1
        have hgr3 := Hgr.out.keep hg1
        have b0 := (hbox3.cell 0).trans (show _ = some (Value.string nm) from rfl)
        have b1 := (hbox3.cell 1).trans (show _ = some (Value.string vl) from rfl)
        have hll3 : ([] ++ G.take q).length ≤ 1000000 := by simp; omega
        have hwz3 : x1.heap.size ≤ x2.heap.size := hg1.size
        have hnb3 : ¬ some w.heap.size = v1.ownBlock := fun e => by
          have h1 := (hp1.lt _ e.symm).1
          have h2 := hbox2_lt Hbox2.out
          omega
        have Hbox3 := Lib.hid hbox3
        have Hff3 := Lib.hid hff3
        have Ho3 := Lib.hid ho3
        have Hg3 := Lib.hid hg3
        have Hgr3 := Lib.hid hgr3
        have Hg1 := Lib.hid hg1
        clear hbox3 hff3 ho3 hg3 hgr3 hg1
        clear hi hz hz1 hz2
        go_upto_region 10 with fail
        go_region_held3 (fun X => X.cell? ⟨w.heap.size, 0, none⟩ = some (.string nm) ∧ X.cell? ⟨w.heap.size, 1, none⟩ = some (.string vl))
          (first | exact ⟨b0, b1⟩ | exact ⟨cell_frm (((Frm.refl noB x2).drew).alloc _) (fun h => h) b0, cell_frm (((Frm.refl noB x2).drew).alloc _) (fun h => h) b1⟩ | exact ⟨cell_frm (((Frm.refl noB x2).alloc _).drew) (fun h => h) b0, cell_frm (((Frm.refl noB x2).alloc _).drew) (fun h => h) b1⟩ | exact ⟨d0, d1⟩)
          (first
            | (go_at_call 12; (with_reducible refine (Hsn.out _).mono ?_); rintro e y1 ⟨rfl, rfl⟩)
            | (go_at_call 12; (with_reducible refine (Hsv.out _).mono ?_); rintro e y1 ⟨rfl, rfl⟩)
            | ((refine step_app_hd _ (by rfl) _ _ (by rfl) x1.heap.size _ ([] ++ G.take q) (by rfl) (hp1.keep (((Frm.refl noB x2).drew).alloc _)) ⟨sn, sv⟩ x2.heap.size (by rfl) _ (Blk.made _ _ _) (by rfl) hll3 (Nat.le_trans hwz3 (by simp)) ?_); intro v2 x3 hp2 hg2 _ _; have d0 := cell_frm hg2 hnb3 (cell_frm (((Frm.refl noB x2).drew).alloc _) (fun h => h) b0); have d1 := cell_frm hg2 hnb3 (cell_frm (((Frm.refl noB x2).drew).alloc _) (fun h => h) b1))
            | ((refine step_app_hd _ (by rfl) _ _ (by rfl) x1.heap.size _ ([] ++ G.take q) (by rfl) (hp1.keep (((Frm.refl noB x2).alloc _).drew)) ⟨sn, sv⟩ x2.heap.size (by rfl) _ (Blk.made _ _ _) (by rfl) hll3 (Nat.le_trans hwz3 (by simp)) ?_); intro v2 x3 hp2 hg2 _ _; have d0 := cell_frm hg2 hnb3 (cell_frm (((Frm.refl noB x2).alloc _).drew) (fun h => h) b0); have d1 := cell_frm hg2 hnb3 (cell_frm (((Frm.refl noB x2).alloc _).drew) (fun h => h) b1)))
        have hW1 := Hwz.out
        have hv1 : ∀ k, v1.ownBlock = some k → x1.heap.size ≤ k := fun k h => (hp1.lt k h).1
        have hv2 : ∀ k, v2.ownBlock = some k → x1.heap.size ≤ k := fun k h => (hp2.lt k h).1
        have hlg : ∀ k, (Value.slice ga n gc).ownBlock = some k → k < x1.heap.size := fun k h => (Hg.out.lt k h).2
        have hlo : ∀ k, u9.ownBlock = some k → k < x1.heap.size := fun k h => (Ho2.out.lt k h).2
        have fr2 : Frm (fun i => some i = v1.ownBlock) x2 x3 := by
          first
          | exact (((Frm.refl noB x2).drew.alloc _).mono (T := fun i => some i = v1.ownBlock) (fun _ _ h => h.elim)).trans hg2
          | exact ((((Frm.refl noB x2).alloc _).drew).mono (T := fun i => some i = v1.ownBlock) (fun _ _ h => h.elim)).trans hg2
        have hg4 := keep_low Hg3.out hlg fr2 hv1
        have ho4 := keep_low Ho3.out hlo fr2 hv1
        have hff4 := Hff3.out.new fr2 (fun i hi e => by have := hv1 i e.symm; omega)
        have hgr4 : Rd hdE x3 ga n G := hg4.rdS
        have hgr7 := Hrf.out _ _ hgr4
        obtain ⟨i, hi, hz, hz1, hz2⟩ := info_parts info_hd
        have hmm2 : (([] ++ G.take q) ++ [(⟨sn, sv⟩ : Hd)]).length + (n - q) ≤ 1000000 := by simp; omega
        have hx13 : x1.heap.size ≤ x3.heap.size := by have := (hg2.size); have h2 := hwz3; simp at this; omega
        have Hg4 := Lib.hid hg4
        have Ho4 := Lib.hid ho4
        have Hff4 := Lib.hid hff4
        have Hgr4 := Lib.hid hgr4
        have Hgr7 := Lib.hid hgr7
        have Hmm2 := Lib.hid hmm2
        have Hp2 := Lib.hid hp2
        have Hv1 := Lib.hid hv1
        have Hlg := Lib.hid hlg
        have Hlo := Lib.hid hlo
        have HW1 := Lib.hid hW1
        clear hg4 ho4 hff4 hgr4 hgr7 hmm2 hp2 hv1 hlg hlo hW1
        clear fr2 hg2 d0 d1 b0 b1 hnb3 hll3 hp1
        go_wp2_with (at_builtin; refine wpl_appR hdE _ (by rfl) _ _ _ (by rfl) x1.heap.size 25 i _ 32 Tryd.underlying22 hi hz hz1 hz2 rfl (by decide) (by omega) v2 (([] ++ G.take q) ++ [⟨sn, sv⟩]) (by rfl) Hp2.out a7 (n - q) (gc - q) (G.drop q) (by rfl) Hgr7.out Hsp7.out Hmm2.out hx13 ?_)
        intro v3 x4 hp3 hg5 _
        have hg6 := keep_low Hg4.out Hlg.out hg5 hv2
        have ho6 := keep_low Ho4.out Hlo.out hg5 hv2
        have hff6 := Hff4.out.new hg5 (fun i hi e => by have h1 := hv2 i e.symm; have h2 := HW1.out; omega)
        have hso : ∀ x ∈ G.take q ++ (⟨sn, sv⟩ : Hd) :: G.drop q, x.name.size ≤ 1000000 ∧ x.val.size ≤ 1000000 := fun x hx => by
          rcases List.mem_append.1 hx with h1 | h1
          · exact Hgg.out.sizes x (List.mem_of_mem_take h1)
          · rcases List.mem_cons.1 h1 with h2 | h2
            · subst h2; have := Hs1.out; have := Hs2.out; simp only; omega
            · exact Hgg.out.sizes x (List.mem_of_mem_drop h2)
        have hsl1 : ∀ x ∈ l, x.name.size ≤ 1000000 ∧ x.val.size ≤ 1000000 := fun x hx => by have := Hls.out x hx; omega
        generalize G.take q ++ (⟨sn, sv⟩ : Hd) :: G.drop q = O at *
        have hk1 := fun w h => own_check u9 l W.heap.size w h hsl1
        have hk2 := fun w h => own_rcheck u9 l W.heap.size w h hsl1
        have hk3 := fun w h => own_check v3 O x1.heap.size w h hso
        have hk4 := fun w h => own_rcheck v3 O x1.heap.size w h hso
        have hk5 := fun w h => own_check (.slice ga n gc) G w5.heap.size w h Hgg.out.sizes
        rw [Hgg.out.check] at hk5
        generalize checkE l = E1 at *
        generalize checkE O = E2 at *
        have t1 : (E1 == E1) = true := by simp
        have t2 : (E2 == E2) = true := by simp
        have Hg6 := Lib.hid hg6
        have Ho6 := Lib.hid ho6
        have Hff6 := Lib.hid hff6
        have Hp3 := Lib.hid hp3
        have Hk1 := Lib.hid hk1
        have Hk2 := Lib.hid hk2
        have Hk3 := Lib.hid hk3
        have Hk4 := Lib.hid hk4
        have Hk5 := Lib.hid hk5
        have Hso := Lib.hid hso
        have Hsl1 := Lib.hid hsl1
        clear hg6 ho6 hff6 hp3 hk1 hk2 hk3 hk4 hk5 hso hsl1
        clear hi hz hz1 hz2 hg5 hv2 hsl
        go_wp2_with fail
        refine (Hk1.out _ Ho6.out).mono ?_
        rintro e z1 ⟨rfl, hq1⟩
        have Hg6 := Lib.hid (Hg6.out.keep hq1)
        have Ho6 := Lib.hid (Ho6.out.keep hq1)
        have Hp3 := Lib.hid (Hp3.out.keep hq1)
        have Hff6 := Lib.hid (Hff6.out.trans hq1)
        clear hq1
        go_wp2_with fail
        refine (Hk2.out _ Ho6.out).mono ?_
        rintro e z2 ⟨rfl, hq2⟩
        have Hg6 := Lib.hid (Hg6.out.keep hq2)
        have Ho6 := Lib.hid (Ho6.out.keep hq2)
        have Hp3 := Lib.hid (Hp3.out.keep hq2)
        have Hff6 := Lib.hid (Hff6.out.trans hq2)
        clear hq2
        go_wp2_with fail
        refine (Hk3.out _ Hp3.out).mono ?_
        rintro e z3 ⟨rfl, hq3⟩
        have Hg6 := Lib.hid (Hg6.out.keep hq3)
        have Ho6 := Lib.hid (Ho6.out.keep hq3)
        have Hp3 := Lib.hid (Hp3.out.keep hq3)
        have Hff6 := Lib.hid (Hff6.out.trans hq3)
        clear hq3
        go_wp2_with fail
        refine (Hk4.out _ Hp3.out).mono ?_
        rintro e z4 ⟨rfl, hq4⟩
        have Hg6 := Lib.hid (Hg6.out.keep hq4)
        have Ho6 := Lib.hid (Ho6.out.keep hq4)
        have Hp3 := Lib.hid (Hp3.out.keep hq4)
        have Hff6 := Lib.hid (Hff6.out.trans hq4)
        clear hq4
        go_wp2_with fail
        refine (Hk5.out _ Hg6.out).mono ?_
        rintro e z5 ⟨rfl, hq5⟩
        have Hg6 := Lib.hid (Hg6.out.keep hq5)
        have Ho6 := Lib.hid (Ho6.out.keep hq5)
        have Hp3 := Lib.hid (Hp3.out.keep hq5)
        have Hff6 := Lib.hid (Hff6.out.trans hq5)
        clear hq5
        go_wp2_with fail
        refine (hlives_any _).mono ?_
        rintro e z6 ⟨rfl, hq6⟩
        have Hff7 := Lib.hid ((Hfa.out.trans Hff6.out).trans hq6)
        clear hq6
        go_wp2_with fail
        go_ret
        exact ⟨rfl, Hff7.out.below (Nat.le_refl _) (fun _ _ h => h)⟩
end Go.Proofs.YtgajlpahhfenaaaDoor
