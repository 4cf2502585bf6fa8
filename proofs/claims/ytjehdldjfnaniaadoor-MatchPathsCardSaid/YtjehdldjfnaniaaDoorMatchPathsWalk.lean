/- The walk of the statement MatchPaths. -/
import Derived.Test.YtjehdldjfnaniaaDoorMatchText
import Derived.Test.YtjehdldjfnaniaaDoorMatchLives
import Derived.Test.YtjehdldjfnaniaaDoorShort
import Derived.Test.YtjehdldjfnaniaaDoorStrs
import Derived.Test.YtjehdldjfnaniaaDoorAppR
import Derived.Test.YtjehdldjfnaniaaDoorOwnSet
import Derived.Test.YtjehdldjfnaniaaDoorShaped
import Derived.Outline
import Derived.Deep.RegionHeld3
set_option linter.unusedVariables false
set_option linter.unusedSimpArgs false
namespace Go.Proofs.YtjehdldjfnaniaaDoor
open Go.RowKit

/-- Heads that came in, as a list. -/
theorem heads_of {W : World} (x : Addr) (n c : Nat) (hn : n ≤ c) (hc : c ≤ maxLen) (h : ∀ i, i < n → ∃ s v : ByteArray, W.cell? (x.add (i * 2)) = some (.string s) ∧ W.cell? (x.add (i * 2 + 1)) = some (.string v) ∧ s.size ≤ maxLen ∧ v.size ≤ maxLen) :
    ∃ L, Rd hdE W (some x) n L ∧ ∀ y ∈ L, y.name.size ≤ maxLen ∧ y.val.size ≤ maxLen := by
  have hn63 : n ≤ 9223372036854775807 := by simp only [maxLen] at hc; omega
  have key : ∀ k, k ≤ n → ∃ L : List Hd, L.length = k ∧ (∀ y ∈ L, y.name.size ≤ maxLen ∧ y.val.size ≤ maxLen) ∧ ∀ j y, L[j]? = some y → W.cell? (x.add (j * 2)) = some (.string y.name) ∧ W.cell? (x.add (j * 2 + 1)) = some (.string y.val) := by
    intro k
    induction k with
    | zero => intro _; exact ⟨[], rfl, by simp, by simp⟩
    | succ k ih =>
      intro hk
      obtain ⟨L, hl, hs, hcell⟩ := ih (by omega)
      obtain ⟨s, v, c0, c1, z0, z1⟩ := h k (by omega)
      refine ⟨L ++ [⟨s, v⟩], by simp [hl], fun y hy => ?_, fun j y hy => ?_⟩
      · rcases List.mem_append.1 hy with h1 | h1
        · exact hs y h1
        · simp at h1; subst h1; exact ⟨z0, z1⟩
      · by_cases hj : j < L.length
        · rw [List.getElem?_append_left hj] at hy; exact hcell j y hy
        · rw [List.getElem?_append_right (by omega)] at hy
          have hj2 := get_lt hy
          simp at hj2
          have : j = k := by omega
          subst this
          rw [show j - L.length = 0 from by omega] at hy
          simp at hy
          subst hy
          exact ⟨c0, c1⟩
  obtain ⟨L, hl, hs, hcell⟩ := key n (Nat.le_refl _)
  refine ⟨L, ⟨hl, hn63, fun j y hj => ?_⟩, hs⟩
  obtain ⟨c0, c1⟩ := hcell j y hj
  obtain ⟨b, off, spot⟩ := x
  have hspot : spot = none := by
    obtain ⟨z, hz⟩ := get_of_lt (l := L) (j := 0) (by have := get_lt hj; omega)
    have := World.cell?_spot (hcell 0 z hz).1
    simpa [Addr.add] using this
  subst hspot
  rw [Addr.add_lit] at c0 c1
  refine ⟨b, off, rfl, World.block_lt_of_cell? W ⟨b, off + j * 2, none⟩ c0, fun i u hu => ?_⟩
  have hi : i < 2 := by have := get_lt hu; exact this
  have hk : j * hdE.k = j * 2 := rfl
  rw [hk]
  have hcs : i = 0 ∨ i = 1 := by omega
  rcases hcs with rfl | rfl
  · have : u = .string y.name := by simpa [hdE, hdL] using hu.symm
    rw [this]; exact c0
  · have : u = .string y.val := by simpa [hdE, hdL] using hu.symm
    rw [this]; exact c1

theorem BytesB.put {w : World} {b : Nat} {l : List UInt8} (h : BytesB w b l) {k : Nat} (hk : k < l.length) (c : UInt8) : BytesB (w.setCell ⟨b, k, none⟩ (.int .u8 (c.toNat : Int))) b (l.set k c) := by
  refine ⟨by have := h.lt; simpa [World.setCell] using this, fun j x hj => ?_, fun j hj => ?_⟩
  · by_cases e : j = k
    · subst e
      rw [List.getElem?_set_self hk] at hj
      simp at hj
      subst hj
      exact World.cell?_setCell_same _ _ _ (h.cell j _ (List.getElem?_eq_getElem hk))
    · rw [List.getElem?_set_ne (fun h => e h.symm)] at hj
      rw [World.cell?_setCell_other _ _ _ _ (by simp only [ne_eq, Addr.mk.injEq, true_and, and_true]; exact fun h => e h.symm)]
      exact h.cell j x hj
  · rw [World.frozen?_setCell]
    rw [List.length_set] at hj
    exact h.free j hj
theorem info_mt : (Tryd.prog.info? 25).map (·.size) = some 3 := by kernel_rfl
theorem run_append_zero (w : World) (base : Nat) (t ty e : TypeId) (i : TypeInfo) (size : Nat) (ht : Tryd.prog.underlying t = some (.slice e)) (hi : Tryd.prog.info? e = some i)
    (v : Value) (n : Nat) (xs : List Value) (hown : w.ownsRow base e size v n xs) (a : Option Addr) (c : Nat) : (Builtin.append_ #[t, t] ty #[v, .slice a 0 c]).run Tryd.prog w = .ok v w := by
  rcases hown.2 with ⟨rfl, rfl⟩ | ⟨g, cap, cur, rfl, _, _, hnc, _⟩
  · cases a <;> simp [Builtin.append_, run_underlying ht, sizeOf, typeInfo, hi, Builtin.lenOf, Builtin.firstCells, loadCells, loadCellsFrom]
  · cases a <;> simp [Builtin.append_, run_underlying ht, sizeOf, typeInfo, hi, Builtin.lenOf, Builtin.firstCells, hnc, storeCells, loadCells, loadCellsFrom]
theorem wpl_app_few (w : World) {ops : Array Oper} {rest : List Oper} {o : Oper} {a : Act} {Q : Exit → Act → World → Prop} (hgd : o.guard = none) (s x : Operand)
    (ho : o.op = .call { callee := .builtin .append, args := #[s, x], argTypes := #[23, 23] })
    (base : Nat) (v : Value) (l : List Hd) (hs : a.eval s = v) (hown : Own hdE w base 36 v l) (ad : Option Addr) (m c : Nat) (els : List Hd) (hx : a.eval x = .slice ad m c) (hr : Rd hdE w ad m els) (hsp : m = 0 ∨ ∀ x, ad = some x → x.spot = none)
    (hm : l.length + m ≤ 1000000) (hbase : base ≤ w.heap.size)
    (h : ∀ v' w', Own hdE w' base 36 v' (l ++ els) → Frm (fun i => some i = v.ownBlock) w w' → wpList Tryd.prog ops Q rest (a.put o.dst v') w') : wpList Tryd.prog ops Q (o :: rest) a w := by
  obtain ⟨i, hi, hz, hz1, hz2⟩ := info_parts info_hd
  rcases hsp with h0 | hsp
  · subst h0
    obtain rfl : els = [] := List.eq_nil_of_length_eq_zero hr.1
    have hrun := run_append_zero w base 23 o.type 36 i _ Tryd.underlying23 hi v l.length _ hown ad c
    refine wpList_plain hgd fun K hK => ?_
    have := h v w (by rw [List.append_nil]; exact hown) (Frm.refl _ _)
    unfold Oper.wp
    simp [execOp, ho, resolve, invoke, builtin, hs, hx, hrun, Result.andThen]
    exact hK _ _ this
  · exact wpl_appR hdE w hgd s x _ ho base _ i _ 32 Tryd.underlying23 hi hz hz1 hz2 rfl (by decide) (by omega) v l hs hown ad m c els hx hr hsp hm hbase (fun v' w' h1 h2 _ => h v' w' h1 h2)
set_option maxRecDepth 100000 in
set_option maxHeartbeats 4000000 in
theorem matchPaths_walk (a0 : ByteArray) (a1 a2 a3 : Int) (a4 : Option Addr) (len4 cap4 : Nat) (L0 : List Hd) (w : World) (w0 : a0.size ≤ maxLen) (w1 : (Lit.int .i64 a1).wf = true) (w2 : (Lit.int .i64 a2).wf = true) (w3 : (Lit.int .u8 a3).wf = true) (w4 : Rd hdE w a4 len4 L0) (wc : len4 ≤ cap4) (hmax : MaxL w) :
    Calls Tryd.prog 7 #[.string a0, .int .i64 a1, .int .i64 a2, .int .u8 a3, .slice a4 len4 cap4] w fun e w' => e = .returned (.bool true) ∧ Below w.heap.size w w' := by
  obtain ⟨p1, q1⟩ := wf_i64 w1
  obtain ⟨p2, q2⟩ := wf_i64 w2
  obtain ⟨c3, rfl⟩ := wf_u8 w3
  have wcl := wc
  have Hw0 := Lib.hid w0
  have Hw4 := Lib.hid w4
  have Hmax := Lib.hid hmax
  clear w0 w4 hmax
  go_enter Tryd.func7, Tryd.ntmps7
  go_wp2_with fail
  refine (text_any a1 _ p1 q1).mono ?_
  rintro e v1 ⟨s, rfl, hs, hf1⟩
  obtain ⟨cp, W2, hrun, hf2, hB2⟩ := conv_bytes v1 s
  obtain ⟨sn, hsn⟩ : ∃ n, n = s.size := ⟨_, rfl⟩
  rw [← hsn] at hrun hs
  have Hf1 := Lib.hid hf1
  have Hf2 := Lib.hid hf2
  have HB2 := Lib.hid hB2
  have Hsn := Lib.hid hsn
  clear hf1 hf2 hB2 hsn
  go_upto_if 21 with fail
  go_cut [11] (fun s11 wx => s11 = .slice (some ⟨v1.heap.size, 0, none⟩) sn cp ∧ ∃ l : List UInt8, l.length = sn ∧ BytesB wx v1.heap.size l ∧ Frm noB v1 wx)
  case first =>
    by_cases hz : sn = 0
    · have t0 : ¬ (0 : Int) < (sn : Int) := by omega
      have hl : s.data.toList.length = sn := by rw [ba_len, Hsn.out]
      have Hz := Lib.hid hz
      have Hl := Lib.hid hl
      clear hz hl
      go_wp2_with fail
      go_meet
      exact ⟨rfl, s.data.toList, Hl.out, HB2.out, Hf2.out⟩
    · have t0 : (0 : Int) < (sn : Int) := by omega
      have har := fun W => around_any a2 sn W p2 q2 (by omega) (by omega)
      have hkl := around_lt a2 sn (by omega)
      have hl : s.data.toList.length = sn := by rw [ba_len, Hsn.out]
      generalize around a2 sn = k at *
      have hk1 : k < sn := by omega
      obtain ⟨x, hx⟩ := get_of_lt (l := s.data.toList) (j := k) (by rw [hl]; exact hk1)
      have x0 := HB2.out.cell k x hx
      have x1 := HB2.out.free k (by rw [hl]; exact hk1)
      have x2 := HB2.out.lt
      have hput := HB2.out.put (k := k) (by rw [hl]; exact hk1) c3
      have i1 : (0 : Int) ≤ (k : Int) := by omega
      have i2 : (k : Int) < (sn : Int) := by omega
      have fnew := Hf2.out.setNew (p := ⟨v1.heap.size, k, none⟩) (Nat.le_refl _) (.int .u8 (c3.toNat : Int))
      have Hz := Lib.hid hz
      have Hl := Lib.hid hl
      have Har := Lib.hid har
      have Hx := Lib.hid hx
      have Hput := Lib.hid hput
      have Hfnew := Lib.hid fnew
      have Hkl := Lib.hid hkl
      clear hz hl har hx hput fnew hkl
      go_wp2_with fail
      refine (Har.out _).mono ?_
      rintro e v3 ⟨rfl, rfl⟩
      go_wp2_with fail
      go_meet
      exact ⟨rfl, _, by rw [List.length_set, Hl.out], Hput.out, Hfnew.out⟩
  case rest =>
    obtain ⟨rfl, l, hl, hB, hfx⟩ := hcut
    clear hrun
    obtain ⟨k, hk⟩ : ∃ k, k = min len4 10 := ⟨_, rfl⟩
    have hmin : min (len4 : Int) 10 = (k : Int) := by omega
    have hkn : k ≤ len4 := by omega
    have hk10 : k ≤ 10 := by omega
    have i1 : (0 : Int) ≤ (k : Int) := by omega
    have i2 : (k : Int) ≤ (cap4 : Int) := by omega
    have i3 : k ≤ cap4 := by omega
    have hFw := (Hf1.out.trans hfx)
    have hrd := (Hw4.out.keep hFw).take hkn
    have hsp : k = 0 ∨ ∀ x, a4 = some x → x.spot = none := by
      by_cases h0 : k = 0
      · exact .inl h0
      · refine .inr fun x hx => ?_
        obtain ⟨y, hy⟩ := get_of_lt (l := L0) (j := 0) (by rw [Hw4.out.1]; omega)
        obtain ⟨b, off, ha, _⟩ := Hw4.out.2.2 0 y hy
        rw [ha] at hx; cases hx; rfl
    have hmm : ([] : List Hd).length + k ≤ 1000000 := by simp; omega
    have hlit := own_lit hdE wc 36 [] #[] rfl 0 rfl wc.heap.size (Nat.le_refl _) (by omega)
    have hfa := (Frm.refl noB wc).alloc (.cells #[] 36)
    have hrd2 := hrd.keep hfa
    have Hl := Lib.hid hl
    have HB := Lib.hid hB
    have Hfx := Lib.hid hfx
    have Hk := Lib.hid hk
    have HFw := Lib.hid hFw
    have Hrd := Lib.hid hrd
    have Hsp := Lib.hid hsp
    have Hmm := Lib.hid hmm
    have Hlit := Lib.hid hlit
    have Hfa := Lib.hid hfa
    have Hrd2 := Lib.hid hrd2
    clear hl hB hfx hk hFw hrd hsp hmm hlit hfa hrd2
    go_wp2_with (at_builtin; refine wpl_app_few _ (by rfl) _ _ (by rfl) wc.heap.size _ [] (by rfl) Hlit.out a4 k _ (L0.take k) (by rfl) Hrd2.out Hsp.out Hmm.out (by simp) ?_)
    intro v5 w5 ho5 hf5
    have hf5b := Hfa.out.new hf5 (fun i hi e => by simp [Value.ownBlock] at e; omega)
    try rw [List.nil_append] at ho5
    obtain ⟨fa, fc, rfl, hfr⟩ := ho5.rd
    obtain ⟨hc1, hc2, _⟩ := ho5.cap
    obtain ⟨fn, hfn⟩ : ∃ n, n = (L0.take k).length := ⟨_, rfl⟩
    rw [← hfn] at hfr hc1
    rw [← hfn]
    have hb5 := HB.out.frm hf5b
    have hF5 := HFw.out.trans hf5b
    have Ho5 := Lib.hid ho5
    have Hf5 := Lib.hid hf5
    have Hf5b := Lib.hid hf5b
    have Hfr := Lib.hid hfr
    have Hc1 := Lib.hid hc1
    have Hc2 := Lib.hid hc2
    have Hfn := Lib.hid hfn
    have Hb5 := Lib.hid hb5
    have HF5 := Lib.hid hF5
    clear ho5 hf5 hf5b hfr hc1 hc2 hfn hb5 hF5
    go_upto_region 5 with fail
    have hsh : ∀ W, Calls Tryd.prog 20 #[.string a0, .int .i64 62] W fun e w' => e = .returned (.string (bs (a0.data.toList.take 62))) ∧ W = w' := fun W => short_any a0 62 W Hw0.out (by omega)
    have htx := fun W => text_any a1 W p1 q1
    have hcb : ∀ W, Frm noB w5 W → (convert 42 9 (.slice (some ⟨v1.heap.size, 0, none⟩) sn cp)).run Tryd.prog W = .ok (.string (bs l)) W := fun W hW => by
      have := conv_back (Hb5.out.frm hW) cp
      rwa [Hl.out] at this
    have hss : (bs (a0.data.toList.take 62)).size ≤ 100 := by rw [bs_size, List.length_take]; omega
    have hsl : (bs l).size ≤ 100 := by rw [bs_size, Hl.out]; exact hs
    have Hsh := Lib.hid hsh
    have Htx := Lib.hid htx
    have Hcb := Lib.hid hcb
    have Hss := Lib.hid hss
    have Hsl := Lib.hid hsl
    clear hsh htx hcb hss hsl
    go_cut [13] (fun s13 wx => ∃ B t1 t2 t3, s13 = .slice (some ⟨B, 0, none⟩) 3 3 ∧ Blk wx B #[.string t1, .string t2, .string t3] 9 ∧ t1.size ≤ 100 ∧ t2.size ≤ 100 ∧ t3.size ≤ 100 ∧ Frm noB w5 wx)
    case first =>
      go_region_held3 (fun W => (convert 42 9 (.slice (some ⟨v1.heap.size, 0, none⟩) sn cp)).run Tryd.prog W = .ok (.string (bs l)) W)
        (first | exact Hcb.out _ (Frm.refl noB w5).drew | exact Hcb.out _ hfA | exact Hcb.out _ (hfA.alloc _))
        (first
          | (go_at_call 20; (with_reducible refine (Hsh.out _).mono ?_); rintro e vr ⟨rfl, rfl⟩)
          | (go_at_call 18; (with_reducible refine (Htx.out _).mono ?_); rintro e vA ⟨sA, rfl, hsA, hfA⟩; replace hfA := ((Frm.refl noB w5).drew).trans hfA))
      all_goals
        go_wp2_with fail
        go_meet
        exact ⟨_, _, _, _, rfl, Blk.made _ _ _, Hss.out, hsA, Hsl.out, hfA.alloc _⟩
    case rest =>
      obtain ⟨B, t1, t2, t3, rfl, hB3, ht1, ht2, ht3, hfx⟩ := hcut
      have hF6 := HF5.out.trans hfx
      have hr6 := Hfr.out.keep hfx
      have hall : ∀ i, i < 3 → ∃ t : ByteArray, t.size ≤ 100 ∧ (#[.string t1, .string t2, .string t3] : Array Value)[i]? = some (.string t) := fun i hi => by
        have hc : i = 0 ∨ i = 1 ∨ i = 2 := by omega
        rcases hc with rfl | rfl | rfl
        · exact ⟨t1, ht1, rfl⟩
        · exact ⟨t2, ht2, rfl⟩
        · exact ⟨t3, ht3, rfl⟩
      obtain ⟨ex, hex⟩ : ∃ b, b = (a1.tmod 2 == 0) := ⟨_, rfl⟩
      have HB3 := Lib.hid hB3
      have Ht1 := Lib.hid ht1
      have Ht2 := Lib.hid ht2
      have Ht3 := Lib.hid ht3
      have Hfx := Lib.hid hfx
      have HF6 := Lib.hid hF6
      have Hr6 := Lib.hid hr6
      have Hall := Lib.hid hall
      clear hB3 ht1 ht2 ht3 hfx hF6 hr6 hall
      go_wp2_with fail
      go_loopw [14] (fun i wr => ∃ j : Nat, j ≤ 3 ∧ i = .int .i64 j ∧ Frm noB wc wr) (fun i _ => 3 - (intOf i).toNat)
      case atStart => exact ⟨0, by omega, rfl, Frm.refl _ _⟩
      case round =>
        obtain ⟨j, hj, rfl, hfr⟩ := hrel
        by_cases hlt : j < 3
        · obtain ⟨t, ht, hbt⟩ := Hall.out j hlt
          have hBr := HB3.out.frm hfr (fun h => h)
          have c0 := (hBr.cell j).trans hbt
          have cl := hBr.lt
          have j1 : (0 : Int) ≤ (j : Int) := by omega
          have j2 : (j : Int) < 3 := by omega
          have Hfr := Lib.hid hfr
          have HBr := Lib.hid hBr
          have Hbt := Lib.hid hbt
          have Hex := Lib.hid hex
          clear hfr hBr hbt hex
          go_wp2_with (first | (refine wpl_store_new _ (by rfl) 25 _ _ (by rfl) _ (by rfl) (by first | rfl | simp) _ _ _ (by rfl) (by exact info_mt) (by rfl) (by kernel_rfl) ?_; refine Hid.out ?_))
          rw [← Hex.out]
          generalize hvm : World.alloc wr _ = vm
          have hbm : Blk vm wr.heap.size #[.string t, .bool ex, .slice fa fn fc] 25 := by rw [← hvm]; exact Blk.made wr _ _
          have hfm : Frm noB wr vm := by rw [← hvm]; exact (Frm.refl noB wr).alloc _
          have hfm2 := Hfr.out.trans hfm
          have hBm := HBr.out.frm hfm (fun h => h)
          clear c0 cl hvm
          have d0 := (hBm.cell j).trans Hbt.out
          have dl := hBm.lt
          have e0 := (hbm.cell 0).trans (show _ = some (Value.string t) from rfl)
          have e1 := (hbm.cell 1).trans (show _ = some (Value.bool ex) from rfl)
          have e2 := (hbm.cell 2).trans (show _ = some (Value.slice fa fn fc) from rfl)
          have el := hbm.lt
          have hmx : ∀ W, Frm noB vm W → MaxL W := fun W hW => Hmax.out.keep ((HF6.out.trans hfm2).trans hW)
          have hrd : ∀ W, Frm noB vm W → Rd hdE W fa fn (L0.take k) := fun W hW => Hr6.out.keep (hfm2.trans hW)
          have hts : t.size ≤ 1000000 := by omega
          have hp1 := fun W hW => path_any t W hts (hmx W hW)
          have hp2 := fun W => rpath5_any t W hts
          have hk1 := fun W hW => mcheck_any t ex fa fn fc (L0.take k) W (hrd W hW) Hc1.out Hc2.out hts (hmx W hW)
          have hk2 := fun W hW => rcheck5_any t ex fa fn fc (L0.take k) W (hrd W hW) Hc1.out Hc2.out hts
          generalize isPathL t.data.toList = ip at *
          generalize chkM t.data.toList (L0.take k) = ck at *
          have b1 : (ip != ip) = false := by simp
          have b2 : (ck != ck) = false := by simp
          obtain ⟨hBk, hhB⟩ : ∃ q, q = wr.heap.size := ⟨_, rfl⟩
          rw [← hhB] at e0 e1 e2 el ⊢
          have hS : ∀ W, Frm noB vm W → W.cell? ⟨B, j, none⟩ = some (.string t) ∧ W.cell? ⟨hBk, 0, none⟩ = some (.string t) ∧ W.cell? ⟨hBk, 1, none⟩ = some (.bool ex) ∧ W.cell? ⟨hBk, 2, none⟩ = some (.slice fa fn fc) := fun W hW =>
            ⟨cell_frm hW (fun h => h) d0, cell_frm hW (fun h => h) e0, cell_frm hW (fun h => h) e1, cell_frm hW (fun h => h) e2⟩
          have Hbm := Lib.hid hbm
          have Hfm := Lib.hid hfm
          have Hfm2 := Lib.hid hfm2
          have HBm := Lib.hid hBm
          have Hmx := Lib.hid hmx
          have Hrd := Lib.hid hrd
          have Hp1 := Lib.hid hp1
          have Hp2 := Lib.hid hp2
          have Hk1 := Lib.hid hk1
          have Hk2 := Lib.hid hk2
          have HhB := Lib.hid hhB
          have HS := Lib.hid hS
          clear hbm hfm hfm2 hBm hmx hrd hp1 hp2 hk1 hk2 hhB hS
          refine Lib.hid ?_
          go_upto_region 10 with fail
          go_cut [73] (fun s73 wx => s73 = .bool false ∧ Frm noB vm wx)
          case first =>
            go_region_held3 (fun W => W.cell? ⟨B, j, none⟩ = some (.string t) ∧ W.cell? ⟨hBk, 0, none⟩ = some (.string t) ∧ W.cell? ⟨hBk, 1, none⟩ = some (.bool ex) ∧ W.cell? ⟨hBk, 2, none⟩ = some (.slice fa fn fc))
              (first | exact HS.out _ (Frm.refl noB vm).drew | exact HS.out _ g1 | exact HS.out _ g2 | exact HS.out _ g3 | exact HS.out _ g4)
              (first
                | (go_at_call 21; (with_reducible refine (Hp1.out _ (Frm.refl noB vm).drew).mono ?_); rintro e u1 ⟨rfl, g1⟩; replace g1 := ((Frm.refl noB vm).drew).trans g1)
                | (go_at_call 22; (with_reducible refine (Hp2.out _).mono ?_); rintro e u2 ⟨rfl, g2⟩; replace g2 := g1.trans g2)
                | (go_at_call 23; (with_reducible refine (Hk1.out _ g2).mono ?_); rintro e u3 ⟨rfl, g3⟩; replace g3 := g2.trans g3)
                | (go_at_call 24; (with_reducible refine (Hk2.out _ g3).mono ?_); rintro e u4 ⟨rfl, g4⟩; replace g4 := g3.trans g4))
            all_goals
              go_wp2_with fail
              go_meet
              exact ⟨rfl, g4⟩
          case rest =>
            obtain ⟨rfl, hg⟩ := hcut
            have Hg := Lib.hid (Hfm2.out.trans hg)
            clear hg d0 dl e0 e1 e2 el
            go_wp2_with fail
            go_roundw
            case rel => exact ⟨j + 1, by omega, by go_num, Hg.out⟩
            case measure => simp [intOf]; omega
        · obtain rfl : j = 3 := by omega
          have Hfr := Lib.hid hfr
          clear hfr
          go_wp2_with fail
          refine (mlives_any _ (Hmax.out.keep (HF6.out.trans Hfr.out))).mono ?_
          rintro e v9 ⟨rfl, hf9⟩
          have Hf9 := Lib.hid ((HF6.out.trans Hfr.out).trans hf9)
          clear hf9
          go_wp2_with fail
          go_ret
          exact ⟨rfl, Hf9.out.below (Nat.le_refl _) (fun _ _ h => h)⟩
end Go.Proofs.YtjehdldjfnaniaaDoor
