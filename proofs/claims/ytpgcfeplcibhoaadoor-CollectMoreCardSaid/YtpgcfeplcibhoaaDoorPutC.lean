/- put of the reference, walked. -/
import Derived.Test.YtpgcfeplcibhoaaDoorColBase
import Derived.Test.YtpgcfeplcibhoaaDoorAppR
import Derived.Test.YtpgcfeplcibhoaaDoorOwnSet
import Derived.Test.YtpgcfeplcibhoaaDoorStoreNew
set_option linter.unusedVariables false
set_option linter.unusedSimpArgs false
namespace Go.Proofs.YtpgcfeplcibhoaaDoor
open Go.RowKit

theorem nod_cell {w : World} {base g n c : Nat} {T : TypeId} {l : List Nod} (h : Own nodE w base T (.slice (some ⟨g, 0, none⟩) n c) l) {j : Nat} {x : Nod} (hj : l[j]? = some x) : w.cell? ⟨g, j * 8, none⟩ = some (.string x.name) := by
  have := h.cell j 0 x _ hj rfl
  simpa [nodE] using this
theorem run_sl_fromN (a : Option Addr) (n c k : Nat) (hk : k ≤ n) (hn : n ≤ c) (w : World) :
    (Instr.slice 34 (.slice a n c) (some (.int .i64 (k : Int))) none none).run Tryd.prog w = .ok (.slice (if c = k then a else a.map (·.add (k * 8))) (n - k) (c - k)) w := by
  have h1 : (0 : Int) ≤ (k : Int) ∧ (k : Int) ≤ (n : Int) := by omega
  simp [Instr.slice, Instr.sliceBounds, Instr.sliceBound, asIntOf, run_underlying Tryd.underlying34, h1, hk, Tryd.sizeOf37]
theorem Rd.fromN {w : World} {a : Option Addr} {n c k : Nat} {l : List Nod} (h : Rd nodE w a n l) (hk : k ≤ n) (hn : n ≤ c) : Rd nodE w (if c = k then a else a.map (·.add (k * 8))) (n - k) (l.drop k) := by
  refine ⟨by rw [List.length_drop, h.1], by have := h.2.1; omega, fun j x hj => ?_⟩
  rw [List.getElem?_drop] at hj
  have hlt := get_lt hj
  rw [h.1] at hlt
  obtain ⟨b, off, rfl, hb, hc⟩ := h.2.2 (k + j) x hj
  rw [if_neg (by omega)]
  refine ⟨b, off + k * 8, by simp only [Option.map_some, Addr.add_lit], hb, fun i u hu => ?_⟩
  have := hc i u hu
  rwa [show off + k * 8 + (j * nodE.k + i) = off + ((k + j) * nodE.k + i) from by show off + k * 8 + (j * 8 + i) = off + ((k + j) * 8 + i); omega]
theorem slice_fromN (a : Option Addr) (n c k : Nat) (hk : k ≤ n) (hn : n ≤ c) (hsp : ∀ x, a = some x → x.spot = none) : ∃ a', (∀ w, (Instr.slice 34 (.slice a n c) (some (.int .i64 (k : Int))) none none).run Tryd.prog w = .ok (.slice a' (n - k) (c - k)) w) ∧
    (∀ w l, Rd nodE w a n l → Rd nodE w a' (n - k) (l.drop k)) ∧ (∀ x, a' = some x → x.spot = none) ∧ ∀ x, a' = some x → ∃ y, a = some y ∧ x.block = y.block :=
  ⟨_, fun w => run_sl_fromN a n c k hk hn w, fun w l h => h.fromN hk hn, fun x hx => by
    split at hx
    · exact hsp x hx
    · rw [Option.map_eq_some_iff] at hx
      obtain ⟨y, hy, rfl⟩ := hx
      have := hsp y hy
      obtain ⟨b, o, sp⟩ := y
      subst this
      rw [Addr.add_lit], fun x hx => by
    split at hx
    · exact ⟨x, hx, rfl⟩
    · rw [Option.map_eq_some_iff] at hx
      obtain ⟨y, hy, rfl⟩ := hx
      have := hsp y hy
      obtain ⟨b, o, sp⟩ := y
      subst this
      exact ⟨_, hy, by rw [Addr.add_lit]⟩⟩
theorem run_sl_toN (a : Option Addr) (n c k : Nat) (hk : k ≤ n) (hn : n ≤ c) (hsp : ∀ x, a = some x → x.spot = none) (w : World) :
    (Instr.slice 34 (.slice a n c) none (some (.int .i64 (k : Int))) none).run Tryd.prog w = .ok (.slice a k c) w := by
  have h1 : (0 : Int) ≤ (k : Int) ∧ (k : Int) ≤ (c : Int) := by omega
  have h2 : k ≤ c := by omega
  have h3 : a.map (fun x => x.add 0) = a := by
    cases a with
    | none => rfl
    | some x => have := hsp x rfl; obtain ⟨b, o, sp⟩ := x; subst this; rfl
  simp [Instr.slice, Instr.sliceBounds, Instr.sliceBound, asIntOf, run_underlying Tryd.underlying34, h1, h2, Tryd.sizeOf37, h3]
theorem app_rnod (w : World) {ops : Array Oper} {rest : List Oper} {o : Oper} {a : Act} {Q : Exit → Act → World → Prop} (hgd : o.guard = none) (s x : Operand)
    (ho : o.op = .call { callee := .builtin .append, args := #[s, x], argTypes := #[34, 34] }) (base : Nat)
    (v : Value) (l : List Nod) (hs : a.eval s = v) (hown : Own nodE w base 37 v l) (el : Nod) (cs : Array Value) (hcs : cs.toList = nodL el)
    (H : Nat) (hH : w.heap.size = H) (hx : a.eval x = .slice (some ⟨H, 0, none⟩) 1 1) (hsm : l.length ≤ 1000000) (hbase : base ≤ w.heap.size)
    (h : ∀ v' w', Own nodE w' base 37 v' (l ++ [el]) → Frm (fun i => some i = v.ownBlock) w w' → (v'.ownBlock = v.ownBlock ∨ ∃ g, v'.ownBlock = some g ∧ w.heap.size < g ∧ g < w'.heap.size) → wpList Tryd.prog ops Q rest (a.put o.dst v') w') : wpList Tryd.prog ops Q (o :: rest) a (w.alloc (.cells cs 37)) := by
  obtain ⟨i, hi, hz, h1, h2⟩ := info_parts info_rnod
  exact wpl_app1 nodE w hgd s x 34 ho base 37 i _ 80 Tryd.underlying34 hi hz h1 h2 rfl (by decide) (by omega) v l hs hown el cs hcs H hH hx hsm hbase (fun v' w' a1 a2 a3 a4 a5 => h v' w' a1 a3 a4)
theorem appR_rnod (w : World) {ops : Array Oper} {rest : List Oper} {o : Oper} {a : Act} {Q : Exit → Act → World → Prop} (hgd : o.guard = none) (s x : Operand)
    (ho : o.op = .call { callee := .builtin .append, args := #[s, x], argTypes := #[34, 34] }) (base : Nat)
    (v : Value) (l : List Nod) (hs : a.eval s = v) (hown : Own nodE w base 37 v l) (ad : Option Addr) (m c : Nat) (els : List Nod) (hx : a.eval x = .slice ad m c) (hr : Rd nodE w ad m els) (hsp : ∀ x, ad = some x → x.spot = none)
    (hm : l.length + m ≤ 1000000) (hbase : base ≤ w.heap.size)
    (h : ∀ v' w', Own nodE w' base 37 v' (l ++ els) → Frm (fun i => some i = v.ownBlock) w w' → (v'.ownBlock = v.ownBlock ∨ v'.ownBlock = some w.heap.size) → wpList Tryd.prog ops Q rest (a.put o.dst v') w') : wpList Tryd.prog ops Q (o :: rest) a w := by
  obtain ⟨i, hi, hz, h1, h2⟩ := info_parts info_rnod
  exact wpl_appR nodE w hgd s x 34 ho base 37 i _ 80 Tryd.underlying34 hi hz h1 h2 rfl (by decide) (by omega) v l hs hown ad m c els hx hr hsp hm hbase h
theorem info_rnz : (Tryd.prog.info? 37).map (·.size) = some 8 := by kernel_rfl
set_option maxRecDepth 100000 in
set_option maxHeartbeats 4000000 in
theorem put_any (w : World) (base : Nat) (v : Value) (l : List Nod) (x0 : ByteArray) (x1 : Bool) (x2 : ByteArray) (x3 x4 x5 : Int) (x6 : Bool) (x7 : Int) (h : Own nodE w base 37 v l) (hl : l.length ≤ 100000) (hb : base ≤ w.heap.size) :
    Calls Tryd.prog 36 #[v, .agg #[.string x0, .bool x1, .string x2, .int .i64 x3, .int .i64 x4, .int .i64 x5, .bool x6, .int .i64 x7]] w fun e w' => ∃ v', e = .returned v' ∧ Own nodE w' base 37 v' (putL l ⟨x0, x1, ⟨x2, x3, x4, x5, x6, x7⟩⟩) ∧ Frm noB w w' := by
  obtain ⟨x, hx⟩ : ∃ x : Nod, x = ⟨x0, x1, ⟨x2, x3, x4, x5, x6, x7⟩⟩ := ⟨_, rfl⟩
  have hxn : x.name = x0 := by rw [hx]
  rw [← hx]
  obtain ⟨n, hn⟩ : ∃ n, n = l.length := ⟨_, rfl⟩
  obtain ⟨a, c, hv, _, hpos⟩ := h.shape
  rw [← hn] at hv hpos hl
  subst hv
  obtain ⟨W1, hW1⟩ : ∃ Y, Y = w.alloc (.cells #[.string x0, .bool x1, .string x2, .int .i64 x3, .int .i64 x4, .int .i64 x5, .bool x6, .int .i64 x7] 37) := ⟨_, rfl⟩
  have hf0 : Frm noB w W1 := by rw [hW1]; exact (Frm.refl noB w).alloc _
  have hbx : Blk W1 w.heap.size #[.string x0, .bool x1, .string x2, .int .i64 x3, .int .i64 x4, .int .i64 x5, .bool x6, .int .i64 x7] 37 := by rw [hW1]; exact Blk.made w _ _
  have ho1 := h.frm hf0 (fun _ _ h => h)
  have hcap : n ≤ c ∧ ∀ x, a = some x → x.spot = none := by
    have := h.cap
    exact ⟨this.1, this.2.2⟩
  obtain ⟨hcap, hsp⟩ := hcap
  have Hx := Lib.hid hx
  have Hxn := Lib.hid hxn
  have Hn := Lib.hid hn
  have Hpos := Lib.hid hpos
  have Hl := Lib.hid hl
  have Hf0 := Lib.hid hf0
  have Hbx := Lib.hid hbx
  have Ho1 := Lib.hid ho1
  have Hb := Lib.hid hb
  have Hh := Lib.hid h
  have Hcap := Lib.hid hcap
  have Hsp := Lib.hid hsp
  clear hx hxn hn hpos hl hf0 hbx ho1 hb h hcap hsp
  go_enter Tryd.func36, Tryd.ntmps36
  go_wp2_with fail
  rw [← hW1]
  have HW1 := Lib.hid hW1
  clear hW1
  go_loopw [5] (fun i W => ∃ k : Nat, i = .int .i64 k ∧ k ≤ n ∧ (∀ q y, q < k → l[q]? = some y → cfN y x < 0) ∧ Frm noB W1 W) (fun i _ => n - (intOfV i).toNat)
  case atStart => exact ⟨0, rfl, Nat.zero_le _, by omega, Frm.refl _ _⟩
  case round =>
    obtain ⟨k, rfl, hk, hal, hf⟩ := hrel
    have hb0 := (Hbx.out.frm hf (fun h => h)).cell 0
    simp at hb0
    by_cases hlt : k < n
    · obtain ⟨y, hy⟩ : ∃ y, l[k]? = some y := ⟨_, List.getElem?_eq_getElem (by rw [← Hn.out]; exact hlt)⟩
      obtain ⟨g, rfl, _, hg⟩ := Hpos.out (by omega)
      have hc := nod_cell (Ho1.out.frm hf (fun _ _ h => h)) hy
      have hless := less_name y x
      rw [Hxn.out] at hless
      by_cases hcf : cfN y x < 0
      · rw [decide_eq_true hcf] at hless
        have hal2 : ∀ q z, q < k + 1 → l[q]? = some z → cfN z x < 0 := fun q z hq hz => by
          rcases Nat.lt_or_ge q k with h | h
          · exact hal q z h hz
          · obtain rfl : q = k := by omega
            rw [hy] at hz; cases hz; exact hcf
        have Hk := Lib.hid hk
        have Hal := Lib.hid hal
        have Hf := Lib.hid hf
        have Hy := Lib.hid hy
        have Hcf := Lib.hid hcf
        have Hal2 := Lib.hid hal2
        clear hk hal hf hy hcf hal2
        go_wp2_with fail
        go_quiet (fail)
        go_wp2_with fail
        have hwr : wrap64 ((k : Int) + 1) = ((k + 1 : Nat) : Int) := by have := Hl.out; unfold wrap64; omega
        rw [hwr]
        refine ⟨⟨k + 1, rfl, by omega, Hal2.out, Hf.out.drewN _⟩, ?_⟩
        show n - (Int.toNat ((k + 1 : Nat) : Int)) < n - (Int.toNat (k : Int))
        omega
      · rw [decide_eq_false hcf] at hless
        have hnl : ∀ z, l[k]? = some z → ¬ cfN z x < 0 := fun z hz => by rw [hy] at hz; cases hz; exact hcf
        have hpa := putL_at l x k (by rw [← Hn.out]; exact hk) hal hnl
        rw [hy] at hpa
        by_cases hq : y.name = x.name
        · have hpl : putL l x = l := hpa.trans (if_pos hq)
          have hbe := str_yes hq
          rw [Hxn.out] at hbe
          have Hk := Lib.hid hk
          have Hal := Lib.hid hal
          have Hf := Lib.hid hf
          have Hy := Lib.hid hy
          have Hcf := Lib.hid hcf
          have Hnl := Lib.hid hnl
          have Hpa := Lib.hid hpa
          have Hq := Lib.hid hq
          have Hpl := Lib.hid hpl
          clear hk hal hf hy hcf hnl hpa hq hpl
          go_wp2_with fail
          go_quiet (fail)
          have hb0' : ((wr.drewN nq)).cell? ⟨w.heap.size, 0, none⟩ = some (.string x0) := hb0
          have hc' : ((wr.drewN nq)).cell? ⟨g, k * 8, none⟩ = some (.string y.name) := hc
          have hfz : Frm noB W1 (wr.drewN nq) := Hf.out.drewN _
          generalize wr.drewN nq = wz at hb0' hc' hfz ⊢
          have Hfz := Lib.hid hfz
          clear hfz
          clear hb0 hc
          go_wp2_with fail
          go_quiet (fail)
          go_wp2_with fail
          go_ret
          refine ⟨_, rfl, ?_, (Hf0.out.trans Hfz.out).drewN _⟩
          rw [Hpl.out]; exact Ho1.out.frm (Hfz.out.drewN _) (fun _ _ h => h)
        · have hpl : putL l x = l.take k ++ [x] ++ l.drop k := hpa.trans (if_neg hq)
          have hbe := str_ne hq
          rw [Hxn.out] at hbe
          have Hk := Lib.hid hk
          have Hal := Lib.hid hal
          have Hf := Lib.hid hf
          have Hy := Lib.hid hy
          have Hcf := Lib.hid hcf
          have Hnl := Lib.hid hnl
          have Hpa := Lib.hid hpa
          have Hq := Lib.hid hq
          have Hpl := Lib.hid hpl
          clear hk hal hf hy hcf hnl hpa hq hpl
          go_wp2_with fail
          go_quiet (fail)
          have hb0' : ((wr.drewN nq)).cell? ⟨w.heap.size, 0, none⟩ = some (.string x0) := hb0
          have hc' : ((wr.drewN nq)).cell? ⟨g, k * 8, none⟩ = some (.string y.name) := hc
          have hfz : Frm noB W1 (wr.drewN nq) := Hf.out.drewN _
          generalize wr.drewN nq = wz at hb0' hc' hfz ⊢
          have Hfz := Lib.hid hfz
          clear hfz
          clear hb0 hc
          go_wp2_with fail
          go_quiet (fail)
          have hfz : Frm noB W1 (wz.drewN nq) := Hfz.out.drewN _
          generalize wz.drewN nq = wz at hfz ⊢
          have Hfz := Lib.hid hfz
          clear hfz
          have hs1 := run_sl_toN (some ⟨g, 0, none⟩) n c k Hk.out Hcap.out Hsp.out
          obtain ⟨a9, hs2, hrd9, hsp9, hbk9⟩ := slice_fromN (some ⟨g, 0, none⟩) n c k Hk.out Hcap.out Hsp.out
          have htk : Rd nodE wz (some ⟨g, 0, none⟩) k (l.take k) := (Ho1.out.frm Hfz.out (fun _ _ h => h)).rdS.take Hk.out
          have hkk : ([] : List Nod).length + k ≤ 1000000 := by have := Hl.out; have := Hk.out; simp; omega
          have hrest := hrd9 wz l (Ho1.out.frm Hfz.out (fun _ _ h => h)).rdS
          have hbz := (Hbx.out.frm Hfz.out (fun h => h))
          have hgw : g < wz.heap.size := (Ho1.out.frm Hfz.out (fun _ _ h => h)).lt g rfl |>.2
          have hbaw : base ≤ wz.heap.size := by have := Hf0.out.size; have := Hfz.out.size; have := Hb.out; omega
          obtain ⟨wy, hwy⟩ : ∃ Y, Y = wz := ⟨_, rfl⟩
          have Htk := Lib.hid htk
          have Hkk := Lib.hid hkk
          have Hrd9 := Lib.hid hrd9
          have Hsp9 := Lib.hid hsp9
          have Hbk9 := Lib.hid hbk9
          have Hrest := Lib.hid hrest
          have Hbz := Lib.hid hbz
          have Hbaw := Lib.hid hbaw
          have Hwy := Lib.hid hwy
          clear htk hkk hrd9 hsp9 hbk9 hrest hbz hbaw hwy
          go_wp2_with (first | (refine wpl_load_blk (by rfl) 37 _ (by rfl) _ (by rfl) _ _ (by exact Hb1.out) _ Tryd.underlying37 (by rfl) (by exact info_rnz) ?_) | (at_builtin; refine appR_rnod _ rfl _ _ (by rfl) base (.slice none 0 0) [] (by rfl) (Own.nil _ _ _ _) (some ⟨g, 0, none⟩) k c (l.take k) (by rfl) Htk.out Hsp.out Hkk.out Hbaw.out ?_; intro v1 w1 ho2 hf2 hvv; have hf3 : Frm noB wz w1 := hf2.mono (fun i _ e => by simp [Value.ownBlock] at e); have Hb1 := Lib.hid (Hbz.out.frm hf3 (fun h => h)); have Hr1 := Lib.hid (Hrest.out.frm hf3 (fun _ _ h => h)); have Hbw1 := Lib.hid (Nat.le_trans Hbaw.out hf3.size); have Hon2 := Lib.hid ho2; have Hf3 := Lib.hid hf3; have Hl2 := Lib.hid (show (l.take k).length ≤ 1000000 by rw [List.length_take]; have := Hl.out; have := Hk.out; omega); have Hvn := Lib.hid (show ∀ q, v1.ownBlock = some q → wz.heap.size ≤ q from fun q hq => by rcases hvv with e | e; (rw [e] at hq; simp [Value.ownBlock] at hq); (rw [e] at hq; cases hq; exact Nat.le_refl _)); clear ho2 hf2 hf3) | (at_builtin; refine app_rnod w1 rfl _ _ (by rfl) base v1 (l.take k) (by rfl) Hon2.out x _ (by rw [Hx.out]; rfl) w1.heap.size rfl (by rfl) Hl2.out Hbw1.out ?_; intro v2 w2 ho4 hf4 hb4; have Hr2 := Lib.hid (Hr1.out.frm hf4 (fun z hz e => by have h1 := Hvn.out z.block e.symm; have h2 := Hbk9.out z hz; obtain ⟨y9, hy9, he9⟩ := h2; cases hy9; have he8 : z.block = g := he9; omega)); have Hbw2 := Lib.hid (Nat.le_trans Hbw1.out hf4.size); have Hf5 := Lib.hid (Hf3.out.new hf4 (fun i hi e => by have := Hvn.out i e.symm; omega)); have Hb4 := Lib.hid hb4; have Ho4 := Lib.hid ho4; clear ho4 hf4 hb4) | (at_builtin; refine appR_rnod w2 rfl _ _ (by rfl) base v2 _ (by rfl) Ho4.out a9 (n - k) (c - k) (l.drop k) (by rfl) Hr2.out Hsp9.out (by simp only [List.length_append, List.length_take, List.nil_append, List.length_cons, List.length_nil]; have := Hl.out; have := Hk.out; omega) Hbw2.out ?_; intro v3 w3 ho6 hf6 _; have Ho6 := Lib.hid ho6; have Hf6 := Lib.hid hf6; clear ho6 hf6))
          go_ret
          refine ⟨_, rfl, ?_, ((Hf0.out.trans Hfz.out).trans Hf5.out).new Hf6.out (fun i hi e => ?_)⟩
          · rw [Hpl.out]; exact Ho6.out
          · have h1 := Hf0.out.size
            have h2 := Hfz.out.size
            have h3 := Hf3.out.size
            rcases Hb4.out with e2 | ⟨g2, e2, h4, _⟩
            · rw [e2] at e; have := Hvn.out i e.symm; omega
            · rw [e2] at e; cases e; omega
    · obtain rfl : k = n := by omega
      have hno : l[k]? = none := List.getElem?_eq_none (by rw [← Hn.out]; exact Nat.le_refl _)
      have hpa := putL_at l x k (by rw [← Hn.out]; exact Nat.le_refl _) hal (fun y hy => by rw [hno] at hy; cases hy)
      rw [hno] at hpa
      have hpl : putL l x = l.take k ++ [x] ++ l.drop k := hpa
      have Hk := Lib.hid hk
      have Hal := Lib.hid hal
      have Hf := Lib.hid hf
      have Hno := Lib.hid hno
      have Hpa := Lib.hid hpa
      have Hpl := Lib.hid hpl
      clear hk hal hf hno hpa hpl
      go_wp2_with fail
      go_quiet (fail)
      have hb0' : ((wr.drewN nq)).cell? ⟨w.heap.size, 0, none⟩ = some (.string x0) := hb0
      have hfz : Frm noB W1 (wr.drewN nq) := Hf.out.drewN _
      generalize wr.drewN nq = wz at hb0' hfz ⊢
      have Hfz := Lib.hid hfz
      clear hfz
      clear hb0
      go_wp2_with fail
      go_quiet (fail)
      have hfz : Frm noB W1 (wz.drewN nq) := Hfz.out.drewN _
      generalize wz.drewN nq = wz at hfz ⊢
      have Hfz := Lib.hid hfz
      clear hfz
      have hs1 := run_sl_toN a k c k Hk.out Hcap.out Hsp.out
      obtain ⟨a9, hs2, hrd9, hsp9, hbk9⟩ := slice_fromN a k c k Hk.out Hcap.out Hsp.out
      rw [Nat.sub_self] at hs2 hrd9
      have htk : Rd nodE wz a k (l.take k) := (Ho1.out.frm Hfz.out (fun _ _ h => h)).rdS.take Hk.out
      have hkk : ([] : List Nod).length + k ≤ 1000000 := by have := Hl.out; have := Hk.out; simp; omega
      have hrest := hrd9 wz l (Ho1.out.frm Hfz.out (fun _ _ h => h)).rdS
      have hbz := (Hbx.out.frm Hfz.out (fun h => h))
      have hgw : ∀ y, a = some y → y.block < wz.heap.size := fun y hy => ((Ho1.out.frm Hfz.out (fun _ _ h => h)).lt y.block (by rw [hy]; rfl)).2
      have hbaw : base ≤ wz.heap.size := by have := Hf0.out.size; have := Hfz.out.size; have := Hb.out; omega
      obtain ⟨wy, hwy⟩ : ∃ Y, Y = wz := ⟨_, rfl⟩
      have Htk := Lib.hid htk
      have Hkk := Lib.hid hkk
      have Hrd9 := Lib.hid hrd9
      have Hsp9 := Lib.hid hsp9
      have Hbk9 := Lib.hid hbk9
      have Hrest := Lib.hid hrest
      have Hbz := Lib.hid hbz
      have Hbaw := Lib.hid hbaw
      have Hwy := Lib.hid hwy
      clear htk hkk hrd9 hsp9 hbk9 hrest hbz hbaw hwy
      go_wp2_with (first | (refine wpl_load_blk (by rfl) 37 _ (by rfl) _ (by rfl) _ _ (by exact Hb1.out) _ Tryd.underlying37 (by rfl) (by exact info_rnz) ?_) | (at_builtin; refine appR_rnod _ rfl _ _ (by rfl) base (.slice none 0 0) [] (by rfl) (Own.nil _ _ _ _) a k c (l.take k) (by rfl) Htk.out Hsp.out Hkk.out Hbaw.out ?_; intro v1 w1 ho2 hf2 hvv; have hf3 : Frm noB wz w1 := hf2.mono (fun i _ e => by simp [Value.ownBlock] at e); have Hb1 := Lib.hid (Hbz.out.frm hf3 (fun h => h)); have Hr1 := Lib.hid (Hrest.out.frm hf3 (fun _ _ h => h)); have Hbw1 := Lib.hid (Nat.le_trans Hbaw.out hf3.size); have Hon2 := Lib.hid ho2; have Hf3 := Lib.hid hf3; have Hl2 := Lib.hid (show (l.take k).length ≤ 1000000 by rw [List.length_take]; have := Hl.out; have := Hk.out; omega); have Hvn := Lib.hid (show ∀ q, v1.ownBlock = some q → wz.heap.size ≤ q from fun q hq => by rcases hvv with e | e; (rw [e] at hq; simp [Value.ownBlock] at hq); (rw [e] at hq; cases hq; exact Nat.le_refl _)); clear ho2 hf2 hf3) | (at_builtin; refine app_rnod w1 rfl _ _ (by rfl) base v1 (l.take k) (by rfl) Hon2.out x _ (by rw [Hx.out]; rfl) w1.heap.size rfl (by rfl) Hl2.out Hbw1.out ?_; intro v2 w2 ho4 hf4 hb4; have Hr2 := Lib.hid (Hr1.out.frm hf4 (fun z hz e => by have h1 := Hvn.out z.block e.symm; have h2 := Hbk9.out z hz; obtain ⟨y9, hy9, he9⟩ := h2; have h7 := hgw y9 hy9; omega)); have Hbw2 := Lib.hid (Nat.le_trans Hbw1.out hf4.size); have Hf5 := Lib.hid (Hf3.out.new hf4 (fun i hi e => by have := Hvn.out i e.symm; omega)); have Hb4 := Lib.hid hb4; have Ho4 := Lib.hid ho4; clear ho4 hf4 hb4) | (at_builtin; refine appR_rnod w2 rfl _ _ (by rfl) base v2 _ (by rfl) Ho4.out a9 0 (c - k) (l.drop k) (by rfl) Hr2.out Hsp9.out (by simp only [List.length_append, List.length_take, List.nil_append, List.length_cons, List.length_nil]; have := Hl.out; have := Hk.out; omega) Hbw2.out ?_; intro v3 w3 ho6 hf6 _; have Ho6 := Lib.hid ho6; have Hf6 := Lib.hid hf6; clear ho6 hf6))
      go_ret
      refine ⟨_, rfl, ?_, ((Hf0.out.trans Hfz.out).trans Hf5.out).new Hf6.out (fun i hi e => ?_)⟩
      · rw [Hpl.out]; exact Ho6.out
      · have h1 := Hf0.out.size
        have h2 := Hfz.out.size
        have h3 := Hf3.out.size
        rcases Hb4.out with e2 | ⟨g2, e2, h4, _⟩
        · rw [e2] at e; have := Hvn.out i e.symm; omega
        · rw [e2] at e; cases e; omega
end Go.Proofs.YtpgcfeplcibhoaaDoor
