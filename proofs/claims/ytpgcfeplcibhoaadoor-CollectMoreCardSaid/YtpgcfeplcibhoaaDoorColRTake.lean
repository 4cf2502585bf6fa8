/- Take of the reference. -/
import Derived.Test.YtpgcfeplcibhoaaDoorColTake
import Derived.Test.YtpgcfeplcibhoaaDoorColRSpans
import Derived.Test.YtpgcfeplcibhoaaDoorAppR
import Derived.Test.YtpgcfeplcibhoaaDoorStrs
set_option linter.unusedVariables false
set_option linter.unusedSimpArgs false
namespace Go.Proofs.YtpgcfeplcibhoaaDoor
open Go.RowKit

theorem appR_spn (w : World) {ops : Array Oper} {rest : List Oper} {o : Oper} {a : Act} {Q : Exit → Act → World → Prop} (hgd : o.guard = none) (s x : Operand)
    (ho : o.op = .call { callee := .builtin .append, args := #[s, x], argTypes := #[25, 25] }) (base : Nat)
    (v : Value) (l : List Spn) (hs : a.eval s = v) (hown : Own spnE w base 30 v l) (ad : Option Addr) (m c : Nat) (els : List Spn) (hx : a.eval x = .slice ad m c) (hr : Rd spnE w ad m els) (hsp : ∀ x, ad = some x → x.spot = none)
    (hm : l.length + m ≤ 1000000) (hbase : base ≤ w.heap.size)
    (h : ∀ v' w', Own spnE w' base 30 v' (l ++ els) → Frm (fun i => some i = v.ownBlock) w w' → (v'.ownBlock = v.ownBlock ∨ v'.ownBlock = some w.heap.size) → wpList Tryd.prog ops Q rest (a.put o.dst v') w') : wpList Tryd.prog ops Q (o :: rest) a w := by
  obtain ⟨i, hi, hz, h1, h2⟩ := info_parts info_spn
  exact wpl_appR spnE w hgd s x 25 ho base 30 i _ 56 Tryd.underlying25 hi hz h1 h2 rfl (by decide) (by omega) v l hs hown ad m c els hx hr hsp hm hbase h
theorem fnd_snoc {L : List Spn} {k : Nat} {x : Spn} {l : List UInt8} (hk : L[k]? = some x) (hb : fndS (L.take k) l = none) : fndS (L.take (k + 1)) l = if nmB x = l then some x else none := by
  unfold fndS at *
  rw [List.take_add_one, hk, List.find?_append, hb]
  by_cases e : nmB x = l <;> simp [e]
theorem fnd_mono {L : List Spn} {k : Nat} {l : List UInt8} {y : Spn} (h : fndS (L.take k) l = some y) : fndS L l = some y := by
  unfold fndS at *
  rw [← List.take_append_drop k L, List.find?_append, h]; rfl
set_option maxRecDepth 100000 in
set_option maxHeartbeats 2000000 in
theorem rtake_any (base : Nat) (v : Value) (L : List Spn) (nm : ByteArray) (s1 s2 s3 s5 : Int) (s4 : Bool) (w : World) (h : Own spnE w base 30 v L) (hL : L.length ≤ 1000) (hb : base ≤ w.heap.size) :
    Calls Tryd.prog 12 #[v, .agg #[.string nm, .int .i64 s1, .int .i64 s2, .int .i64 s3, .bool s4, .int .i64 s5]] w fun e w' =>
      ∃ v', e = .returned (.tuple #[v', .bool (!isInB L ⟨nm, s1, s2, s3, s4, s5⟩)]) ∧ Own spnE w' base 30 v' (takeL L ⟨nm, s1, s2, s3, s4, s5⟩) ∧ Frm noB w w' ∧ (v'.ownBlock = v.ownBlock ∨ ∃ g, v'.ownBlock = some g ∧ w.heap.size ≤ g) := by
  obtain ⟨x, hx⟩ : ∃ x : Spn, x = ⟨nm, s1, s2, s3, s4, s5⟩ := ⟨_, rfl⟩
  have hxn : x.name = nm := by rw [hx]
  have hxb : nmB x = nm.data.toList := by rw [hx]; rfl
  rw [← hx]
  obtain ⟨n, hn⟩ : ∃ n, n = L.length := ⟨_, rfl⟩
  obtain ⟨a, c, hv, _, hg⟩ := h.shape
  rw [← hn] at hv hg hL
  subst hv
  have hcap := h.cap
  obtain ⟨hcn, _, hsp⟩ := hcap
  have hbx := Blk.made w #[.string nm, .int .i64 s1, .int .i64 s2, .int .i64 s3, .bool s4, .int .i64 s5] 30
  have hf0 : Frm noB w (w.alloc (.cells #[.string nm, .int .i64 s1, .int .i64 s2, .int .i64 s3, .bool s4, .int .i64 s5] 30)) := (Frm.refl noB w).alloc _
  have Hx := Lib.hid hx
  have Hxn := Lib.hid hxn
  have Hxb := Lib.hid hxb
  have Hn := Lib.hid hn
  have Hg := Lib.hid hg
  have Hbx := Lib.hid hbx
  have Hf0 := Lib.hid hf0
  have Hh := Lib.hid h
  have Hcn := Lib.hid hcn
  have Hsp := Lib.hid hsp
  clear hx hxn hxb hn hg hbx hf0 h hcn hsp
  go_enter Tryd.func12, Tryd.ntmps12
  go_wp2_with fail
  go_loopw [4, 5, 6] (fun r1 r2 i wr => ∃ k : Nat, k ≤ n ∧ r1 = .slice none 0 0 ∧ r2 = .bool false ∧ i = .int .i64 k ∧ fndS (L.take k) nm.data.toList = none ∧ Frm noB w wr ∧ Blk wr w.heap.size #[.string nm, .int .i64 s1, .int .i64 s2, .int .i64 s3, .bool s4, .int .i64 s5] 30) (fun _ _ i _ => n - (intOf i).toNat)
  case atStart => exact ⟨0, by omega, rfl, rfl, rfl, rfl, Hf0.out, Hbx.out⟩
  case round =>
    obtain ⟨k, hk, rfl, rfl, rfl, hno, hfr, hbr⟩ := hrel
    by_cases hlt : k < n
    · have x0 := hbr.cell 0
      have hlb := hbr.lt
      simp at x0
      obtain ⟨y, hy⟩ := get_of_lt (l := L) (j := k) (by rw [← Hn.out]; exact hlt)
      obtain ⟨g, rfl, hg1, hg2⟩ := Hg.out (by omega)
      obtain ⟨c0, _⟩ := spn_cells (Hh.out.keep hfr) hy
      have hit := fnd_snoc hy hno
      by_cases hq : y.name = nm
      · have hst : (y.name.toList == nm.toList) = true := str_yes hq
        rw [if_pos (by unfold nmB; rw [hq])] at hit
        have hi : isInB L x = true := by unfold isInB; rw [Hxb.out, fnd_mono hit]; rfl
        have ht : takeL L x = L := by unfold takeL; rw [if_pos hi]
        have Hno := Lib.hid hno
        have Hfr := Lib.hid hfr
        have Hbr := Lib.hid hbr
        have Hit := Lib.hid hit
        have Hi := Lib.hid hi
        have Ht := Lib.hid ht
        have Hq := Lib.hid hq
        have Hy := Lib.hid hy
        clear hno hfr hbr hit hi ht hq hy
        go_wp2_with fail
        go_quiet (fail)
        go_wp2_with fail
        go_ret2
        exact ⟨_, by rw [Hi.out]; rfl, by rw [Ht.out]; exact Hh.out.keep (Frm.drewN Hfr.out _), Frm.drewN Hfr.out _, .inl rfl⟩
      · have hst : (y.name.toList == nm.toList) = false := str_ne hq
        rw [if_neg (by unfold nmB; exact fun e => hq (ByteArray.ext (Array.toList_inj.1 e)))] at hit
        have Hno := Lib.hid hno
        have Hfr := Lib.hid hfr
        have Hbr := Lib.hid hbr
        have Hit := Lib.hid hit
        have Hq := Lib.hid hq
        have Hy := Lib.hid hy
        clear hno hfr hbr hit hq hy
        go_wp2_with fail
        go_quiet (fail)
        go_wp2_with fail
        go_roundw
        case rel => exact ⟨k + 1, by omega, rfl, rfl, by go_num, Hit.out, Frm.drewN Hfr.out _, Hbr.out.frm (Frm.drewN (Frm.refl noB _) _) (fun h => h)⟩
        case measure => simp [intOf]; omega
    · obtain rfl : k = n := by omega
      rw [List.take_of_length_le (by rw [← Hn.out]; exact Nat.le_refl _)] at hno
      have hi : isInB L x = false := by unfold isInB; rw [Hxb.out, hno]; rfl
      have ht : takeL L x = L ++ [x] := by unfold takeL; rw [hi, if_neg (by decide)]
      have hown : Own spnE wr base 30 (.slice a k c) L := Hh.out.keep hfr
      have hbw : base ≤ wr.heap.size := by have := hfr.size; omega
      have hkk : ([] : List Spn).length + k ≤ 1000000 := by simp; omega
      have hrd := hown.rdS
      have hl1 : L.length ≤ 1000000 := by rw [← Hn.out]; omega
      have Hno := Lib.hid hno
      have Hfr := Lib.hid hfr
      have Hbr := Lib.hid hbr
      have Hi := Lib.hid hi
      have Ht := Lib.hid ht
      have Hown := Lib.hid hown
      have Hbw := Lib.hid hbw
      have Hkk := Lib.hid hkk
      have Hrd := Lib.hid hrd
      have Hl1 := Lib.hid hl1
      clear hno hfr hbr hi ht hown hbw hkk hrd hl1
      go_wp2_with (first | (at_builtin; refine appR_spn wr rfl _ _ (by rfl) base (.slice none 0 0) [] (by rfl) (Own.nil _ _ _ _) a k c L (by rfl) Hrd.out Hsp.out Hkk.out Hbw.out ?_; intro v1 w1 ho1 hf1 hv1; have Ho1 := Lib.hid ho1; have Hv1 := Lib.hid (show ∀ q, v1.ownBlock = some q → w.heap.size ≤ q from fun q hq => by rcases hv1 with e | e; (rw [e] at hq; simp [Value.ownBlock] at hq); (rw [e] at hq; cases hq; exact Hfr.out.size)); have hf2 : Frm noB wr w1 := hf1.mono (fun i _ e => by simp [Value.ownBlock] at e); have Hf2 := Lib.hid (Hfr.out.trans hf2); have Hbr1 := Lib.hid (Hbr.out.frm hf2 (fun h => h)); have Hbw1 := Lib.hid (Nat.le_trans Hbw.out hf2.size); have Hz1 := Lib.hid (Nat.le_trans Hfr.out.size hf2.size); clear ho1 hf1 hf2) | (refine wpl_load_blk (by rfl) 30 _ (by rfl) _ (by rfl) _ _ (by exact Hbr1.out) _ Tryd.underlying30 (by rfl) (by exact info_sp6) ?_) | (at_builtin; refine app_spn w1 rfl _ _ (by rfl) base v1 L (by rfl) Ho1.out ⟨nm, s1, s2, s3, s4, s5⟩ _ (by rfl) w1.heap.size rfl (by rfl) Hl1.out Hbw1.out ?_; intro v2 w2 ho2 _ hf2 hv2 _; have Ho2 := Lib.hid ho2; have Hv2 := Lib.hid (show ∃ g, v2.ownBlock = some g ∧ w.heap.size ≤ g by rcases hv2 with e | ⟨g, e, h1, _⟩; (obtain ⟨aa, cc, hvv, _, hgg⟩ := ho2.shape; obtain ⟨g, rfl, _, _⟩ := hgg (by simp); exact ⟨g, by rw [hvv]; rfl, Hv1.out g (by rw [← e, hvv]; rfl)⟩); (exact ⟨g, e, by have := Hz1.out; omega⟩)); clear hv2; have Hf3 := Lib.hid (Hf2.out.new hf2 (fun i hi e => by have := Hv1.out i e.symm; omega)); clear ho2 hf2))
      go_ret2
      exact ⟨_, by rw [Hi.out]; rfl, by rw [Ht.out, Hx.out]; exact Ho2.out, Hf3.out, .inr Hv2.out⟩
end Go.Proofs.YtpgcfeplcibhoaaDoor
