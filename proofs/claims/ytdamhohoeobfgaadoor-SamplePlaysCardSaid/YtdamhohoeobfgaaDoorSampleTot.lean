/- Plain: what was told and what is held are what came, request by request. -/
import Derived.Test.YtdamhohoeobfgaaDoorSamplePlain
import Derived.Test.YtdamhohoeobfgaaDoorAppR
import Derived.Test.YtdamhohoeobfgaaDoorOwnSet
set_option linter.unusedVariables false
namespace Go.Proofs.YtdamhohoeobfgaaDoor
open Go.RowKit

structure Tot (m : Nat) (T L A : List Spn) : Prop where
  of : ∀ r, ofL T r ++ ofL L r = ofL A r
  len : T.length + L.length = A.length
  okT : ∀ s ∈ T, SpanOk s
  okL : ∀ s ∈ L, SpanOk s
  okA : ∀ s ∈ A, SpanOk s
  most : (reqsL L).length ≤ m
theorem Tot.nil (m : Nat) : Tot m [] [] [] := ⟨fun _ => rfl, rfl, by simp, by simp, by simp, Nat.zero_le _⟩
theorem ofL_app (a b : List Spn) (r : Int) : ofL (a ++ b) r = ofL a r ++ ofL b r := by unfold ofL; rw [List.filter_append]
theorem ofL_ofL (L : List Spn) (g r : Int) : ofL (ofL L g) r = if r = g then ofL L g else [] := by
  unfold ofL
  rw [List.filter_filter]
  by_cases h : r = g
  · subst h; simp
  · rw [if_neg h, List.filter_eq_nil_iff]
    intro s _ hs
    simp only [Bool.and_eq_true, beq_iff_eq] at hs
    exact h (hs.1.symm.trans hs.2)
theorem split_len (L : List Spn) (g : Int) : (ofL L g).length + (othersL L g).length = L.length := by
  unfold ofL othersL
  induction L with
  | nil => rfl
  | cons a L ih =>
    rw [List.filter_cons, List.filter_cons]
    by_cases h : rq a = g
    · simp [h]; omega
    · simp [h]; omega
section
variable {m : Nat} {T L A : List Spn}
theorem Tot.drop (h : Tot m T L A) (g : Int) : Tot m (T ++ ofL L g) (othersL L g) A := by
  refine ⟨fun r => ?_, ?_, ?_, fun s hs => h.okL s (List.mem_filter.1 hs).1, h.okA, ?_⟩
  · rw [ofL_app, ofL_ofL, ← h.of r]
    by_cases hr : r = g
    · subst hr; rw [if_pos rfl, ofL_others_same, List.append_nil]
    · rw [if_neg hr, List.append_nil, ofL_others L g r hr]
  · have := split_len L g; have := h.len; rw [List.length_append]; omega
  · intro s hs
    rcases List.mem_append.1 hs with h1 | h1
    · exact h.okT s h1
    · exact h.okL s (List.mem_filter.1 h1).1
  · rw [reqsL_others]; exact Nat.le_trans (List.length_filter_le _ _) h.most
theorem Tot.more (h : Tot m T L A) {x : Spn} (hx : SpanOk x) (hm : rq x ∈ reqsL L ∨ (reqsL L).length < m) : Tot m T (L ++ [x]) (A ++ [x]) := by
  refine ⟨fun r => ?_, ?_, h.okT, ok_app h.okL hx, ok_app h.okA hx, ?_⟩
  · rw [ofL_app, ofL_app, ← List.append_assoc, h.of r]
  · have := h.len; rw [List.length_append, List.length_append]; omega
  · rw [reqsL_snoc]
    split
    · exact h.most
    · rename_i hn
      rw [List.length_append]
      rcases hm with h1 | h1
      · exact absurd h1 hn
      · simp only [List.length_cons, List.length_nil]; omega
theorem Tot.add (h : Tot m T L A) (h1 : 1 ≤ m) {x : Spn} (hx : SpanOk x) : Tot m (T ++ goneL m L x) (addL m L x) (A ++ [x]) := by
  unfold goneL addL
  cases hf : fullB m L x with
  | false =>
    rw [if_neg (by decide), if_neg (by decide), List.append_nil]
    refine h.more hx ?_
    unfold fullB at hf
    by_cases hm : rq x ∈ reqsL L
    · exact .inl hm
    · right
      have : (reqsL L).contains (rq x) = false := by rw [← Bool.not_eq_true, List.contains_iff_mem]; exact hm
      rw [this] at hf
      simp at hf
      exact hf
  | true =>
    rw [if_pos rfl, if_pos rfl]
    refine (h.drop _).more hx (.inr ?_)
    rw [reqsL_others]
    unfold fullB at hf
    simp only [Bool.and_eq_true, decide_eq_true_eq] at hf
    have hle := h.most
    cases hr : reqsL L with
    | nil => rw [hr] at hf; simp at hf; omega
    | cons a l =>
      rw [hr] at hle
      simp only [List.headD_cons, List.filter_cons, beq_self_eq_true, Bool.not_true, Bool.false_eq_true, if_false]
      have := List.length_filter_le (fun q => !(q == a)) l
      simp only [List.length_cons] at hle
      omega
theorem add_some (m : Nat) (L : List Spn) (x : Spn) : 1 ≤ (reqsL (addL m L x)).length := by
  have : rq x ∈ reqsL (addL m L x) := by
    rw [mem_reqsL]
    refine ⟨x, ?_, rfl⟩
    unfold addL
    split <;> simp
  exact List.length_pos_of_mem this
theorem over_all (well : Bool) (p : Int) (L : List Spn) (r : Int) : overL well 10 10 p L r = ofL L r := by
  have : keepB well 10 10 r p = true := by unfold keepB; simp
  unfold overL; rw [this, if_pos rfl]
/-- Behind the requests up to k. -/
theorem others_above {L : List Spn} {k : Nat} (h : ∀ s ∈ L, (k : Int) < rq s) : ∀ s ∈ othersL L ((k + 1 : Nat) : Int), ((k + 1 : Nat) : Int) < rq s := by
  intro s hs
  have h1 := List.mem_filter.1 hs
  have h2 := h s h1.1
  have h3 : ¬ rq s = ((k + 1 : Nat) : Int) := by simpa using h1.2
  omega
theorem none_above {L : List Spn} (ho : ∀ s ∈ L, SpanOk s) (h : ∀ s ∈ L, ((6 : Nat) : Int) < rq s) : L = [] := by
  cases L with
  | nil => rfl
  | cons a l => have h1 := (ho a (by simp)).hi; have h2 := h a (by simp); omega
theorem Tot.done (h : Tot m T [] A) (r : Int) : ofL T r = ofL A r := by
  have := h.of r
  rw [← this]; simp [ofL]
end
def atFrm (x : Spn) (i : Int) : Spn := ⟨x.name, x.serv, i, x.til, x.well, x.kids⟩
theorem atFrm_ok {x : Spn} (h : SpanOk x) (i : Int) : SpanOk (atFrm x i) := by
  obtain ⟨r, h1, h2⟩ := h.nm
  exact ⟨⟨r, h1, h2⟩, h.sz, h.lo, h.hi⟩
theorem app_row (w : World) {ops : Array Oper} {rest : List Oper} {o : Oper} {a : Act} {Q : Exit → Act → World → Prop} (hgd : o.guard = none) (s x : Operand)
    (ho : o.op = .call { callee := .builtin .append, args := #[s, x], argTypes := #[27, 27] }) (base b2 : Nat)
    (v : Value) (l : List Spn) (hs : a.eval s = v) (hown : Own spnE w base 39 v l) (u : Value) (els : List Spn) (hx : a.eval x = u) (hu : Own spnE w b2 39 u els)
    (hm : l.length + els.length ≤ 1000000) (hbase : base ≤ w.heap.size)
    (h : ∀ v' w', Own spnE w' base 39 v' (l ++ els) → Frm (fun i => some i = v.ownBlock) w w' → (v'.ownBlock = v.ownBlock ∨ v'.ownBlock = some w.heap.size) → wpList Tryd.prog ops Q rest (a.put o.dst v') w') : wpList Tryd.prog ops Q (o :: rest) a w := by
  obtain ⟨i, hi, hz, h1, h2⟩ := info_parts info_spn
  obtain ⟨ad, c, rfl, hr⟩ := hu.rd
  exact wpl_appR spnE w hgd s x _ ho base _ i _ 56 Tryd.underlying27 hi hz h1 h2 rfl (by decide) (by omega) v l hs hown ad els.length c els hx hr hu.cap.2.2 hm hbase h
end Go.Proofs.YtdamhohoeobfgaaDoor
