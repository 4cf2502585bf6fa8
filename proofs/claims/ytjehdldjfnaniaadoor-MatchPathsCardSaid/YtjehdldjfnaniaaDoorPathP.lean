/- Plain: paths as lists of parts. -/
import Derived.Test.YtjehdldjfnaniaaDoorBs
import Derived.Lib.SplitLaws
set_option linter.unusedVariables false
namespace Go.Proofs.YtjehdldjfnaniaaDoor

/-- A text, cut at each slash. -/
def cutL : List UInt8 → List (List UInt8)
  | [] => [[]]
  | c :: r => if c = 47 then [] :: cutL r else match cutL r with | h :: t => (c :: h) :: t | [] => [[c]]
theorem cutL_ne (l : List UInt8) : ∃ h t, cutL l = h :: t := by
  cases l with
  | nil => exact ⟨_, _, rfl⟩
  | cons c r =>
    unfold cutL
    split
    · exact ⟨_, _, rfl⟩
    · cases cutL r with
      | nil => exact ⟨_, _, rfl⟩
      | cons h t => exact ⟨_, _, rfl⟩
theorem cutL_slash (r : List UInt8) : cutL (47 :: r) = [] :: cutL r := by
  rw [cutL, if_pos rfl]
theorem cutL_other {c : UInt8} (hc : ¬ c = 47) {r h : List UInt8} {t : List (List UInt8)} (hr : cutL r = h :: t) : cutL (c :: r) = (c :: h) :: t := by
  rw [cutL, if_neg hc, hr]
theorem cutL_no {a : List UInt8} (ha : 47 ∉ a) : cutL a = [a] := by
  induction a with
  | nil => rfl
  | cons c a ih =>
    rw [List.mem_cons, not_or] at ha
    exact cutL_other (fun e => ha.1 e.symm) (ih ha.2)
theorem cutL_app {a : List UInt8} (ha : 47 ∉ a) (r : List UInt8) : cutL (a ++ 47 :: r) = a :: cutL r := by
  induction a with
  | nil => exact cutL_slash r
  | cons c a ih =>
    rw [List.mem_cons, not_or] at ha
    exact cutL_other (fun e => ha.1 e.symm) (ih ha.2)
theorem idx_spec (s : List UInt8) : (Lib.index s [47] = -1 ∧ 47 ∉ s) ∨ ∃ a r, s = a ++ 47 :: r ∧ 47 ∉ a ∧ Lib.index s [47] = (a.length : Nat) := by
  induction s with
  | nil => exact .inl ⟨rfl, by simp⟩
  | cons b l ih =>
    by_cases hb : b = 47
    · subst hb
      exact .inr ⟨[], l, rfl, by simp, by unfold Lib.index; simp⟩
    · have hp : ([47] : List UInt8).isPrefixOf (b :: l) = false := by simp [List.isPrefixOf, Ne.symm hb]
      have e : Lib.index (b :: l) [47] = if Lib.index l [47] == -1 then -1 else Lib.index l [47] + 1 := by rw [Lib.index, hp]; simp
      rw [e]
      rcases ih with ⟨h1, h2⟩ | ⟨a, r, rfl, h2, h3⟩
      · refine .inl ⟨by rw [h1]; rfl, ?_⟩
        rw [List.mem_cons, not_or]; exact ⟨fun e => hb e.symm, h2⟩
      · refine .inr ⟨b :: a, r, rfl, ?_, ?_⟩
        · rw [List.mem_cons, not_or]; exact ⟨fun e => hb e.symm, h2⟩
        · rw [h3, if_neg (by simp)]; simp
theorem split_cut : ∀ (k : Nat) (s : List UInt8), s.count 47 = k → Lib.splitK [47] 0 k s = cutL s := by
  intro k
  induction k with
  | zero =>
    intro s h
    rw [cutL_no (List.count_eq_zero.1 h)]; rfl
  | succ k ih =>
    intro s h
    rcases idx_spec s with ⟨h1, h2⟩ | ⟨a, r, rfl, h2, h3⟩
    · rw [List.count_eq_zero.2 h2] at h; omega
    · unfold Lib.splitK
      rw [h3, if_neg (by simp)]
      have e1 : ((a.length : Int).toNat + 0) = a.length := by simp
      have e2 : (a ++ 47 :: r).drop ((a.length : Int).toNat + ([47] : List UInt8).length) = r := by simp
      rw [e1, e2, List.take_left, cutL_app h2, ih r (by rw [List.count_append, List.count_eq_zero.2 h2, List.count_cons_self] at h; omega)]
theorem split_is (s : List UInt8) : Lib.splitK [47] 0 (Lib.count s [47]) s = cutL s := by rw [Lib.count_one]; exact split_cut _ s rfl
theorem count_cut (s : List UInt8) : s.count 47 + 1 = (cutL s).length := by
  induction s with
  | nil => rfl
  | cons c r ih =>
    by_cases hc : c = 47
    · subst hc; rw [cutL_slash, List.count_cons_self, List.length_cons, ih]
    · obtain ⟨h, t, e⟩ := cutL_ne r
      rw [cutL_other hc e, List.count_cons_of_ne (by simpa using hc), ih, e]; simp

def joinP (ps : List (List UInt8)) : List UInt8 := ps.flatMap fun p => 47 :: p
theorem joinP_cons (p : List UInt8) (ps : List (List UInt8)) : joinP (p :: ps) = 47 :: (p ++ joinP ps) := by unfold joinP; rw [List.flatMap_cons]; rfl
theorem joinP_app (a b : List (List UInt8)) : joinP (a ++ b) = joinP a ++ joinP b := by unfold joinP; rw [List.flatMap_append]
theorem join_cut (r : List UInt8) : joinP (cutL r) = 47 :: r := by
  induction r with
  | nil => rfl
  | cons c r ih =>
    by_cases hc : c = 47
    · subst hc; rw [cutL_slash, joinP_cons, ih]; rfl
    · obtain ⟨h, t, e⟩ := cutL_ne r
      rw [e, joinP_cons] at ih
      rw [cutL_other hc e, joinP_cons]
      have : h ++ joinP t = r := by simpa using ih
      rw [List.cons_append, this]
theorem cut_join : ∀ (ps : List (List UInt8)) (p : List UInt8), 47 ∉ p → (∀ q ∈ ps, 47 ∉ q) → cutL (p ++ joinP ps) = p :: ps := by
  intro ps
  induction ps with
  | nil => intro p h _; rw [show joinP [] = [] from rfl, List.append_nil]; exact cutL_no h
  | cons q ps ih =>
    intro p h hq
    rw [joinP_cons, cutL_app h, ih q (hq q List.mem_cons_self) (fun x hx => hq x (List.mem_cons_of_mem _ hx))]

def okBN (n : Nat) : Bool := decide ((97 ≤ n ∧ n ≤ 122) ∨ (48 ≤ n ∧ n ≤ 57) ∨ n = 45 ∨ n = 95 ∨ n = 46)
def okB (c : UInt8) : Bool := okBN c.toNat
def okPart (p : List UInt8) : Bool := !p.isEmpty && p.all okB
theorem okPart_no {p : List UInt8} (h : okPart p = true) : 47 ∉ p := by
  unfold okPart at h
  rw [Bool.and_eq_true, List.all_eq_true] at h
  intro hm
  have := h.2 47 hm
  simp [okB, okBN] at this
theorem okPart_ne {p : List UInt8} (h : okPart p = true) : p ≠ [] := by
  intro e
  subst e
  simp [okPart] at h
def isPathL (s : List UInt8) : Bool := decide (s = [47]) || (decide (s.length ≤ 60) && (decide (s.head? = some 47) && (cutL s.tail).all okPart))
def partsL (s : List UInt8) : List (List UInt8) := if s = [] ∨ s = [47] then [] else cutL s.tail
def pathOf (ps : List (List UInt8)) : List UInt8 := if ps = [] then [47] else joinP ps
/-- Parts that may stand in a path. -/
def PartsOk (ps : List (List UInt8)) : Prop := ∀ p ∈ ps, okPart p = true
theorem pathOf_ne {ps : List (List UInt8)} (h : ps ≠ []) : pathOf ps = joinP ps := by unfold pathOf; rw [if_neg h]
theorem join_ne47 {ps : List (List UInt8)} (hk : PartsOk ps) : joinP ps ≠ [47] := by
  cases ps with
  | nil => simp [joinP]
  | cons p ps =>
    rw [joinP_cons]
    have hp := okPart_ne (hk p List.mem_cons_self)
    intro e
    simp at e
    exact hp e.1
theorem isPath_iff (s : List UInt8) : isPathL s = true ↔ ∃ ps, PartsOk ps ∧ s = pathOf ps ∧ s.length ≤ 60 := by
  unfold isPathL
  rw [Bool.or_eq_true, Bool.and_eq_true, Bool.and_eq_true, decide_eq_true_eq, decide_eq_true_eq, decide_eq_true_eq, List.all_eq_true]
  constructor
  · rintro (h | ⟨h1, h2, h3⟩)
    · subst h
      exact ⟨[], fun p hp => by simp at hp, rfl, by simp⟩
    · obtain ⟨h, t, e⟩ := cutL_ne s.tail
      refine ⟨cutL s.tail, h3, ?_, h1⟩
      rw [pathOf_ne (by rw [e]; simp), join_cut]
      cases s with
      | nil => simp at h2
      | cons c r => simp at h2; subst h2; rfl
  · rintro ⟨ps, hk, rfl, hl⟩
    by_cases hp : ps = []
    · subst hp; exact .inl rfl
    · refine .inr ⟨hl, ?_⟩
      obtain ⟨p, t, rfl⟩ : ∃ p t, ps = p :: t := by cases ps with | nil => exact absurd rfl hp | cons p t => exact ⟨p, t, rfl⟩
      rw [pathOf_ne hp, joinP_cons]
      refine ⟨rfl, ?_⟩
      rw [List.tail_cons, cut_join t p (okPart_no (hk p List.mem_cons_self)) (fun q hq => okPart_no (hk q (List.mem_cons_of_mem _ hq)))]
      exact hk
theorem isPath_of {ps : List (List UInt8)} (hk : PartsOk ps) (hl : (pathOf ps).length ≤ 60) : isPathL (pathOf ps) = true := (isPath_iff _).2 ⟨ps, hk, rfl, hl⟩
theorem parts_path {ps : List (List UInt8)} (hk : PartsOk ps) : partsL (pathOf ps) = ps := by
  unfold partsL
  cases ps with
  | nil => rfl
  | cons p t =>
    rw [pathOf_ne (by simp), if_neg, joinP_cons, List.tail_cons, cut_join t p (okPart_no (hk p List.mem_cons_self)) (fun q hq => okPart_no (hk q (List.mem_cons_of_mem _ hq)))]
    rintro (e | e)
    · rw [joinP_cons] at e; simp at e
    · exact join_ne47 hk e
theorem pathOf_inj {a b : List (List UInt8)} (ha : PartsOk a) (hb : PartsOk b) (h : pathOf a = pathOf b) : a = b := by
  rw [← parts_path ha, ← parts_path hb, h]

/-! Byte by byte. -/
def chain : List UInt8 → Bool → Bool
  | [], prev => !prev
  | c :: r, prev => if okB c then chain r false else if c = 47 ∧ prev = false then chain r true else false
theorem chain_cut (r : List UInt8) : ∀ h t, cutL r = h :: t → chain r true = (okPart h && t.all okPart) ∧ chain r false = (h.all okB && t.all okPart) := by
  induction r with
  | nil =>
    intro h t e
    simp only [cutL, List.cons.injEq] at e
    obtain ⟨rfl, rfl⟩ := e
    exact ⟨rfl, rfl⟩
  | cons c r ih =>
    intro h t e
    obtain ⟨h1, t1, e1⟩ := cutL_ne r
    obtain ⟨i1, i2⟩ := ih h1 t1 e1
    by_cases hc : c = 47
    · subst hc
      rw [cutL_slash, e1] at e
      simp only [List.cons.injEq] at e
      obtain ⟨rfl, rfl⟩ := e
      have h47 : okB 47 = false := by decide
      constructor
      · unfold chain; rw [h47]; simp [okPart]
      · unfold chain; rw [h47]; simp [i1]
    · rw [cutL_other hc e1] at e
      simp only [List.cons.injEq] at e
      obtain ⟨rfl, rfl⟩ := e
      have ho : okPart (c :: h1) = (okB c && h1.all okB) := rfl
      rw [ho, List.all_cons, chain, chain]
      cases hk : okB c
      · simp [hc]
      · simp [i2]

/-! To begin with another path. -/
def beginsL (s t : List UInt8) : Bool := decide (t = [47]) || (t.isPrefixOf s && (decide (s.drop t.length = []) || decide ((s.drop t.length).head? = some 47)))
theorem join_pre {a b : List (List UInt8)} (ha : PartsOk a) (hb : PartsOk b) : (joinP b).isPrefixOf (joinP a) = true → ((joinP a).drop (joinP b).length = [] ∨ ((joinP a).drop (joinP b).length).head? = some 47) → b.isPrefixOf a = true := by
  induction b generalizing a with
  | nil => intro _ _; simp
  | cons q b ih =>
    intro h1 h2
    cases a with
    | nil => rw [joinP_cons] at h1; simp [joinP, List.isPrefixOf] at h1
    | cons p a =>
      rw [List.isPrefixOf_iff_prefix] at h1
      obtain ⟨r, hr⟩ := h1
      rw [← hr, List.drop_left] at h2
      rw [joinP_cons, joinP_cons, List.cons_append, List.cons.injEq, List.append_assoc] at hr
      have hp := okPart_no (ha p List.mem_cons_self)
      have hq := okPart_no (hb q List.mem_cons_self)
      have hcut : cutL (q ++ (joinP b ++ r)) = cutL (p ++ joinP a) := by rw [hr.2]
      rw [cut_join a p hp (fun x hx => okPart_no (ha x (List.mem_cons_of_mem _ hx)))] at hcut
      have hpq : q = p ∧ joinP b ++ r = joinP a := by
        have key : ∀ (x y : List UInt8), q ++ x = p ++ y → (x = [] ∨ x.head? = some 47) → (y = [] ∨ y.head? = some 47) → q = p ∧ x = y := by
          intro x y e hx hy
          have hqx : cutL (q ++ x) = cutL (p ++ y) := by rw [e]
          have one : ∀ (u v : List UInt8), 47 ∉ u → (v = [] ∨ v.head? = some 47) → ∃ t, cutL (u ++ v) = u :: t := by
            intro u v hu hv
            rcases hv with rfl | hv
            · rw [List.append_nil, cutL_no hu]; exact ⟨_, rfl⟩
            · cases v with
              | nil => simp at hv
              | cons c v => simp at hv; subst hv; rw [cutL_app hu]; exact ⟨_, rfl⟩
          obtain ⟨t1, e1⟩ := one q x hq hx
          obtain ⟨t2, e2⟩ := one p y hp hy
          rw [e1, e2, List.cons.injEq] at hqx
          obtain ⟨rfl, _⟩ := hqx
          exact ⟨rfl, List.append_cancel_left e⟩
        refine key _ _ hr.2 ?_ ?_
        · cases b with
          | nil => simpa [joinP] using h2
          | cons x b => rw [joinP_cons]; exact .inr rfl
        · cases a with
          | nil => exact .inl rfl
          | cons x a => rw [joinP_cons]; exact .inr rfl
      obtain ⟨rfl, hj⟩ := hpq
      have := ih (a := a) (fun x hx => ha x (List.mem_cons_of_mem _ hx)) (fun x hx => hb x (List.mem_cons_of_mem _ hx)) (by rw [List.isPrefixOf_iff_prefix]; exact ⟨r, hj⟩) (by rw [← hj, List.drop_left]; exact h2)
      simpa [List.isPrefixOf] using this
theorem begins_path {a b : List (List UInt8)} (ha : PartsOk a) (hb : PartsOk b) : beginsL (pathOf a) (pathOf b) = b.isPrefixOf a := by
  unfold beginsL
  by_cases hbn : b = []
  · subst hbn; simp [pathOf]
  rw [pathOf_ne hbn, decide_eq_false (join_ne47 hb), Bool.false_or, Bool.eq_iff_iff, Bool.and_eq_true, Bool.or_eq_true, decide_eq_true_eq, decide_eq_true_eq]
  by_cases han : a = []
  · subst han
    cases b with
    | nil => exact absurd rfl hbn
    | cons q b =>
      have hq := okPart_ne (hb q List.mem_cons_self)
      rw [joinP_cons]
      constructor
      · rintro ⟨h1, _⟩
        exfalso
        rw [List.isPrefixOf_iff_prefix] at h1
        have := h1.length_le
        have h3 : 0 < q.length := List.length_pos_iff.2 hq
        simp [pathOf] at this
        exact hq this.1
      · intro h; simp [List.isPrefixOf] at h
  · rw [pathOf_ne han]
    constructor
    · rintro ⟨h1, h2⟩; exact join_pre ha hb h1 h2
    · intro h
      rw [List.isPrefixOf_iff_prefix] at h
      obtain ⟨r, rfl⟩ := h
      rw [joinP_app, List.drop_left]
      refine ⟨by rw [List.isPrefixOf_iff_prefix]; exact ⟨_, rfl⟩, ?_⟩
      cases r with
      | nil => exact .inl rfl
      | cons x r => rw [joinP_cons]; exact .inr rfl
end Go.Proofs.YtjehdldjfnaniaaDoor
