/- Plain: heads that say the same; heads of one print. -/
import Derived.Test.YtbeilgkogbcjjaaDoorHeadFacts
import Derived.Test.YtbeilgkogbcjjaaDoorHeadPrint
set_option linter.unusedVariables false
namespace Go.Proofs.YtbeilgkogbcjjaaDoor
open Go.RowKit

theorem NoDup.elem {l : List Hd} (h : NoDup l) : l.Nodup := by
  unfold NoDup at h
  exact (List.pairwise_map.1 h).imp (fun hne e => hne (by rw [e]))
theorem perm_of_sub {a : List Hd} : ∀ {b : List Hd}, a.Nodup → (∀ x ∈ a, x ∈ b) → b.length ≤ a.length → a.Perm b := by
  induction a with
  | nil =>
    intro b _ _ hl
    have : b = [] := List.eq_nil_of_length_eq_zero (by simpa using hl)
    rw [this]
  | cons x t ih =>
    intro b hn hs hl
    obtain ⟨b1, b2, rfl⟩ := List.append_of_mem (hs x List.mem_cons_self)
    rw [List.nodup_cons] at hn
    have ht : t.Perm (b1 ++ b2) := ih hn.2 (fun y hy => by
      have h1 := hs y (List.mem_cons_of_mem _ hy)
      rw [List.mem_append, List.mem_cons] at h1
      rw [List.mem_append]
      rcases h1 with h1 | h1 | h1
      · exact .inl h1
      · subst h1; exact absurd hy hn.1
      · exact .inr h1) (by simp at hl ⊢; omega)
    exact (ht.cons x).trans List.perm_middle.symm
theorem getL_mem {l : List Hd} {s v : ByteArray} (h : getL l s = some v) : (⟨s, v⟩ : Hd) ∈ l := by
  unfold getL at h
  rw [Option.map_eq_some_iff] at h
  obtain ⟨x, hx, rfl⟩ := h
  have h1 := List.mem_of_find?_eq_some hx
  have h2 := List.find?_some hx
  simp only [decide_eq_true_eq] at h2
  subst h2
  exact h1
theorem getL_of {l : List Hd} (hn : NoDup l) {x : Hd} (hx : x ∈ l) : getL l x.name = some x.val := by
  obtain ⟨k, hk⟩ := List.getElem?_of_mem hx
  have hp : plN l x.name < l.length := by
    have := (hasN_iff l x.name).2 ⟨x, hx, rfl⟩
    rw [hasN_pl] at this
    simpa using this
  obtain ⟨y, hy⟩ := get_of_lt hp
  have hyn := plN_name hy rfl
  have := nodup_at hn hy hk hyn
  rw [getL_hit hy rfl]
  rw [this, hk] at hy
  simp at hy
  rw [hy]
theorem sameL_perm {a b : List Hd} (ha : NoDup a) (h : sameL a b = true) : a.Perm b := by
  unfold sameL at h
  rw [Bool.and_eq_true, decide_eq_true_eq, List.all_eq_true] at h
  refine perm_of_sub ha.elem (fun x hx => ?_) (Nat.le_of_eq h.1.symm)
  have := h.2 x hx
  unfold goodIn at this
  exact getL_mem (by simpa using this)
theorem sameL_of {a b : List Hd} (hb : NoDup b) (h : a.Perm b) : sameL a b = true := by
  unfold sameL
  rw [Bool.and_eq_true, decide_eq_true_eq, List.all_eq_true]
  refine ⟨h.length_eq, fun x hx => ?_⟩
  unfold goodIn
  exact decide_eq_true (getL_of hb (h.mem_iff.1 hx))
theorem sameL_comm {a b : List Hd} (ha : NoDup a) (hb : NoDup b) : sameL a b = sameL b a := by
  rw [Bool.eq_iff_iff]
  exact ⟨fun h => sameL_of ha (sameL_perm ha h).symm, fun h => sameL_of hb (sameL_perm hb h).symm⟩
theorem NoDup.perm {a b : List Hd} (ha : NoDup a) (h : a.Perm b) : NoDup b := by
  unfold NoDup at *
  exact (h.map _).nodup_iff.1 ha
theorem sameL_rev {a : List Hd} (ha : NoDup a) : sameL a a.reverse = true := sameL_of (ha.perm (List.reverse_perm a).symm) (List.reverse_perm a).symm
theorem perm_get {a b : List Hd} (ha : NoDup a) (h : a.Perm b) (s : ByteArray) : getL a s = getL b s := by
  have hb := ha.perm h
  cases e : getL a s with
  | none =>
    cases e2 : getL b s with
    | none => rfl
    | some v =>
      have := getL_of ha (h.mem_iff.2 (getL_mem e2))
      simp only at this
      rw [this] at e; simp at e
  | some v =>
    have := getL_of hb (h.mem_iff.1 (getL_mem e))
    simp only at this
    rw [this]
theorem perm_print {a b : List Hd} (h : a.Perm b) : (prL a).length = (prL b).length := by
  unfold prL prT
  rw [List.length_drop, List.length_drop]
  have := (h.flatMap_right fun x => 32 :: hdP x).length_eq
  rw [this]
/-! Heads of one print. -/
theorem split_at {a b r s : List UInt8} (ha : 58 ∉ a) (hb : 58 ∉ b) (h : a ++ 58 :: r = b ++ 58 :: s) : a = b ∧ r = s := by
  induction a generalizing b with
  | nil =>
    cases b with
    | nil => simpa using h
    | cons y t =>
      simp only [List.nil_append, List.cons_append, List.cons.injEq] at h
      exact absurd (by rw [← h.1]; exact List.mem_cons_self) hb
  | cons x t ih =>
    cases b with
    | nil =>
      simp only [List.nil_append, List.cons_append, List.cons.injEq] at h
      exact absurd (by rw [h.1]; exact List.mem_cons_self) ha
    | cons y u =>
      simp only [List.cons_append, List.cons.injEq] at h
      obtain ⟨rfl, h⟩ := h
      obtain ⟨h1, h2⟩ := ih (fun hh => ha (List.mem_cons_of_mem _ hh)) (fun hh => hb (List.mem_cons_of_mem _ hh)) h
      exact ⟨by rw [h1], h2⟩
theorem digN_58 (n : Nat) : 58 ∉ digN n := fun h => by
  have := digN_digit n 58 h
  simp at this
theorem digN_inj {n m : Nat} (h : digN n = digN m) : n = m := by
  induction n using Nat.strongRecOn generalizing m with
  | _ n ih =>
    have small : ∀ k, k < 10 → (UInt8.ofNat (48 + k)).toNat = 48 + k := fun k hk => by simp; omega
    have last : ∀ (a b : List UInt8) (x y : UInt8), a ++ [x] = b ++ [y] → a = b ∧ x = y := fun a b x y e => by
      have := List.append_inj' e rfl
      simpa using this
    have ne : ∀ k, digN k ≠ [] := fun k e => by have := digN_len k; rw [e] at this; simp at this
    by_cases hn : n < 10
    · by_cases hm : m < 10
      · rw [digN_lt hn, digN_lt hm] at h
        simp only [List.cons.injEq, and_true] at h
        have := congrArg UInt8.toNat h
        rw [small n hn, small m hm] at this
        omega
      · rw [digN_lt hn, digN_ge hm] at h
        have := last [] (digN (m / 10)) _ _ h
        exact absurd this.1.symm (ne _)
    · by_cases hm : m < 10
      · rw [digN_ge hn, digN_lt hm] at h
        have := last (digN (n / 10)) [] _ _ h
        exact absurd this.1 (ne _)
      · rw [digN_ge hn, digN_ge hm] at h
        have := last _ _ _ _ h
        have h1 := ih _ (by omega) this.1
        have h2 := congrArg UInt8.toNat this.2
        rw [small _ (Nat.mod_lt _ (by omega)), small _ (Nat.mod_lt _ (by omega))] at h2
        omega
theorem okN_58 {x : Hd} (h : mayB x = true) : 58 ∉ x.name.data.toList := fun hh => by
  have h1 := (may_sizes h).2.2.1
  rw [List.all_eq_true] at h1
  have := h1 58 hh
  simp [okN, okNN] at this
theorem hdP_inj {x y : Hd} {r s : List UInt8} (hx : mayB x = true) (hy : mayB y = true) (h : hdP x ++ r = hdP y ++ s) : x = y ∧ r = s := by
  unfold hdP at h
  rw [List.append_assoc, List.append_assoc, List.cons_append, List.cons_append] at h
  obtain ⟨h1, h2⟩ := split_at (okN_58 hx) (okN_58 hy) h
  rw [List.append_assoc, List.append_assoc, List.cons_append, List.cons_append] at h2
  obtain ⟨h3, h4⟩ := split_at (digN_58 _) (digN_58 _) h2
  have hl := digN_inj h3
  have hl2 : x.val.data.toList.length = y.val.data.toList.length := by rw [ba_len, ba_len]; exact hl
  obtain ⟨h5, h6⟩ := List.append_inj h4 hl2
  refine ⟨?_, h6⟩
  obtain ⟨x1, x2⟩ := x
  obtain ⟨y1, y2⟩ := y
  simp only at h1 h5
  rw [ByteArray.ext (Array.toList_inj.1 h1), ByteArray.ext (Array.toList_inj.1 h5)]
theorem prT_inj {a : List Hd} : ∀ {b : List Hd}, (∀ x ∈ a, mayB x = true) → (∀ x ∈ b, mayB x = true) → prT a = prT b → a = b := by
  induction a with
  | nil =>
    intro b _ _ h
    cases b with
    | nil => rfl
    | cons y t => simp [prT] at h
  | cons x t ih =>
    intro b ha hb h
    cases b with
    | nil => simp [prT] at h
    | cons y u =>
      unfold prT at h
      simp only [List.flatMap_cons, List.cons_append, List.cons.injEq, true_and] at h
      obtain ⟨rfl, h2⟩ := hdP_inj (ha x List.mem_cons_self) (hb y List.mem_cons_self) h
      rw [ih (fun z hz => ha z (List.mem_cons_of_mem _ hz)) (fun z hz => hb z (List.mem_cons_of_mem _ hz)) h2]
theorem prL_inj {a b : List Hd} (ha : ∀ x ∈ a, mayB x = true) (hb : ∀ x ∈ b, mayB x = true) : prL a = prL b ↔ a = b := by
  refine ⟨fun h => ?_, fun h => by rw [h]⟩
  cases a with
  | nil =>
    cases b with
    | nil => rfl
    | cons y u =>
      exfalso
      unfold prL prT at h
      simp only [List.flatMap_nil, List.drop_nil, List.flatMap_cons, List.cons_append, List.drop_succ_cons, List.drop_zero] at h
      have := congrArg List.length h
      simp [hdP] at this
  | cons x t =>
    cases b with
    | nil =>
      exfalso
      unfold prL prT at h
      simp only [List.flatMap_nil, List.drop_nil, List.flatMap_cons, List.cons_append, List.drop_succ_cons, List.drop_zero] at h
      have := congrArg List.length h
      simp [hdP] at this
    | cons y u =>
      refine prT_inj ha hb ?_
      unfold prL at h
      have e : ∀ (z : Hd) (v : List Hd), prT (z :: v) = 32 :: (prT (z :: v)).drop 1 := fun z v => by unfold prT; rfl
      rw [e x t, e y u, h]
theorem print_row {a b : List Hd} (ha : GoodL a) (hb : GoodL b) : decide (prL a = prL b) = rowB a b := by
  rw [Bool.eq_iff_iff, decide_eq_true_eq, rowB_iff]
  exact prL_inj ha.may hb.may
end Go.Proofs.YtbeilgkogbcjjaaDoor
