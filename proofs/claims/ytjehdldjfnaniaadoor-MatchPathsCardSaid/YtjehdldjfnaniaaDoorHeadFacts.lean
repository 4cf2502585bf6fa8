/- Plain: heads that are made of numbers; what is set and got. -/
import Derived.Test.YtjehdldjfnaniaaDoorHeadGen
import Derived.Test.YtjehdldjfnaniaaDoorHeadDrop
import Derived.Test.YtjehdldjfnaniaaDoorHeadSame
set_option linter.unusedVariables false
namespace Go.Proofs.YtjehdldjfnaniaaDoor
open Go.RowKit

theorem setL_mem {l : List Hd} {h x : Hd} (hx : x ∈ setL l h) : x ∈ l ∨ x = h := by
  unfold setL at hx
  split at hx
  · unfold putL at hx
    obtain ⟨y, hy, rfl⟩ := List.mem_map.1 hx
    split
    · exact .inr rfl
    · exact .inl hy
  · split at hx
    · rcases List.mem_append.1 hx with h1 | h1
      · exact .inl h1
      · simp at h1; exact .inr h1
    · exact .inl hx
theorem genH_mem (xs : List Int) : ∀ x ∈ genH xs, ∃ z, x = oneZ z := by
  unfold genH
  have key : ∀ (xs : List Int) (acc : List Hd), (∀ x ∈ acc, ∃ z, x = oneZ z) → ∀ x ∈ xs.foldl (fun acc z => setL acc (oneZ z)) acc, ∃ z, x = oneZ z := by
    intro xs
    induction xs with
    | nil => intro acc h; exact h
    | cons a l ih =>
      intro acc h
      refine ih _ (fun x hx => ?_)
      rcases setL_mem (l := acc) (h := oneZ a) hx with h1 | h1
      · exact h x h1
      · exact ⟨a, h1⟩
  exact key xs [] (by simp)
theorem genH_nodup (xs : List Int) : NoDup (genH xs) := by
  unfold genH
  have key : ∀ (xs : List Int) (acc : List Hd), NoDup acc → NoDup (xs.foldl (fun acc z => setL acc (oneZ z)) acc) := by
    intro xs
    induction xs with
    | nil => intro acc h; exact h
    | cons a l ih => intro acc h; exact ih _ (setL_nodup _ h)
  exact key xs [] (by simp [NoDup])
theorem nm_ok : ∀ i, i < 10 → ∀ s, nmT[i]? = some s → 1 ≤ s.size ∧ s.size ≤ 20 ∧ s.data.toList.all okN = true := by
  intro i hi s hs
  have h : i = 0 ∨ i = 1 ∨ i = 2 ∨ i = 3 ∨ i = 4 ∨ i = 5 ∨ i = 6 ∨ i = 7 ∨ i = 8 ∨ i = 9 := by omega
  rcases h with rfl | rfl | rfl | rfl | rfl | rfl | rfl | rfl | rfl | rfl <;> (simp [nmT] at hs; subst hs; decide)
theorem vl_ok : ∀ i, i < 8 → ∀ s, vlT[i]? = some s → s.size ≤ 60 ∧ s.data.toList.all okV = true := by
  intro i hi s hs
  have h : i = 0 ∨ i = 1 ∨ i = 2 ∨ i = 3 ∨ i = 4 ∨ i = 5 ∨ i = 6 ∨ i = 7 := by omega
  rcases h with rfl | rfl | rfl | rfl | rfl | rfl | rfl | rfl <;> (simp [vlT] at hs; subst hs; decide)
theorem digN_digit (n : Nat) : ∀ c ∈ digN n, 48 ≤ c.toNat ∧ c.toNat ≤ 57 := by
  induction n using Nat.strongRecOn with
  | _ n ih =>
    intro c hc
    have small : ∀ k, k < 10 → (UInt8.ofNat (48 + k)).toNat = 48 + k := fun k hk => by simp; omega
    by_cases h : n < 10
    · rw [digN_lt h] at hc
      simp only [List.mem_singleton] at hc
      subst hc
      rw [small n h]; omega
    · rw [digN_ge h] at hc
      rcases List.mem_append.1 hc with h1 | h1
      · exact ih _ (by omega) c h1
      · simp only [List.mem_singleton] at h1
        subst h1
        rw [small _ (Nat.mod_lt _ (by omega))]
        have := Nat.mod_lt n (show 0 < 10 by omega)
        omega
theorem oneH_may (q : Nat) (hq : q < 100000) : mayB (oneH q) = true := by
  have hn := nm_at (q % 10) (Nat.mod_lt _ (by omega))
  have hv := vl_at (q / 10 % 8) (Nat.mod_lt _ (by omega))
  obtain ⟨h1, h2, h3⟩ := nm_ok _ (Nat.mod_lt _ (by omega)) _ hn
  obtain ⟨h4, h5⟩ := vl_ok _ (Nat.mod_lt _ (by omega)) _ hv
  unfold mayB oneH
  simp only
  by_cases h : q % 37 = 5
  · rw [if_pos h]
    have hd : decL (q : Int) = digN q := by unfold decL; rw [if_neg (by omega)]; simp
    have hl := digN_len_le 4 q (by omega)
    have hs : (bs (decL (q : Int) ++ dots)).size ≤ 60 := by
      rw [bs_size, List.length_append, hd]
      have : dots.length = 40 := rfl
      omega
    have hall : (bs (decL (q : Int) ++ dots)).data.toList.all okV = true := by
      rw [bs_list, List.all_append, hd, Bool.and_eq_true]
      refine ⟨?_, by decide⟩
      rw [List.all_eq_true]
      intro c hc
      have := digN_digit q c hc
      unfold okV okVN
      exact decide_eq_true (by omega)
    rw [h3, hall, decide_eq_true ⟨h1, h2, hs⟩]; rfl
  · rw [if_neg h, h3, h5, decide_eq_true ⟨h1, h2, h4⟩]; rfl
theorem around_nat (z : Int) : around z 100000 < 100000 := by have := around_lt z 100000 (by omega); omega
theorem oneZ_may (z : Int) : mayB (oneZ z) = true := oneH_may _ (around_nat z)
theorem may_sizes {x : Hd} (h : mayB x = true) : x.name.size ≤ 20 ∧ x.val.size ≤ 60 ∧ x.name.data.toList.all okN = true ∧ x.val.data.toList.all okV = true := by
  unfold mayB at h
  simp only [Bool.and_eq_true, decide_eq_true_eq] at h
  exact ⟨h.1.2.1, h.1.2.2, h.2.1, h.2.2⟩
theorem chk_ok (r : List Hd) : ∀ d, (∀ x ∈ r, mayB x = true) → NoDup (d ++ r) → chk d r = 0 := by
  induction r with
  | nil => intro d _ _; unfold chk; rfl
  | cons a t ih =>
    intro d hm hn
    unfold chk
    rw [if_neg (by rw [hm a List.mem_cons_self]; simp), if_neg, ih _ (fun x hx => hm x (List.mem_cons_of_mem _ hx)) (by rw [List.append_assoc]; exact hn)]
    intro hh
    unfold NoDup at hn
    rw [List.map_append, List.nodup_append] at hn
    exact hn.2.2 a.name ((hasN_map d a.name).1 hh) a.name (by simp) rfl
theorem check_ok {l : List Hd} (h8 : l.length ≤ 8) (hm : ∀ x ∈ l, mayB x = true) (hn : NoDup l) : checkE l = 0 := by
  unfold checkE
  rw [if_neg (by omega)]
  exact chk_ok l [] hm (by simpa using hn)
structure GoodL (l : List Hd) : Prop where
  len : l.length ≤ 8
  may : ∀ x ∈ l, mayB x = true
  nd : NoDup l
theorem GoodL.gen (xs : List Int) : GoodL (genH xs) := ⟨genH_len xs, fun x hx => by obtain ⟨z, rfl⟩ := genH_mem xs x hx; exact oneZ_may z, genH_nodup xs⟩
theorem GoodL.set {l : List Hd} (h : GoodL l) (z : Int) : GoodL (setL l (oneZ z)) :=
  ⟨(setL_len l _).2 h.len, fun x hx => by rcases setL_mem hx with h1 | rfl; exact h.may x h1; exact oneZ_may z, setL_nodup _ h.nd⟩
theorem GoodL.drop {l : List Hd} (h : GoodL l) (ns : List ByteArray) : GoodL (dropL l ns) :=
  ⟨Nat.le_trans (dropL_len _ _) h.len, fun x hx => h.may x (List.mem_filter.1 hx).1, (List.Sublist.map _ List.filter_sublist).nodup h.nd⟩
theorem GoodL.check {l : List Hd} (h : GoodL l) : checkE l = 0 := check_ok h.len h.may h.nd
theorem GoodL.sizes {l : List Hd} (h : GoodL l) : ∀ x ∈ l, x.name.size ≤ 1000000 ∧ x.val.size ≤ 1000000 := fun x hx => by have := may_sizes (h.may x hx); omega
theorem GoodL.small {l : List Hd} (h : GoodL l) : ∀ x ∈ l, x.name.size ≤ 1000 ∧ x.val.size ≤ 99 := fun x hx => by have := may_sizes (h.may x hx); omega

theorem getL_put {l : List Hd} {h : Hd} (hh : hasN l h.name = true) : getL (putL l h) h.name = some h.val := by
  unfold getL putL
  rw [List.find?_map]
  obtain ⟨x, hx, e⟩ := (hasN_iff l h.name).1 hh
  cases hf : l.find? ((fun x => decide (x.name = h.name)) ∘ fun x => if x.name = h.name then h else x) with
  | none =>
    rw [List.find?_eq_none] at hf
    have := hf x hx
    simp [e] at this
  | some y =>
    have hp := List.find?_some hf
    simp only [Function.comp_apply, decide_eq_true_eq] at hp
    simp only [Option.map_some]
    by_cases hy : y.name = h.name
    · rw [if_pos hy]
    · rw [if_neg hy] at hp; exact absurd hp hy
theorem getL_set_same (l : List Hd) (h : Hd) : getL (setL l h) h.name = if hasN l h.name = true ∨ l.length < 8 then some h.val else none := by
  unfold setL
  by_cases hh : hasN l h.name = true
  · rw [if_pos hh, if_pos (.inl hh)]; exact getL_put hh
  · have hf : hasN l h.name = false := by simpa using hh
    rw [if_neg hh]
    by_cases h8 : l.length < 8
    · rw [if_pos h8, if_pos (.inr h8), getL_app, hf]
      simp [getL]
    · rw [if_neg h8, if_neg (by rintro (h1 | h1); exact hh h1; exact h8 h1)]
      exact getL_no hf
theorem getL_set_other (l : List Hd) (h : Hd) (s : ByteArray) (hs : ¬ s = h.name) : getL (setL l h) s = getL l s := by
  unfold setL
  split
  · unfold getL putL
    rw [List.find?_map]
    have e : ((fun x : Hd => decide (x.name = s)) ∘ fun x => if x.name = h.name then h else x) = fun x : Hd => decide (x.name = s) := by
      funext x
      simp only [Function.comp_apply]
      by_cases hx : x.name = h.name
      · rw [if_pos hx, hx]
      · rw [if_neg hx]
    rw [e]
    cases hf : l.find? fun x : Hd => decide (x.name = s) with
    | none => rfl
    | some y =>
      have hp := List.find?_some hf
      simp only [decide_eq_true_eq] at hp
      simp only [Option.map_some]
      rw [if_neg (fun e => hs (hp.symm.trans e))]
  · split
    · rw [getL_app]
      split
      · rfl
      · rename_i hn
        have hn' : hasN l s = false := by simpa using hn
        rw [getL_no hn']
        unfold getL
        have hx : ¬ h.name = s := fun e => hs e.symm
        simp [hx]
    · rfl
theorem put_put (l : List Hd) (h : Hd) : putL (putL l h) h = putL l h := by
  unfold putL
  rw [List.map_map]
  refine List.map_congr_left fun x _ => ?_
  simp only [Function.comp_apply]
  by_cases e : x.name = h.name
  · rw [if_pos e, if_pos rfl]
  · rw [if_neg e, if_neg e]
theorem set_set (l : List Hd) (h : Hd) : setL (setL l h) h = setL l h := by
  by_cases hh : hasN l h.name = true
  · have e : setL l h = putL l h := by unfold setL; rw [if_pos hh]
    rw [e]
    unfold setL
    rw [if_pos ((hasN_map _ _).2 (by rw [putL_names]; exact (hasN_map _ _).1 hh)), put_put]
  · by_cases h8 : l.length < 8
    · have e : setL l h = l ++ [h] := by unfold setL; rw [if_neg hh, if_pos h8]
      rw [e]
      unfold setL
      rw [if_pos ((hasN_iff _ _).2 ⟨h, by simp, rfl⟩)]
      unfold putL
      rw [List.map_append]
      have := putL_none (l := l) (h := h) (by simpa using hh)
      unfold putL at this
      rw [this]; simp
    · have e : setL l h = l := by unfold setL; rw [if_neg hh, if_neg h8]
      rw [e, e]
end Go.Proofs.YtjehdldjfnaniaaDoor
