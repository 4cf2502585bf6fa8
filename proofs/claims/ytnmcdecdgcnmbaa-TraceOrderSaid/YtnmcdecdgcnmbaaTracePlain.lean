/- Plain: names of calls and attempts, read from the left and from the right. -/
import Derived.Test.YtnmcdecdgcnmbaaBs
set_option linter.unusedVariables false
namespace Go.Proofs.Ytnmcdecdgcnmbaa



def isDig (c : UInt8) : Bool := decide (48 ≤ c.toNat ∧ c.toNat ≤ 57)
def dstep (n : Int) (c : UInt8) : Int := 10 * n + ((c.toNat : Int) - 48)
def dval (l : List UInt8) : Int := l.foldl dstep 0
def okD (least : Int) (d : List UInt8) : Bool := !d.isEmpty && (d.length == 1 || d.head? != some 48) && decide (dval d ≤ 2147483647) && decide (least ≤ dval d)
def isDec (least : Int) (d : List UInt8) : Bool := d.all isDig && okD least d
def numL (least : Int) (l : List UInt8) : Option (Int × List UInt8) :=
  if okD least (l.takeWhile isDig) then some (dval (l.takeWhile isDig), l.dropWhile isDig) else none

theorem isDig_47 : isDig 47 = false := by decide
theorem isDig_58 : isDig 58 = false := by decide
theorem isDig_126 : isDig 126 = false := by decide
theorem okD_pos {least : Int} {d : List UInt8} (h : okD least d = true) : 0 < d.length := by
  cases d with
  | nil => simp [okD] at h
  | cons => simp
theorem take_drop_len (l : List UInt8) : (l.takeWhile isDig).length + (l.dropWhile isDig).length = l.length := by
  rw [← List.length_append, List.takeWhile_append_dropWhile]
theorem numL_len {least : Int} {l : List UInt8} {v : Int} {r : List UInt8} (h : numL least l = some (v, r)) : r.length < l.length := by
  unfold numL at h
  split at h
  · rename_i ho
    have := okD_pos ho
    have := take_drop_len l
    simp at h
    rw [← h.2]; omega
  · simp at h
theorem numL_split (least : Int) (x y : List UInt8) (c : UInt8) (hc : isDig c = false) : numL least (x ++ c :: y) = (numL least x).map fun p => (p.1, p.2 ++ c :: y) := by
  have h1 : (x ++ c :: y).takeWhile isDig = x.takeWhile isDig := by
    induction x with
    | nil => simp [hc]
    | cons a x ih => by_cases ha : isDig a <;> simp [ha, ih]
  have h2 : (x ++ c :: y).dropWhile isDig = x.dropWhile isDig ++ c :: y := by
    induction x with
    | nil => simp [hc]
    | cons a x ih => by_cases ha : isDig a <;> simp [ha] ; simpa using ih (by simpa [ha] using h1)
  unfold numL
  rw [h1, h2]
  split <;> simp
theorem dw_nil (l : List UInt8) : l.dropWhile isDig = [] ↔ ∀ c ∈ l, isDig c = true := by
  induction l with
  | nil => simp
  | cons a l ih => by_cases h : isDig a <;> simp [h, ih]
/-- A text without any other sign is a number as a whole. -/
theorem numL_all {least : Int} {l : List UInt8} {v : Int} (h : numL least l = some (v, [])) : isDec least l = true ∧ dval l = v := by
  unfold numL at h
  split at h
  · rename_i ho
    simp at h
    have e : l.takeWhile isDig = l := by
      have := List.takeWhile_append_dropWhile (p := isDig) (l := l)
      rw [h.2, List.append_nil] at this
      exact this
    rw [e] at ho h
    refine ⟨?_, h.1⟩
    unfold isDec
    rw [ho, Bool.and_true, List.all_eq_true]
    exact (dw_nil l).1 h.2
  · simp at h
theorem numL_of_dec {least : Int} {l : List UInt8} (h : isDec least l = true) : numL least l = some (dval l, []) := by
  unfold isDec at h
  simp only [Bool.and_eq_true] at h
  have h1 := List.all_eq_true.1 h.1
  unfold numL
  have e : l.takeWhile isDig = l := by
    have := List.takeWhile_append_dropWhile (p := isDig) (l := l)
    rw [(dw_nil l).2 h1, List.append_nil] at this
    exact this
  rw [e, if_pos h.2, (dw_nil l).2 h1]

/-- What stands behind a call's or an attempt's name up to the end; t: is it an attempt's? -/
def goL (t : Bool) (l : List UInt8) : Option Bool :=
  match l with
  | [] => some t
  | c :: r =>
    if !t && c == 126 then goL false r
    else if !t && c == 58 then
      match h : numL 1 r with
      | none => none
      | some (_, r') => goL true r'
    else if t && c == 47 then
      match h : numL 0 r with
      | none => none
      | some (_, r') => goL false r'
    else none
termination_by l.length
decreasing_by
  · simp
  · have := numL_len h; simp; omega
  · have := numL_len h; simp; omega
theorem goL_nil (t : Bool) : goL t [] = some t := by rw [goL]
theorem goL_tilde (r : List UInt8) : goL false (126 :: r) = goL false r := by rw [goL]; simp
theorem goL_colon (r : List UInt8) : goL false (58 :: r) = (numL 1 r).bind fun p => goL true p.2 := by
  rw [goL]; simp
  split
  · rename_i h; rw [h]; rfl
  · rename_i h; rw [h]; rfl
theorem goL_slash (r : List UInt8) : goL true (47 :: r) = (numL 0 r).bind fun p => goL false p.2 := by
  rw [goL]; simp
  split
  · rename_i h; rw [h]; rfl
  · rename_i h; rw [h]; rfl
theorem goL_false_other (c : UInt8) (r : List UInt8) (h1 : c ≠ 126) (h2 : c ≠ 58) : goL false (c :: r) = none := by
  rw [goL]; simp [h1, h2]
theorem goL_true_other (c : UInt8) (r : List UInt8) (h1 : c ≠ 47) : goL true (c :: r) = none := by
  rw [goL]; simp [h1]

theorem goL_split (x : List UInt8) : ∀ (n : Nat), x.length ≤ n → ∀ (t : Bool) (c : UInt8) (y : List UInt8), isDig c = false → goL t (x ++ c :: y) = (goL t x).bind fun u => goL u (c :: y) := by
  intro n
  induction n generalizing x with
  | zero =>
    intro hx t c y hc
    have : x = [] := List.eq_nil_of_length_eq_zero (by omega)
    subst this
    rw [goL_nil]; rfl
  | succ n ih =>
    intro hx t c y hc
    cases x with
    | nil => rw [goL_nil]; rfl
    | cons a r =>
      simp only [List.length_cons] at hx
      show goL t (a :: (r ++ c :: y)) = _
      cases t
      · by_cases h1 : a = 126
        · subst h1
          rw [goL_tilde, goL_tilde]
          exact ih r (by omega) false c y hc
        · by_cases h2 : a = 58
          · subst h2
            rw [goL_colon, goL_colon, numL_split _ _ _ _ hc]
            cases h : numL 1 r with
            | none => rfl
            | some p =>
              obtain ⟨v, q⟩ := p
              have := numL_len h
              exact ih q (by omega) true c y hc
          · rw [goL_false_other _ _ h1 h2, goL_false_other _ _ h1 h2]; rfl
      · by_cases h2 : a = 47
        · subst h2
          rw [goL_slash, goL_slash, numL_split _ _ _ _ hc]
          cases h : numL 0 r with
          | none => rfl
          | some p =>
            obtain ⟨v, q⟩ := p
            have := numL_len h
            exact ih q (by omega) false c y hc
        · rw [goL_true_other _ _ h2, goL_true_other _ _ h2]; rfl

/-- The request of a name, and whether it is an attempt's; none: it is no name. -/
def readL (l : List UInt8) : Option (Int × Bool) := (numL 1 l).bind fun p => (goL false p.2).map fun t => (p.1, t)
theorem readL_split (x y : List UInt8) (c : UInt8) (hc : isDig c = false) : readL (x ++ c :: y) = (readL x).bind fun p => (goL p.2 (c :: y)).map fun t => (p.1, t) := by
  unfold readL
  rw [numL_split _ _ _ _ hc]
  cases h : numL 1 x with
  | none => rfl
  | some p =>
    obtain ⟨v, q⟩ := p
    simp only [Option.map_some, Option.bind_some]
    rw [goL_split q q.length (Nat.le_refl _) false c y hc]
    cases goL false q <;> rfl
theorem numL_pos {l : List UInt8} {v : Int} {r : List UInt8} (h : numL 1 l = some (v, r)) : 1 ≤ v ∧ v ≤ 2147483647 := by
  unfold numL at h
  split at h
  · rename_i ho
    simp at h
    unfold okD at ho
    simp only [Bool.and_eq_true, decide_eq_true_eq] at ho
    rw [← h.1]
    exact ⟨ho.2, ho.1.2⟩
  · simp at h
theorem readL_pos {l : List UInt8} {v : Int} {t : Bool} (h : readL l = some (v, t)) : 1 ≤ v ∧ v ≤ 2147483647 := by
  unfold readL at h
  cases hn : numL 1 l with
  | none => rw [hn] at h; simp at h
  | some p =>
    obtain ⟨u, q⟩ := p
    rw [hn] at h
    simp only [Option.bind_some] at h
    cases hg : goL false q with
    | none => rw [hg] at h; simp at h
    | some t' => rw [hg] at h; simp at h; rw [← h.1]; exact numL_pos hn

/-- A call's request, 0 if it is none; an attempt's. -/
def readC (l : List UInt8) : Int := match readL l with
  | some (r, false) => r
  | _ => 0
def readA (l : List UInt8) : Int := match readL l with
  | some (r, true) => r
  | _ => 0
theorem numL_mem {least : Int} {l : List UInt8} {v : Int} {r : List UInt8} (h : numL least l = some (v, r)) : ∃ d, l = d ++ r ∧ (∀ c ∈ d, isDig c = true) ∧ isDec least d = true ∧ dval d = v := by
  unfold numL at h
  split at h
  · rename_i ho
    simp at h
    refine ⟨l.takeWhile isDig, by rw [← h.2, List.takeWhile_append_dropWhile], fun c hc => ?_, ?_, h.1⟩
    · exact List.all_eq_true.1 List.all_takeWhile c hc
    · unfold isDec; rw [ho, List.all_takeWhile]; rfl
  · simp at h
theorem goL_noslash (n : Nat) : ∀ (l : List UInt8) (t u : Bool), l.length ≤ n → 47 ∉ l → goL t l = some u → (t = true → l = [] ∧ u = true) ∧ (t = false → u = false → l = [] ∨ ∃ x, l = x ++ [126]) := by
  induction n with
  | zero =>
    intro l t u hl hs h
    have : l = [] := List.eq_nil_of_length_eq_zero (by omega)
    subst this
    rw [goL_nil] at h
    simp at h
    exact ⟨fun ht => ⟨rfl, by rw [← h, ht]⟩, fun _ _ => .inl rfl⟩
  | succ n ih =>
    intro l t u hl hs h
    cases l with
    | nil =>
      rw [goL_nil] at h
      simp at h
      exact ⟨fun ht => ⟨rfl, by rw [← h, ht]⟩, fun _ _ => .inl rfl⟩
    | cons c r =>
      simp only [List.length_cons] at hl
      simp only [List.mem_cons, not_or] at hs
      cases t
      · refine ⟨by simp, fun _ hu => ?_⟩
        by_cases h1 : c = 126
        · subst h1
          rw [goL_tilde] at h
          rcases (ih r false u (by omega) hs.2 h).2 rfl hu with h0 | ⟨x, hx⟩
          · subst h0; exact .inr ⟨[], rfl⟩
          · subst hx; exact .inr ⟨126 :: x, rfl⟩
        · by_cases h2 : c = 58
          · subst h2
            rw [goL_colon] at h
            cases hn : numL 1 r with
            | none => rw [hn] at h; simp at h
            | some p =>
              obtain ⟨v, q⟩ := p
              rw [hn] at h
              simp only [Option.bind_some] at h
              obtain ⟨d, hd, _, _⟩ := numL_mem hn
              have := numL_len hn
              have := ((ih q true u (by omega) (fun hm => hs.2 (by rw [hd]; exact List.mem_append_right _ hm)) h).1 rfl).2
              rw [hu] at this; simp at this
          · rw [goL_false_other _ _ h1 h2] at h; simp at h
      · rw [goL_true_other _ _ (fun e => hs.1 e.symm)] at h; simp at h
theorem goL_nocolon (n : Nat) : ∀ (l : List UInt8) (t u : Bool), l.length ≤ n → 58 ∉ l → goL t l = some u → u = true → t = true ∧ l = [] := by
  induction n with
  | zero =>
    intro l t u hl hs h hu
    have : l = [] := List.eq_nil_of_length_eq_zero (by omega)
    subst this
    rw [goL_nil] at h
    simp at h
    exact ⟨by rw [h, hu], rfl⟩
  | succ n ih =>
    intro l t u hl hs h hu
    cases l with
    | nil =>
      rw [goL_nil] at h
      simp at h
      exact ⟨by rw [h, hu], rfl⟩
    | cons c r =>
      simp only [List.length_cons] at hl
      simp only [List.mem_cons, not_or] at hs
      cases t
      · by_cases h1 : c = 126
        · subst h1
          rw [goL_tilde] at h
          have := (ih r false u (by omega) hs.2 h hu).1
          simp at this
        · rw [goL_false_other _ _ h1 (fun e => hs.1 e.symm)] at h; simp at h
      · by_cases h1 : c = 47
        · subst h1
          rw [goL_slash] at h
          cases hn : numL 0 r with
          | none => rw [hn] at h; simp at h
          | some p =>
            obtain ⟨v, q⟩ := p
            rw [hn] at h
            simp only [Option.bind_some] at h
            obtain ⟨d, hd, _, _⟩ := numL_mem hn
            have := numL_len hn
            have := (ih q false u (by omega) (fun hm => hs.2 (by rw [hd]; exact List.mem_append_right _ hm)) h hu).1
            simp at this
        · rw [goL_true_other _ _ h1] at h; simp at h

/-- The rules of the reference, read from the right. -/
theorem readC_tilde (x : List UInt8) : readC (x ++ [126]) = readC x := by
  unfold readC
  rw [readL_split _ _ _ isDig_126]
  cases h : readL x with
  | none => rfl
  | some p =>
    obtain ⟨r, t⟩ := p
    cases t
    · simp [goL_tilde, goL_nil]
    · simp [goL_true_other 126 [] (by decide)]
theorem readC_bare (l : List UInt8) (hs : 47 ∉ l) (ht : ∀ x, l ≠ x ++ [126]) : readC l = if isDec 1 l then dval l else 0 := by
  unfold readC readL
  by_cases hd : isDec 1 l = true
  · rw [numL_of_dec hd, if_pos hd]
    simp [goL_nil]
  · rw [if_neg hd]
    cases hn : numL 1 l with
    | none => rfl
    | some p =>
      obtain ⟨v, q⟩ := p
      simp only [Option.bind_some]
      cases hg : goL false q with
      | none => rfl
      | some u =>
        cases u
        · exfalso
          obtain ⟨d, hq, _, _⟩ := numL_mem hn
          rcases (goL_noslash q.length q false false (Nat.le_refl _) (fun hm => hs (by rw [hq]; exact List.mem_append_right _ hm)) hg).2 rfl rfl with h0 | ⟨x, hx⟩
          · subst h0; exact hd (numL_all hn).1
          · exact ht (d ++ x) (by rw [hq, hx, List.append_assoc])
        · rfl
theorem readC_slash (x y : List UInt8) (hs : 47 ∉ y) (ht : ∀ z, x ++ 47 :: y ≠ z ++ [126]) : readC (x ++ 47 :: y) = if isDec 0 y then readA x else 0 := by
  unfold readC readA
  rw [readL_split _ _ _ isDig_47]
  cases h : readL x with
  | none => simp
  | some p =>
    obtain ⟨r, t⟩ := p
    cases t
    · simp [goL_false_other 47 y (by decide) (by decide)]
    · simp only [Option.bind_some, goL_slash]
      by_cases hd : isDec 0 y = true
      · rw [numL_of_dec hd, if_pos hd]; simp [goL_nil]
      · rw [if_neg hd]
        cases hn : numL 0 y with
        | none => rfl
        | some p =>
          obtain ⟨v, q⟩ := p
          simp only [Option.bind_some]
          cases hg : goL false q with
          | none => rfl
          | some u =>
            cases u
            · exfalso
              obtain ⟨d, hq, _, _⟩ := numL_mem hn
              rcases (goL_noslash q.length q false false (Nat.le_refl _) (fun hm => hs (by rw [hq]; exact List.mem_append_right _ hm)) hg).2 rfl rfl with h0 | ⟨z, hz⟩
              · subst h0; exact hd (numL_all hn).1
              · exact ht (x ++ 47 :: (d ++ z)) (by rw [hq, hz]; simp)
            · rfl
theorem readA_none (l : List UInt8) (hs : 58 ∉ l) : readA l = 0 := by
  unfold readA readL
  cases hn : numL 1 l with
  | none => rfl
  | some p =>
    obtain ⟨v, q⟩ := p
    simp only [Option.bind_some]
    cases hg : goL false q with
    | none => rfl
    | some u =>
      cases u
      · rfl
      · exfalso
        obtain ⟨d, hq, _, _⟩ := numL_mem hn
        have := (goL_nocolon q.length q false true (Nat.le_refl _) (fun hm => hs (by rw [hq]; exact List.mem_append_right _ hm)) hg rfl).1
        simp at this
theorem readA_colon (x y : List UInt8) (hs : 58 ∉ y) : readA (x ++ 58 :: y) = if isDec 1 y then readC x else 0 := by
  unfold readC readA
  rw [readL_split _ _ _ isDig_58]
  cases h : readL x with
  | none => simp
  | some p =>
    obtain ⟨r, t⟩ := p
    cases t
    · simp only [Option.bind_some, goL_colon]
      by_cases hd : isDec 1 y = true
      · rw [numL_of_dec hd, if_pos hd]; simp [goL_nil]
      · rw [if_neg hd]
        cases hn : numL 1 y with
        | none => rfl
        | some p =>
          obtain ⟨v, q⟩ := p
          simp only [Option.bind_some]
          cases hg : goL true q with
          | none => rfl
          | some u =>
            cases u
            · rfl
            · exfalso
              obtain ⟨d, hq, _, _⟩ := numL_mem hn
              have := (goL_nocolon q.length q true true (Nat.le_refl _) (fun hm => hs (by rw [hq]; exact List.mem_append_right _ hm)) hg rfl).2
              subst this; exact hd (numL_all hn).1
    · simp [goL_true_other 58 y (by decide)]
/-- The request of a name of either kind; 0: it is none. -/
def reqL (l : List UInt8) : Int := match readL l with
  | some (r, _) => r
  | none => 0
theorem reqL_max (l : List UInt8) : max (readC l) (readA l) = reqL l := by
  unfold readC readA reqL
  cases h : readL l with
  | none => rfl
  | some p =>
    obtain ⟨r, t⟩ := p
    have := readL_pos h
    cases t
    · simp only; omega
    · simp only; omega
end Go.Proofs.Ytnmcdecdgcnmbaa
