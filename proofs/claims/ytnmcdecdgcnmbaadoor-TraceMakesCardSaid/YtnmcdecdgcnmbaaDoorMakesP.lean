/- Plain: the names that attempts make. -/
import Derived.Test.YtnmcdecdgcnmbaaDoorCtx
import Derived.Test.YtnmcdecdgcnmbaaDoorTreeP
set_option linter.unusedVariables false
set_option linter.unusedSimpArgs false
namespace Go.Proofs.YtnmcdecdgcnmbaaDoor
open Go.RowKit

theorem digN_isDig (n : Nat) : ∀ c ∈ digN n, isDig c = true := by
  induction n using Nat.strongRecOn with
  | _ n ih =>
    intro c hc
    have key : ∀ d, d < 10 → isDig (UInt8.ofNat (48 + d)) = true := fun d hd => by
      have hcs : d = 0 ∨ d = 1 ∨ d = 2 ∨ d = 3 ∨ d = 4 ∨ d = 5 ∨ d = 6 ∨ d = 7 ∨ d = 8 ∨ d = 9 := by omega
      rcases hcs with rfl | rfl | rfl | rfl | rfl | rfl | rfl | rfl | rfl | rfl <;> decide
    by_cases h : n < 10
    · rw [digN_lt h, List.mem_singleton] at hc; rw [hc]; exact key n h
    · rw [digN_ge h, List.mem_append, List.mem_singleton] at hc
      rcases hc with hc | hc
      · exact ih (n / 10) (by omega) c hc
      · rw [hc]; exact key _ (Nat.mod_lt _ (by omega))
theorem digN_dval (n : Nat) : dval (digN n) = (n : Int) := by
  induction n using Nat.strongRecOn with
  | _ n ih =>
    have key : ∀ d, d < 10 → (((UInt8.ofNat (48 + d)).toNat : Nat) : Int) - 48 = (d : Int) := fun d hd => by
      have hcs : d = 0 ∨ d = 1 ∨ d = 2 ∨ d = 3 ∨ d = 4 ∨ d = 5 ∨ d = 6 ∨ d = 7 ∨ d = 8 ∨ d = 9 := by omega
      rcases hcs with rfl | rfl | rfl | rfl | rfl | rfl | rfl | rfl | rfl | rfl <;> rfl
    by_cases h : n < 10
    · rw [digN_lt h]
      have := key n h
      have e : dval [UInt8.ofNat (48 + n)] = 10 * 0 + ((((UInt8.ofNat (48 + n)).toNat : Nat) : Int) - 48) := rfl
      rw [e, this]; omega
    · rw [digN_ge h, dval_app1, ih (n / 10) (by omega), key _ (Nat.mod_lt _ (by omega))]; omega
theorem digN_ne (n : Nat) : digN n ≠ [] := fun e => by have := digN_len n; rw [e] at this; simp at this
theorem digN_dec {least : Int} {n : Nat} (h1 : least ≤ (n : Int)) (h2 : n ≤ 2147483647) : isDec least (digN n) = true := by
  rw [isDec_iff least _ (digN_isDig n) (digN_ne n), digN_dval, decide_eq_true h1, decide_eq_true (by omega)]
  simp [decL, show ¬ (n : Int) < 0 from by omega]
theorem digN_no (n : Nat) (c : UInt8) (hc : isDig c = false) : c ∉ digN n := fun h => by rw [digN_isDig n c h] at hc; cases hc
theorem read_root {r : Nat} (h1 : 1 ≤ r) (h2 : r ≤ 2147483647) : readL (digN r) = some ((r : Int), false) := by
  unfold readL
  rw [numL_of_dec (digN_dec (by omega) h2), digN_dval]
  show (goL false []).map _ = _
  rw [goL_nil]; rfl
theorem read_try {l : List UInt8} {r : Int} {t : Nat} (h : readL l = some (r, false)) (h1 : 1 ≤ t) (h2 : t ≤ 1000) : readL (l ++ 58 :: digN t) = some (r, true) := by
  rw [readL_split _ _ _ isDig_58, h]
  show (goL false (58 :: digN t)).map _ = _
  rw [goL_colon, numL_of_dec (digN_dec (by omega) (by omega))]
  show (goL true []).map _ = _
  rw [goL_nil]; rfl
theorem read_kid {l : List UInt8} {r : Int} {k : Nat} (h : readL l = some (r, true)) (h2 : k ≤ 1000) : readL (l ++ 47 :: digN k) = some (r, false) := by
  rw [readL_split _ _ _ isDig_47, h]
  show (goL true (47 :: digN k)).map _ = _
  rw [goL_slash, numL_of_dec (digN_dec (by omega) (by omega))]
  show (goL false []).map _ = _
  rw [goL_nil]; rfl
theorem read_copy {l : List UInt8} {r : Int} (h : readL l = some (r, false)) : readL (l ++ [126]) = some (r, false) := by
  rw [readL_split _ _ _ isDig_126, h]
  show (goL false [126]).map _ = _
  rw [goL_tilde, goL_nil]; rfl
theorem upL_app {a b : List UInt8} (h : 47 ∉ b) : upL (a ++ 47 :: b) = a := by
  unfold upL
  rw [lastN_app 47 a b h]
  simp
theorem upL_no {a : List UInt8} (h : 47 ∉ a) : upL a = [] := by
  unfold upL
  rw [lastN_zero.2 h]; rfl
def nmX (r t : Nat) : List UInt8 := digN r ++ 58 :: digN t
def nmK (r t k : Nat) : List UInt8 := nmX r t ++ 47 :: digN k
def nmY (r t k n : Nat) : List UInt8 := nmK r t k ++ 58 :: digN n
def nmK2 (r t k n : Nat) : List UInt8 := nmY r t k n ++ 47 :: digN k
def nmZ (r t k n : Nat) : List UInt8 := (nmK2 r t k n ++ [126]) ++ 58 :: digN 1
structure Made (r : Int) (X Y Z : List UInt8) : Prop where
  x : readL X = some (r, true)
  y : readL Y = some (r, true)
  z : readL Z = some (r, true)
  xne : X ≠ []
  ux : upL X = []
  uy : upL Y = X
  uz : upL Z = Y
  lxy : X.length < Y.length
  lyz : Y.length < Z.length
theorem made (r t k n : Nat) (h1 : 1 ≤ r) (h2 : r ≤ 1000) (h3 : 1 ≤ t) (h4 : t ≤ 100) (h5 : k ≤ 100) (h6 : 1 ≤ n) (h7 : n ≤ 100) : Made (r : Int) (nmX r t) (nmY r t k n) (nmZ r t k n) := by
  have hx := read_try (t := t) (read_root h1 (by omega)) h3 (by omega)
  have hk := read_kid (k := k) hx (by omega)
  have hy := read_try (t := n) hk h6 (by omega)
  have hk2 := read_kid (k := k) hy (by omega)
  have hz := read_try (t := 1) (read_copy hk2) (by omega) (by omega)
  have no : ∀ m, 47 ∉ digN m := fun m => digN_no m 47 isDig_47
  refine ⟨hx, hy, hz, fun e => by simp [nmX] at e, ?_, ?_, ?_, ?_, ?_⟩
  · exact upL_no (by unfold nmX; simp [no])
  · rw [nmY, nmK, List.append_assoc, List.cons_append]
    exact upL_app (by simp [no])
  · rw [nmZ, nmK2, List.append_assoc, List.append_assoc, List.cons_append]
    exact upL_app (by simp [no])
  · rw [nmY, nmK]; simp <;> omega
  · rw [nmZ, nmK2]; simp <;> omega
theorem Made.ups {r : Int} {X Y Z : List UInt8} (h : Made r X Y Z) : ups X = [] ∧ ups Y = [X] ∧ ups Z = [Y, X] := by
  have h1 : Go.Proofs.YtnmcdecdgcnmbaaDoor.ups X = [] := ups_nil h.ux
  have h2 : Go.Proofs.YtnmcdecdgcnmbaaDoor.ups Y = [X] := by rw [ups_cons (by rw [h.uy]; exact h.xne), h.uy, h1]
  have hy : Y ≠ [] := fun e => by have := h.lxy; rw [e] at this; simp at this
  exact ⟨h1, h2, by rw [ups_cons (by rw [h.uz]; exact hy), h.uz, h2]⟩
theorem Made.bef {r : Int} {X Y Z : List UInt8} (h : Made r X Y Z) : befL X Y = true ∧ befL Y Z = true ∧ befL X Z = true ∧ befL Y X = false := by
  obtain ⟨h1, h2, h3⟩ := h.ups
  unfold befL
  rw [h1, h2, h3]
  refine ⟨by simp, by simp, by simp, by simp⟩
def spO (l : List UInt8) : Spn := ⟨bs l, 0, 0, 0, false, 0⟩
theorem Made.ne {r : Int} {X Y Z : List UInt8} (h : Made r X Y Z) : X ≠ Y ∧ Y ≠ Z ∧ X ≠ Z := by
  have h1 := h.lxy
  have h2 := h.lyz
  exact ⟨fun e => by rw [e] at h1; omega, fun e => by rw [e] at h2; omega, fun e => by rw [e] at h1; omega⟩
theorem note_yes {L : List Spn} {l : List UInt8} {r : Int} (h : readL l = some (r, true)) (hn : ∀ y ∈ L, nm y ≠ l) : noteE L (spO l) = 0 ∧ noteL L (spO l) = L ++ [spO l] := by
  refine noteE_new (readT_of h) ?_
  cases e : isIn L (spO l) with
  | false => rfl
  | true =>
    obtain ⟨y, hy, hh⟩ := (isIn_iff _ _).1 e
    exact absurd hh (hn y hy)
theorem note_twice {L : List Spn} {l : List UInt8} {r : Int} (h : readL l = some (r, true)) (hn : spO l ∈ L) : noteE L (spO l) = 5 ∧ noteL L (spO l) = L := by
  have hi : isIn L (spO l) = true := (isIn_iff _ _).2 ⟨spO l, hn, rfl⟩
  have ht : readT (spO l).name.data.toList = true := readT_of h
  unfold noteE noteL
  rw [ht, hi]; exact ⟨rfl, rfl⟩
theorem Made.log {r : Int} {X Y Z : List UInt8} (h : Made r X Y Z) : (noteE [] (spO X) = 0 ∧ noteL [] (spO X) = [spO X]) ∧ (noteE [spO X] (spO Z) = 0 ∧ noteL [spO X] (spO Z) = [spO X, spO Z]) ∧ (noteE [spO X, spO Z] (spO Y) = 0 ∧ noteL [spO X, spO Z] (spO Y) = [spO X, spO Z, spO Y]) ∧ (noteE [spO X, spO Z, spO Y] (spO Y) = 5 ∧ noteL [spO X, spO Z, spO Y] (spO Y) = [spO X, spO Z, spO Y]) := by
  obtain ⟨n1, n2, n3⟩ := h.ne
  refine ⟨note_yes h.x (fun y hy => by cases hy), note_yes h.z (fun y hy => ?_), note_yes h.y (fun y hy => ?_), note_twice h.y (by simp)⟩
  · simp at hy; subst hy; exact n3
  · simp at hy
    rcases hy with rfl | rfl
    · exact n1
    · exact fun e => n2 e.symm
theorem Made.own {r : Int} {X Y Z : List UInt8} (h : Made r X Y Z) : ownL [spO X, spO Z, spO Y] r = [spO X, spO Z, spO Y] := by
  unfold ownL
  have q : ∀ l, readL l = some (r, true) → (reqL (spO l).name.data.toList == r) = true := fun l hl => by
    rw [show (spO l).name.data.toList = l from rfl, reqL_of hl]; simp
  rw [List.filter_cons, if_pos (q X h.x), List.filter_cons, if_pos (q Z h.z), List.filter_cons, if_pos (q Y h.y)]; rfl
theorem Made.forest {r : Int} {X Y Z : List UInt8} (h : Made r X Y Z) : forestB [spO X, spO Z, spO Y] = true := by
  obtain ⟨n1, n2, n3⟩ := h.ne
  rw [forest_iff]
  refine ⟨?_, fun x hx => ?_⟩
  · show [X, Z, Y].Nodup
    simp [n3, n1]
    exact fun e => n2 e.symm
  · simp at hx
    rcases hx with rfl | rfl | rfl
    · exact .inl h.ux
    · exact .inr ⟨spO Y, by simp, h.uz.symm⟩
    · exact .inr ⟨spO X, by simp, h.uy.symm⟩
theorem nmZ_len (r t k n : Nat) (h2 : r ≤ 1000) (h4 : t ≤ 100) (h5 : k ≤ 100) (h7 : n ≤ 100) : (nmZ r t k n).length ≤ 60 := by
  have a := digN_len_le 3 r (by omega)
  have b := digN_len_le 3 t (by omega)
  have c := digN_len_le 3 k (by omega)
  have d := digN_len_le 3 n (by omega)
  have e := digN_len_le 3 1 (by omega)
  simp only [nmZ, nmK2, nmY, nmK, nmX, List.length_append, List.length_cons, List.length_nil]
  omega
end Go.Proofs.YtnmcdecdgcnmbaaDoor
