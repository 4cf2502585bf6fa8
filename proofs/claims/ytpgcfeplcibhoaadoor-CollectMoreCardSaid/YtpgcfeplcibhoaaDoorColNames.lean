/- Names and spans that the reference makes of numbers, plainly. The request that a statement asks of: 1, 2 or 11. -/
import Derived.Test.YtpgcfeplcibhoaaDoorColM
import Derived.Test.YtpgcfeplcibhoaaDoorUps
import Derived.Test.YtpgcfeplcibhoaaDoorAround
import Derived.Test.YtpgcfeplcibhoaaDoorTraceDec
set_option linter.unusedVariables false
set_option linter.unusedSimpArgs false
namespace Go.Proofs.YtpgcfeplcibhoaaDoor

def tailT : List (List UInt8) := [[58, 49], [58, 50], [58, 49, 47, 48, 58, 49], [58, 49, 47, 48, 58, 50], [58, 49, 47, 49, 58, 49], [58, 49, 47, 48, 58, 49, 47, 48, 58, 49], [58, 49, 47, 48, 58, 49, 47, 50, 58, 49], [58, 50, 47, 48, 58, 49], [126, 58, 49], [126, 58, 49, 47, 48, 58, 49],
  [58, 49, 47, 48, 58, 49, 47, 48, 58, 49, 47, 48, 58, 51], [58, 49, 50, 47, 49, 48, 58, 49]]
def IsReq (r : Int) : Prop := r = 1 ∨ r = 2 ∨ r = 11
def preB (r : Int) : List UInt8 := if r = 1 then [49] else if r = 2 then [50] else [49, 49]
def nameB (r : Int) (k : Nat) : List UInt8 := preB r ++ tailT.getD k []
theorem pre_dec {r : Int} (h : IsReq r) : decL r = preB r := by rcases h with rfl | rfl | rfl <;> decide +kernel
def goF : Nat → Bool → List UInt8 → Option Bool
  | _, t, [] => some t
  | 0, _, _ :: _ => none
  | n + 1, t, c :: r => if !t && c == 126 then goF n false r else if !t && c == 58 then (numL 1 r).bind fun p => goF n true p.2 else if t && c == 47 then (numL 0 r).bind fun p => goF n false p.2 else none
theorem goF_goL : ∀ (n : Nat) (t : Bool) (l : List UInt8) (u : Bool), goF n t l = some u → goL t l = some u
  | n, t, [], u, h => by cases n <;> (rw [goL_nil]; exact h)
  | 0, _, _ :: _, _, h => by simp [goF] at h
  | n + 1, t, c :: r, u, h => by
    unfold goF at h
    cases t
    · by_cases h1 : c = 126
      · subst h1
        rw [goL_tilde]
        exact goF_goL n _ _ _ (by simpa using h)
      · by_cases h2 : c = 58
        · subst h2
          rw [goL_colon]
          simp only [Bool.not_false, Bool.true_and] at h
          rw [if_neg (by decide), if_pos (by decide)] at h
          cases hn : numL 1 r with
          | none => rw [hn] at h; simp at h
          | some p => rw [hn] at h; exact goF_goL n _ _ _ h
        · simp [h1, h2] at h
    · by_cases h2 : c = 47
      · subst h2
        rw [goL_slash]
        simp only [Bool.not_true, Bool.false_and, Bool.true_and] at h
        rw [if_neg (by decide), if_neg (by decide), if_pos (by decide)] at h
        cases hn : numL 0 r with
        | none => rw [hn] at h; simp at h
        | some p => rw [hn] at h; exact goF_goL n _ _ _ h
      · simp [h2] at h
def readF (l : List UInt8) : Option (Int × Bool) := (numL 1 l).bind fun p => (goF 20 false p.2).map fun t => (p.1, t)
theorem readF_read {l : List UInt8} {r : Int} {t : Bool} (h : readF l = some (r, t)) : readL l = some (r, t) := by
  unfold readF at h
  unfold readL
  cases hn : numL 1 l with
  | none => rw [hn] at h; simp at h
  | some p =>
    rw [hn] at h
    simp only [Option.bind_some, Option.map_eq_some_iff, Prod.mk.injEq] at h ⊢
    obtain ⟨u, h1, h2, h3⟩ := h
    exact ⟨u, goF_goL _ _ _ _ h1, h2, h3⟩
theorem names_read : ∀ r ∈ [(1 : Int), 2, 11], ∀ k ∈ List.range 12, readF (nameB r k) = some (r, true) := by decide +kernel
theorem name_read {r : Int} {k : Nat} (hr : IsReq r) (hk : k < 12) : readL (nameB r k) = some (r, true) := by
  refine readF_read (names_read r ?_ k (List.mem_range.2 hk))
  rcases hr with rfl | rfl | rfl <;> decide
/-- The number with which a name begins. -/
def rq30 (l : List UInt8) : Int := dval ((l.takeWhile isDig).take 9)
theorem names_rq : ∀ r ∈ [(1 : Int), 2, 11], ∀ k ∈ List.range 12, rq30 (nameB r k) = r := by decide +kernel
theorem name_rq {r : Int} {k : Nat} (hr : IsReq r) (hk : k < 12) : rq30 (nameB r k) = r := by
  refine names_rq r ?_ k (List.mem_range.2 hk)
  rcases hr with rfl | rfl | rfl <;> decide
theorem names_len : ∀ r ∈ [(1 : Int), 2, 11], ∀ k ∈ List.range 12, (nameB r k).length ≤ 16 ∧ 3 ≤ (nameB r k).length := by decide +kernel
theorem name_len {r : Int} {k : Nat} (hr : IsReq r) (hk : k < 12) : (nameB r k).length ≤ 16 ∧ 3 ≤ (nameB r k).length := by
  refine names_len r ?_ k (List.mem_range.2 hk)
  rcases hr with rfl | rfl | rfl <;> decide
theorem tw_split (x y : List UInt8) (c : UInt8) (hc : isDig c = false) : (x ++ c :: y).takeWhile isDig = x.takeWhile isDig := by
  induction x with
  | nil => simp [hc]
  | cons a x ih => by_cases ha : isDig a <;> simp [ha, ih]
theorem rq30_up {l : List UInt8} (h : upL l ≠ []) : rq30 (upL l) = rq30 l := by
  obtain ⟨y, hy, _⟩ := up_split h
  have : l.takeWhile isDig = (upL l).takeWhile isDig := by
    conv => lhs; rw [hy]
    exact tw_split _ _ _ isDig_47
  unfold rq30; rw [this]
theorem ups_ind {P : List UInt8 → Prop} {l : List UInt8} (hs : ∀ x, P x → upL x ≠ [] → P (upL x)) (h : P l) : ∀ a ∈ ups l, P a := by
  intro a ha
  generalize hn : l.length = n at *
  induction n using Nat.strongRecOn generalizing l with
  | _ n ih =>
    subst hn
    by_cases hu : upL l = []
    · rw [ups_nil hu] at ha; simp at ha
    · rw [ups_cons hu] at ha
      have h1 := hs l h hu
      rcases List.mem_cons.1 ha with rfl | ha
      · exact h1
      · exact ih _ (upL_len hu) h1 ha rfl
/-- A name that can be read, of one of the three requests. -/
structure GoodB (l : List UInt8) : Prop where
  rd : ∃ r, (1 ≤ r ∧ r ≤ 1000) ∧ readL l = some (r, true) ∧ rq30 l = r
  len : l.length ≤ 16
theorem goodB_up {l : List UInt8} (h : GoodB l) (hu : upL l ≠ []) : GoodB (upL l) := by
  obtain ⟨r, h1, h2, h3⟩ := h.rd
  exact ⟨⟨r, h1, up_read h2 hu, by rw [rq30_up hu]; exact h3⟩, Nat.le_trans (Nat.le_of_lt (upL_len hu)) h.len⟩
theorem goodB_ups {l a : List UInt8} (h : GoodB l) (ha : a ∈ ups l) : GoodB a := ups_ind (P := GoodB) (fun x hx hu => goodB_up hx hu) h a ha
theorem IsReq.bd {r : Int} (h : IsReq r) : 1 ≤ r ∧ r ≤ 1000 := by rcases h with rfl | rfl | rfl <;> omega
theorem goodB_name {r : Int} {k : Nat} (hr : IsReq r) (hk : k < 12) : GoodB (nameB r k) := ⟨⟨r, hr.bd, name_read hr hk, name_rq hr hk⟩, (name_len hr hk).1⟩
theorem goodB_req {l : List UInt8} (h : GoodB l) : reqL l = rq30 l ∧ 1 ≤ reqL l ∧ reqL l ≤ 1000 := by
  obtain ⟨r, h1, h2, h3⟩ := h.rd
  rw [reqL_of h2, h3]; exact ⟨rfl, h1⟩
theorem ups_req30 {l a : List UInt8} (h : GoodB l) (ha : a ∈ ups l) : reqL a = reqL l := by
  obtain ⟨r, h1, h2, h3⟩ := h.rd
  have := ups_ind (P := fun x => readL x = some (r, true)) (fun x hx hu => up_read hx hu) h2 a ha
  rw [reqL_of this, reqL_of h2]
/-- The span of a number. -/
def req30 (k : Nat) : Int := if k % 3 = 0 then 1 else if k % 3 = 1 then 2 else 11
def spK (k : Nat) : Spn := ⟨bs (nameB (req30 k) (k / 3 % 12)), 1 + ((k / 36 % 4 : Nat) : Int), ((k / 144 % 50 : Nat) : Int), ((k / 144 % 50 + k / 21600 % 9 : Nat) : Int), decide (0 < k / 7200 % 3), ((k / 36 % 3 : Nat) : Int)⟩
def sp30 (n : Int) : Spn := spK (around n 100000)
def spans30 (l : List Int) : List Spn := (l.take 16).map sp30
structure GoodS (s : Spn) : Prop where
  nm : GoodB (nmB s)
  serv : 0 ≤ s.serv ∧ s.serv ≤ 99
  frm : 0 ≤ s.frm ∧ s.frm ≤ 99
  til : 0 ≤ s.til ∧ s.til ≤ 99
theorem isReq30 (k : Nat) : IsReq (req30 k) := by
  unfold req30
  split
  · exact .inl rfl
  · split
    · exact .inr (.inl rfl)
    · exact .inr (.inr rfl)
theorem goodK (k : Nat) : GoodS (spK k) := by
  refine ⟨?_, ?_, ?_, ?_⟩
  · show GoodB (nmB (spK k))
    exact goodB_name (isReq30 k) (Nat.mod_lt _ (by decide))
  · show 0 ≤ 1 + ((k / 36 % 4 : Nat) : Int) ∧ 1 + ((k / 36 % 4 : Nat) : Int) ≤ 99
    omega
  · show 0 ≤ ((k / 144 % 50 : Nat) : Int) ∧ ((k / 144 % 50 : Nat) : Int) ≤ 99
    omega
  · show 0 ≤ ((k / 144 % 50 + k / 21600 % 9 : Nat) : Int) ∧ ((k / 144 % 50 + k / 21600 % 9 : Nat) : Int) ≤ 99
    omega
theorem good30 (n : Int) : GoodS (sp30 n) := goodK _
theorem goods30 (l : List Int) : ∀ s ∈ spans30 l, GoodS s := fun s hs => by
  unfold spans30 at hs
  obtain ⟨n, _, rfl⟩ := List.mem_map.1 hs
  exact good30 n
theorem spans30_len (l : List Int) : (spans30 l).length ≤ 16 := by unfold spans30; rw [List.length_map, List.length_take]; omega
theorem goods_size {s : Spn} (h : GoodS s) : s.name.size ≤ 16 := by have := h.nm.len; unfold nmB at this; rwa [ba_len] at this
end Go.Proofs.YtpgcfeplcibhoaaDoor
set_option linter.unusedVariables false
namespace Go.Proofs.YtpgcfeplcibhoaaDoor
open Go.RowKit

def pick3 (k : Nat) : Int := if k = 0 then 1 else if k = 1 then 2 else 11
theorem pick_req (k : Nat) : IsReq (pick3 k) := by
  unfold pick3
  split
  · exact .inl rfl
  · split
    · exact .inr (.inl rfl)
    · exact .inr (.inr rfl)
theorem pick_cell (w : World) (k : Nat) (hk : k < 3) : (w.alloc (.cells #[.int .i64 1, .int .i64 2, .int .i64 11] 3)).cell? ⟨w.heap.size, k, none⟩ = some (.int .i64 (pick3 k)) := by
  rw [(Blk.made w #[.int .i64 1, .int .i64 2, .int .i64 11] 3).cell k]
  have : k = 0 ∨ k = 1 ∨ k = 2 := by omega
  rcases this with rfl | rfl | rfl <;> rfl
end Go.Proofs.YtpgcfeplcibhoaaDoor
