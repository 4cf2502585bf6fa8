/- Nodes of a tree, and the order of names. What Tree tells, plainly: the nodes. put of the reference: a node into a row that is sorted by name. What is missing, in plain: what is around what came, and did not come. The tree of a collector, plainly: each name once, rising. -/
import Derived.Test.YtpgcfeplcibhoaaDoorColMissC
import Derived.Lib.Bytealg
import Derived.Deep.RegionLaw
import Derived.Deep.RegionHeld3
import Derived.Deep.DeepCutAuto
import Derived.StillTailTactics
import Derived.RegionTactic
set_option linter.unusedVariables false
set_option linter.unusedSimpArgs false
namespace Go.Proofs.YtpgcfeplcibhoaaDoor
open Go.RowKit

structure Nod where
  name : ByteArray
  miss : Bool
  s : Spn
instance : Inhabited Nod := ⟨⟨⟨#[]⟩, false, spn0⟩⟩
def nodL (x : Nod) : List Value := [.string x.name, .bool x.miss, .string x.s.name, .int .i64 x.s.serv, .int .i64 x.s.frm, .int .i64 x.s.til, .bool x.s.well, .int .i64 x.s.kids]
def nodE : Enc Nod := ⟨nodL, 8, fun _ => rfl, fun s u h => by simp [nodL] at h; rcases h with rfl | rfl | rfl | rfl | rfl | rfl | rfl | rfl <;> rfl⟩
theorem info_nod : (Tryd.prog.info? 49).map (fun i => (i.zero, i.size, i.bytes)) = some (some (.agg #[.string ⟨#[]⟩, .bool false, .string ⟨#[]⟩, .int .i64 0, .int .i64 0, .int .i64 0, .bool false, .int .i64 0]), 8, 80) := by kernel_rfl
theorem info_rnod : (Tryd.prog.info? 37).map (fun i => (i.zero, i.size, i.bytes)) = some (some (.agg #[.string ⟨#[]⟩, .bool false, .string ⟨#[]⟩, .int .i64 0, .int .i64 0, .int .i64 0, .bool false, .int .i64 0]), 8, 80) := by kernel_rfl

theorem cmp_self : ∀ a : List UInt8, Lib.compareBytes a a = 0
  | [] => rfl
  | a :: r => by unfold Lib.compareBytes; simp [cmp_self r]
theorem cmp_eq0 : ∀ a b : List UInt8, Lib.compareBytes a b = 0 → a = b
  | [], [], _ => rfl
  | [], b :: y, h => by simp [Lib.compareBytes] at h
  | a :: x, [], h => by simp [Lib.compareBytes] at h
  | a :: x, b :: y, h => by
    unfold Lib.compareBytes at h
    by_cases h1 : a < b
    · simp [h1] at h
    · by_cases h2 : b < a
      · simp [h1, h2] at h
      · rw [if_neg h1, if_neg h2] at h
        have : a = b := UInt8.le_antisymm (UInt8.not_lt.1 h2) (UInt8.not_lt.1 h1)
        rw [this, cmp_eq0 x y h]
theorem cmp_neg : ∀ a b : List UInt8, Lib.compareBytes a b = - Lib.compareBytes b a
  | [], [] => rfl
  | [], b :: y => by simp [Lib.compareBytes]
  | a :: x, [] => by simp [Lib.compareBytes]
  | a :: x, b :: y => by
    unfold Lib.compareBytes
    by_cases h1 : a < b
    · have h2 : ¬ b < a := UInt8.lt_asymm h1
      simp [h1, h2]
    · by_cases h2 : b < a
      · simp [h1, h2]
      · rw [if_neg h1, if_neg h2, if_neg h2, if_neg h1]; exact cmp_neg x y
theorem cmp_trans : ∀ a b c : List UInt8, Lib.compareBytes a b < 0 → Lib.compareBytes b c < 0 → Lib.compareBytes a c < 0
  | [], [], c, h, _ => by simp [Lib.compareBytes] at h
  | [], b :: y, [], _, h => by simp [Lib.compareBytes] at h
  | [], b :: y, c :: z, _, _ => by simp [Lib.compareBytes]
  | a :: x, [], c, h, _ => by simp [Lib.compareBytes] at h
  | a :: x, b :: y, [], _, h => by simp [Lib.compareBytes] at h
  | a :: x, b :: y, c :: z, h1, h2 => by
    unfold Lib.compareBytes at h1 h2 ⊢
    by_cases e1 : a < b
    · by_cases e2 : b < c
      · rw [if_pos (UInt8.lt_trans e1 e2)]; decide
      · by_cases e3 : c < b
        · rw [if_neg e2, if_pos e3] at h2; simp at h2
        · have : b = c := UInt8.le_antisymm (UInt8.not_lt.1 e3) (UInt8.not_lt.1 e2)
          subst this
          rw [if_pos e1]; decide
    · by_cases e1' : b < a
      · rw [if_neg e1, if_pos e1'] at h1; simp at h1
      · have : a = b := UInt8.le_antisymm (UInt8.not_lt.1 e1') (UInt8.not_lt.1 e1)
        subst this
        by_cases e2 : a < c
        · rw [if_pos e2]; decide
        · by_cases e3 : c < a
          · rw [if_neg e2, if_pos e3] at h2; simp at h2
          · rw [if_neg e1, if_neg e1'] at h1
            rw [if_neg e2, if_neg e3] at h2 ⊢
            exact cmp_trans x y z h1 h2
/-- The order of names. -/
def cfN (x y : Nod) : Int := Lib.compareBytes x.name.data.toList y.name.data.toList
end Go.Proofs.YtpgcfeplcibhoaaDoor
set_option linter.unusedVariables false
namespace Go.Proofs.YtpgcfeplcibhoaaDoor
open Go.RowKit

def missL (L : List Spn) (r : Int) : List ByteArray := misS L (seenL [] (namesL L r))
def cameN (L : List Spn) (nm : ByteArray) : Nod := ⟨nm, false, (fndS L nm.data.toList).getD spn0⟩
def goneN (nm : ByteArray) : Nod := ⟨nm, true, spn0⟩
def nodesL (L : List Spn) (r : Int) : List Nod := (namesL L r).map (cameN L) ++ (missL L r).map goneN
theorem map_take_snoc {α β : Type} (f : α → β) (l : List α) (j : Nat) (x : α) (hx : l[j]? = some x) : (l.take (j + 1)).map f = (l.take j).map f ++ [f x] := by
  rw [List.take_add_one, hx, List.map_append]; rfl
end Go.Proofs.YtpgcfeplcibhoaaDoor
set_option linter.unusedVariables false
set_option linter.unusedSimpArgs false
namespace Go.Proofs.YtpgcfeplcibhoaaDoor
open Go.RowKit

theorem less_cmp : ∀ a b : List UInt8, Op.bytesLess a b = decide (Lib.compareBytes a b < 0)
  | [], [] => by simp [Op.bytesLess, Lib.compareBytes]
  | [], b :: y => by simp [Op.bytesLess, Lib.compareBytes]
  | a :: x, [] => by simp [Op.bytesLess, Lib.compareBytes]
  | a :: x, b :: y => by
    unfold Op.bytesLess Lib.compareBytes
    have ih := less_cmp x y
    by_cases h1 : a < b
    · simp [h1]
    · by_cases h2 : b < a
      · have h3 : ¬ a = b := fun e => h1 (by rw [← e] at h2; exact absurd h2 (UInt8.lt_irrefl a))
        simp [h1, h2, h3]
      · have h3 : a = b := UInt8.le_antisymm (UInt8.not_lt.1 h2) (UInt8.not_lt.1 h1)
        subst h3
        simp [h1, ih]
theorem less_name (x y : Nod) : Op.bytesLess x.name.toList y.name.toList = decide (cfN x y < 0) := by
  rw [ByteArray.toList_eq, ByteArray.toList_eq, less_cmp]; rfl
def putL : List Nod → Nod → List Nod
  | [], x => [x]
  | a :: r, x => if cfN a x < 0 then a :: putL r x else if a.name = x.name then a :: r else x :: a :: r
theorem putL_at : ∀ (l : List Nod) (x : Nod) (i : Nat), i ≤ l.length → (∀ k y, k < i → l[k]? = some y → cfN y x < 0) → (∀ y, l[i]? = some y → ¬ cfN y x < 0) →
    putL l x = match l[i]? with
      | none => l.take i ++ [x] ++ l.drop i
      | some y => if y.name = x.name then l else l.take i ++ [x] ++ l.drop i
  | [], x, i, hi, _, _ => by
    have : i = 0 := by simpa using hi
    subst this; rfl
  | a :: r, x, 0, hi, hk, hy => by
    have := hy a rfl
    show (if cfN a x < 0 then _ else _) = _
    rw [if_neg this]; rfl
  | a :: r, x, i + 1, hi, hk, hy => by
    have h0 := hk 0 a (by omega) rfl
    have ih := putL_at r x i (by simpa using hi) (fun k y h1 h2 => hk (k + 1) y (by omega) (by simpa using h2)) (fun y h => hy y (by simpa using h))
    show (if cfN a x < 0 then _ else _) = _
    rw [if_pos h0, ih]
    simp only [List.getElem?_cons_succ, List.take_succ_cons, List.drop_succ_cons]
    cases r[i]? with
    | none => rfl
    | some y => by_cases h : y.name = x.name <;> simp [h]
end Go.Proofs.YtpgcfeplcibhoaaDoor
set_option linter.unusedVariables false
namespace Go.Proofs.YtpgcfeplcibhoaaDoor
open Go.RowKit

/-- Closed: with a name all that is around it. -/
def UpClosed (S : List (List UInt8)) : Prop := ∀ a ∈ S, ∀ b ∈ ups a, b ∈ S
def UpList : List (List UInt8) → Prop
  | [] => True
  | a :: r => ups a = r ∧ UpList r
theorem ups_list : ∀ (k : Nat) (l : List UInt8), l.length ≤ k → UpList (ups l)
  | 0, l, h => by
    have : upL l = [] := by
      by_cases h0 : upL l = []
      · exact h0
      · have := upL_len h0; omega
    rw [ups_nil this]; trivial
  | k + 1, l, h => by
    by_cases h0 : upL l = []
    · rw [ups_nil h0]; trivial
    · rw [ups_cons h0]
      exact ⟨rfl, ups_list k _ (by have := upL_len h0; omega)⟩
theorem not_self_up (a : List UInt8) : a ∉ ups a := fun h => by have := (ups_len h).1; omega
theorem addUps_mem : ∀ (l S pre : List (List UInt8)), UpClosed S → UpList l → (∀ p ∈ pre, p ∉ l) → ∀ x, x ∈ addUps (S ++ pre) l ↔ x ∈ S ∨ x ∈ pre ∨ x ∈ l
  | [], S, pre, _, _, _, x => by simp [addUps]
  | a :: r, S, pre, hS, hl, hp, x => by
    obtain ⟨hu, hr⟩ := hl
    unfold addUps
    by_cases h : a ∈ S ++ pre
    · rw [if_pos h]
      have haS : a ∈ S := by
        rcases List.mem_append.1 h with h1 | h1
        · exact h1
        · exact absurd (List.mem_cons_self) (hp a h1)
      rw [List.mem_append]
      constructor
      · rintro (h1 | h1)
        · exact .inl h1
        · exact .inr (.inl h1)
      · rintro (h1 | h1 | h1)
        · exact .inl h1
        · exact .inr h1
        · rcases List.mem_cons.1 h1 with rfl | h1
          · exact .inl haS
          · exact .inl (hS a haS x (by rw [hu]; exact h1))
    · rw [if_neg h, List.append_assoc, addUps_mem r S (pre ++ [a]) hS hr (fun p hpp hpr => ?_) x]
      · simp only [List.mem_append, List.mem_cons, List.mem_nil_iff, or_false, or_assoc]
      · rcases List.mem_append.1 hpp with h1 | h1
        · exact hp p h1 (List.mem_cons_of_mem _ hpr)
        · simp at h1; subst h1
          exact not_self_up p (by rw [hu]; exact hpr)
theorem addUps_nodup : ∀ (l S : List (List UInt8)), S.Nodup → (addUps S l).Nodup
  | [], S, h => h
  | a :: r, S, h => by
    unfold addUps
    by_cases ha : a ∈ S
    · rw [if_pos ha]; exact h
    · rw [if_neg ha]
      refine addUps_nodup r _ ?_
      rw [List.nodup_append]
      exact ⟨h, by simp, fun x hx y hy e => by simp at hy; subst hy; subst e; exact ha hx⟩
theorem addUps_ups (S : List (List UInt8)) (nm : List UInt8) (hS : UpClosed S) : UpClosed (addUps S (ups nm)) ∧ ∀ x, x ∈ addUps S (ups nm) ↔ x ∈ S ∨ x ∈ ups nm := by
  have key : ∀ x, x ∈ addUps S (ups nm) ↔ x ∈ S ∨ x ∈ ups nm := fun x => by
    have := addUps_mem (ups nm) S [] hS (ups_list _ nm (Nat.le_refl _)) (fun p hp => by simp at hp) x
    rw [List.append_nil] at this
    rw [this]; simp
  refine ⟨fun a ha b hb => ?_, key⟩
  rw [key] at ha ⊢
  rcases ha with h | h
  · exact .inl (hS a h b hb)
  · exact .inr (ups_trans hb h)
theorem seenL_mem : ∀ (nms : List ByteArray) (S : List (List UInt8)), UpClosed S → S.Nodup → (seenL S nms).Nodup ∧ UpClosed (seenL S nms) ∧ ∀ x, x ∈ seenL S nms ↔ x ∈ S ∨ ∃ nm ∈ nms, x ∈ ups nm.data.toList
  | [], S, hS, hn => ⟨hn, hS, fun x => by simp [seenL]⟩
  | nm :: r, S, hS, hn => by
    obtain ⟨h1, h2⟩ := addUps_ups S nm.data.toList hS
    obtain ⟨a1, a2, a3⟩ := seenL_mem r (addUps S (ups nm.data.toList)) h1 (addUps_nodup _ _ hn)
    refine ⟨a1, a2, fun x => ?_⟩
    show x ∈ seenL (addUps S (ups nm.data.toList)) r ↔ _
    rw [a3, h2]
    simp [or_assoc]
/-- What is missing. -/
theorem missL_mem (L : List Spn) (r : Int) (x : ByteArray) : x ∈ missL L r ↔ (∃ nm ∈ namesL L r, x.data.toList ∈ ups nm.data.toList) ∧ fndS L x.data.toList = none := by
  unfold missL misS
  have h := (seenL_mem (namesL L r) [] (fun a ha => by simp at ha) List.nodup_nil).2.2
  rw [List.mem_map]
  constructor
  · rintro ⟨a, ha, rfl⟩
    rw [List.mem_filter, h] at ha
    obtain ⟨ha1, ha2⟩ := ha
    simp only [List.not_mem_nil, false_or] at ha1
    exact ⟨ha1, Option.isNone_iff_eq_none.1 ha2⟩
  · rintro ⟨h1, h2⟩
    refine ⟨x.data.toList, ?_, rfl⟩
    rw [List.mem_filter, h]
    exact ⟨.inr h1, by rw [h2]; rfl⟩
theorem missL_nodup (L : List Spn) (r : Int) : (missL L r).Nodup := by
  unfold missL misS
  refine List.Pairwise.map (R := fun a b : List UInt8 => a ≠ b) bs (fun a b h e => h (bs_inj e)) ?_
  exact List.Pairwise.filter _ (seenL_mem (namesL L r) [] (fun a ha => by simp at ha) List.nodup_nil).1
end Go.Proofs.YtpgcfeplcibhoaaDoor
set_option linter.unusedVariables false
set_option linter.unusedSimpArgs false
namespace Go.Proofs.YtpgcfeplcibhoaaDoor
open Go.RowKit

theorem cf_irr (x : Nod) : ¬ cfN x x < 0 := by unfold cfN; rw [cmp_self]; decide
theorem cf_trans {x y z : Nod} (h1 : cfN x y < 0) (h2 : cfN y z < 0) : cfN x z < 0 := cmp_trans _ _ _ h1 h2
theorem ba_ext {a b : ByteArray} (h : a.data.toList = b.data.toList) : a = b := ByteArray.ext (Array.toList_inj.1 h)
theorem cf_name {x y : Nod} (h1 : ¬ cfN x y < 0) (h2 : ¬ cfN y x < 0) : x.name = y.name := by
  unfold cfN at *
  rw [cmp_neg] at h2
  exact ba_ext (cmp_eq0 _ _ (by omega))
theorem cf_ne {x y : Nod} (h : cfN x y < 0) : x.name ≠ y.name := by
  intro e
  unfold cfN at h
  rw [e, cmp_self] at h
  exact absurd h (by decide)
theorem cf_congr {x y z : Nod} (e : x.name = y.name) : cfN x z = cfN y z ∧ cfN z x = cfN z y := by unfold cfN; rw [e]; exact ⟨rfl, rfl⟩
/-- Rising by name. -/
def Srt (l : List Nod) : Prop := l.Pairwise fun x y => cfN x y < 0
theorem srt_ext : ∀ (a b : List Nod), Srt a → Srt b → (∀ x, x ∈ a ↔ x ∈ b) → a = b
  | [], [], _, _, _ => rfl
  | [], y :: b, _, _, h => by have := (h y).2 (by simp); simp at this
  | x :: a, [], _, _, h => by have := (h x).1 (by simp); simp at this
  | x :: a, y :: b, ha, hb, h => by
    unfold Srt at ha hb
    rw [List.pairwise_cons] at ha hb
    have hxy : x = y := by
      have h1 := (h x).1 (by simp)
      have h2 := (h y).2 (by simp)
      rcases List.mem_cons.1 h1 with e | h1
      · exact e
      · rcases List.mem_cons.1 h2 with e | h2
        · exact e.symm
        · exact absurd (cf_trans (ha.1 y h2) (hb.1 x h1)) (cf_irr x)
    subst hxy
    rw [srt_ext a b ha.2 hb.2 (fun z => ?_)]
    have hz := h z
    simp only [List.mem_cons] at hz
    constructor
    · intro hm
      rcases hz.1 (.inr hm) with rfl | h3
      · exact absurd (ha.1 z hm) (cf_irr z)
      · exact h3
    · intro hm
      rcases hz.2 (.inr hm) with rfl | h3
      · exact absurd (hb.1 z hm) (cf_irr z)
      · exact h3
theorem putL_mem : ∀ (l : List Nod) (x : Nod), Srt l → ∀ y, y ∈ putL l x ↔ y ∈ l ∨ (y = x ∧ ∀ z ∈ l, z.name ≠ x.name)
  | [], x, _, y => by simp [putL]
  | a :: r, x, hs, y => by
    unfold Srt at hs
    rw [List.pairwise_cons] at hs
    show y ∈ (if cfN a x < 0 then _ else _) ↔ _
    by_cases h1 : cfN a x < 0
    · rw [if_pos h1, List.mem_cons, putL_mem r x hs.2 y, List.mem_cons]
      have hne := cf_ne h1
      constructor
      · rintro (h | h | ⟨h2, h3⟩)
        · exact .inl (.inl h)
        · exact .inl (.inr h)
        · refine .inr ⟨h2, fun z hz => ?_⟩
          rcases List.mem_cons.1 hz with rfl | hz
          · exact hne
          · exact h3 z hz
      · rintro ((h | h) | ⟨h2, h3⟩)
        · exact .inl h
        · exact .inr (.inl h)
        · exact .inr (.inr ⟨h2, fun z hz => h3 z (List.mem_cons_of_mem _ hz)⟩)
    · rw [if_neg h1]
      by_cases h2 : a.name = x.name
      · rw [if_pos h2]
        constructor
        · exact .inl
        · rintro (h | ⟨h3, h4⟩)
          · exact h
          · exact absurd h2 (h4 a (by simp))
      · rw [if_neg h2, List.mem_cons]
        have hxa : cfN x a < 0 := by
          rcases Int.lt_or_le (cfN x a) 0 with h | h
          · exact h
          · exact absurd (cf_name h1 (by omega)) h2
        constructor
        · rintro (rfl | h)
          · refine .inr ⟨rfl, fun z hz => ?_⟩
            rcases List.mem_cons.1 hz with rfl | hz
            · exact h2
            · exact (cf_ne (cf_trans hxa (hs.1 z hz))).symm
          · exact .inl h
        · rintro (h | ⟨h, _⟩)
          · exact .inr h
          · exact .inl h
theorem putL_srt : ∀ (l : List Nod) (x : Nod), Srt l → Srt (putL l x)
  | [], x, _ => by unfold Srt; simp [putL]
  | a :: r, x, hs => by
    have hs0 := hs
    unfold Srt at hs
    rw [List.pairwise_cons] at hs
    show Srt (if cfN a x < 0 then _ else _)
    by_cases h1 : cfN a x < 0
    · rw [if_pos h1]
      unfold Srt
      rw [List.pairwise_cons]
      refine ⟨fun y hy => ?_, putL_srt r x hs.2⟩
      rcases (putL_mem r x hs.2 y).1 hy with h | ⟨rfl, _⟩
      · exact hs.1 y h
      · exact h1
    · rw [if_neg h1]
      by_cases h2 : a.name = x.name
      · rw [if_pos h2]; exact hs0
      · rw [if_neg h2]
        have hxa : cfN x a < 0 := by
          rcases Int.lt_or_le (cfN x a) 0 with h | h
          · exact h
          · exact absurd (cf_name h1 (by omega)) h2
        unfold Srt
        rw [List.pairwise_cons]
        refine ⟨fun y hy => ?_, hs0⟩
        rcases List.mem_cons.1 hy with rfl | hy
        · exact hxa
        · exact cf_trans hxa (hs.1 y hy)
def putAll (l xs : List Nod) : List Nod := xs.foldl putL l
theorem putAll_srt (xs : List Nod) : ∀ l, Srt l → Srt (putAll l xs) := by
  induction xs with
  | nil => exact fun l h => h
  | cons x r ih => exact fun l h => ih _ (putL_srt l x h)
theorem putAll_mem (xs : List Nod) : ∀ l, Srt l → ∀ y, y ∈ putAll l xs ↔ y ∈ l ∨ ((∀ z ∈ l, z.name ≠ y.name) ∧ xs.find? (fun z => decide (z.name = y.name)) = some y) := by
  induction xs with
  | nil => intro l h y; simp [putAll]
  | cons x r ih =>
    intro l h y
    show y ∈ putAll (putL l x) r ↔ _
    rw [ih _ (putL_srt l x h), putL_mem l x h, List.find?_cons]
    by_cases e : x.name = y.name
    · rw [decide_eq_true e]
      constructor
      · rintro ((h1 | ⟨rfl, h2⟩) | ⟨h1, h2⟩)
        · exact .inl h1
        · exact .inr ⟨h2, rfl⟩
        · by_cases hz : ∃ z ∈ l, z.name = x.name
          · obtain ⟨z, hz1, hz2⟩ := hz
            exact absurd (hz2.trans e) (h1 z ((putL_mem l x h z).2 (.inl hz1)))
          · refine absurd e (h1 x ((putL_mem l x h x).2 (.inr ⟨rfl, fun z hz1 hz2 => hz ⟨z, hz1, hz2⟩⟩)))
      · rintro (h1 | ⟨h1, h2⟩)
        · exact .inl (.inl h1)
        · simp only [Option.some.injEq] at h2
          subst h2
          exact .inl (.inr ⟨rfl, h1⟩)
    · rw [decide_eq_false e]
      constructor
      · rintro ((h1 | ⟨rfl, h2⟩) | ⟨h1, h2⟩)
        · exact .inl h1
        · exact absurd rfl e
        · exact .inr ⟨fun z hz => h1 z ((putL_mem l x h z).2 (.inl hz)), h2⟩
      · rintro (h1 | ⟨h1, h2⟩)
        · exact .inl (.inl h1)
        · refine .inr ⟨fun z hz => ?_, h2⟩
          rcases (putL_mem l x h z).1 hz with h3 | ⟨rfl, _⟩
          · exact h1 z h3
          · exact e
/-- Each name once. -/
def Once (L : List Spn) : Prop := L.Pairwise fun x y => x.name ≠ y.name
theorem nmB_inj {s t : Spn} : nmB s = nmB t ↔ s.name = t.name := ⟨fun h => ba_ext h, fun h => by unfold nmB; rw [h]⟩
theorem fndS_some {L : List Spn} {l : List UInt8} {s : Spn} (h : fndS L l = some s) : s ∈ L ∧ nmB s = l := by
  unfold fndS at h
  exact ⟨List.mem_of_find?_eq_some h, by have := List.find?_some h; simpa using this⟩
theorem fndS_none {L : List Spn} {l : List UInt8} : fndS L l = none ↔ ∀ s ∈ L, nmB s ≠ l := by
  unfold fndS
  rw [List.find?_eq_none]
  simp
theorem once_fnd : ∀ {L : List Spn}, Once L → ∀ s, s ∈ L ↔ fndS L (nmB s) = some s
  | [], _, s => by simp [fndS]
  | x :: L, h, s => by
    unfold Once at h
    rw [List.pairwise_cons] at h
    have ih := once_fnd h.2 s
    unfold fndS at *
    rw [List.find?_cons, List.mem_cons]
    by_cases e : nmB x = nmB s
    · have eb : (nmB x == nmB s) = true := by simp [e]
      simp only [eb, Option.some.injEq]
      constructor
      · rintro (rfl | hs)
        · rfl
        · exact absurd (nmB_inj.1 e) (h.1 s hs)
      · exact fun e => .inl e.symm
    · have eb : (nmB x == nmB s) = false := by simp [e]
      simp only [eb]
      constructor
      · rintro (rfl | hs)
        · exact absurd rfl e
        · exact ih.1 hs
      · exact fun e => .inr (ih.2 e)
theorem once_take {L : List Spn} (h : Once L) (s : Spn) : Once (takeL L s) := by
  unfold takeL
  split
  · exact h
  · rename_i hi
    unfold Once at *
    rw [List.pairwise_append]
    refine ⟨h, List.pairwise_singleton _ _, fun x hx y hy e => ?_⟩
    simp only [List.mem_singleton] at hy
    subst hy
    unfold isInB at hi
    have : fndS L (nmB y) = none := by cases hf : fndS L (nmB y) with
      | none => rfl
      | some z => rw [hf] at hi; simp at hi
    exact fndS_none.1 this x hx (nmB_inj.2 e)
theorem fnd_take (L : List Spn) (s : Spn) (l : List UInt8) : fndS (takeL L s) l = (fndS L l).or (if nmB s = l then some s else none) := by
  unfold takeL
  cases hi : isInB L s
  · rw [if_neg (by decide)]
    unfold fndS
    rw [List.find?_append]
    congr 1
    by_cases e : nmB s = l <;> simp [e]
  · rw [if_pos rfl]
    by_cases e : nmB s = l
    · subst e
      unfold isInB at hi
      cases hf : fndS L (nmB s) with
      | none => rw [hf] at hi; simp at hi
      | some z => rfl
    · rw [if_neg e]; simp
/-- What a collector has behind spans. -/
def colL (l : List Spn) : List Spn := l.foldl takeL []
theorem once_fold (l : List Spn) : ∀ L, Once L → Once (l.foldl takeL L) := by
  induction l with
  | nil => exact fun L h => h
  | cons x r ih => exact fun L h => ih _ (once_take h x)
theorem once_col (l : List Spn) : Once (colL l) := once_fold l [] List.Pairwise.nil
theorem fnd_fold (l : List Spn) : ∀ (L : List Spn) (k : List UInt8), fndS (l.foldl takeL L) k = (fndS L k).or (fndS l k) := by
  induction l with
  | nil => intro L k; simp [fndS]
  | cons x r ih =>
    intro L k
    show fndS (r.foldl takeL (takeL L x)) k = _
    rw [ih, fnd_take, Option.or_assoc]
    congr 1
    unfold fndS
    rw [List.find?_cons]
    by_cases e : nmB x = k
    · simp [e]
    · have eb : (nmB x == k) = false := by simp [e]
      rw [eb, if_neg e]; rfl
theorem fnd_col (l : List Spn) (k : List UInt8) : fndS (colL l) k = fndS l k := by unfold colL; rw [fnd_fold]; simp [fndS]
theorem col_len (l : List Spn) : ∀ L, (l.foldl takeL L).length ≤ L.length + l.length := by
  induction l with
  | nil => intro L; simp
  | cons x r ih =>
    intro L
    have := ih (takeL L x)
    have h2 : (takeL L x).length ≤ L.length + 1 := by unfold takeL; split <;> simp
    simp only [List.foldl_cons, List.length_cons]; omega
theorem col_mem (l : List Spn) : ∀ (L : List Spn) (s : Spn), s ∈ l.foldl takeL L → s ∈ L ∨ s ∈ l := by
  induction l with
  | nil => exact fun L s h => .inl h
  | cons x r ih =>
    intro L s h
    rcases ih _ s h with h | h
    · unfold takeL at h
      split at h
      · exact .inl h
      · rcases List.mem_append.1 h with h | h
        · exact .inl h
        · simp at h; subst h; exact .inr (by simp)
    · exact .inr (List.mem_cons_of_mem _ h)
/-- A node of the tree of a request, where F tells which span came first of a name. -/
def isT (F : List UInt8 → Option Spn) (r : Int) (x : Nod) : Prop :=
  (x.miss = false ∧ F x.name.data.toList = some x.s ∧ reqL x.name.data.toList = r) ∨
  (x.miss = true ∧ x.s = spn0 ∧ F x.name.data.toList = none ∧ ∃ s, F (nmB s) = some s ∧ rqS s = r ∧ x.name.data.toList ∈ ups (nmB s))
def treeL (L : List Spn) (r : Int) : List Nod := putAll [] (nodesL L r)
theorem tree_srt (L : List Spn) (r : Int) : Srt (treeL L r) := putAll_srt _ _ List.Pairwise.nil
theorem names_mem {L : List Spn} {r : Int} {nm : ByteArray} : nm ∈ namesL L r ↔ ∃ s ∈ L, rqS s = r ∧ s.name = nm := by
  unfold namesL
  rw [List.mem_map]
  constructor
  · rintro ⟨s, hs, rfl⟩
    rw [List.mem_filter] at hs
    exact ⟨s, hs.1, by simpa using hs.2, rfl⟩
  · rintro ⟨s, hs, h, rfl⟩
    exact ⟨s, by rw [List.mem_filter]; exact ⟨hs, by simpa using h⟩, rfl⟩
theorem nodes_mem {L : List Spn} (h : Once L) (r : Int) (x : Nod) : x ∈ nodesL L r ↔ isT (fndS L) r x := by
  unfold nodesL isT
  rw [List.mem_append, List.mem_map, List.mem_map]
  constructor
  · rintro (⟨nm, hn, rfl⟩ | ⟨nm, hn, rfl⟩)
    · obtain ⟨s, hs, hr, rfl⟩ := names_mem.1 hn
      have := (once_fnd h s).1 hs
      refine .inl ⟨rfl, ?_, hr⟩
      show fndS L (nmB s) = some ((fndS L (nmB s)).getD spn0)
      rw [this]; rfl
    · obtain ⟨⟨nm2, h1, h2⟩, h3⟩ := (missL_mem L r nm).1 hn
      obtain ⟨s, hs, hr, rfl⟩ := names_mem.1 h1
      exact .inr ⟨rfl, rfl, h3, s, (once_fnd h s).1 hs, hr, h2⟩
  · rintro (⟨h1, h2, h3⟩ | ⟨h1, h2, h3, s, hs, hr, hu⟩)
    · left
      obtain ⟨hm, hn⟩ := fndS_some h2
      have e : x.s.name = x.name := ba_ext hn
      refine ⟨x.name, names_mem.2 ⟨x.s, hm, by unfold rqS; rw [hn]; exact h3, e⟩, ?_⟩
      obtain ⟨a, b, c⟩ := x
      show Nod.mk a false ((fndS L a.data.toList).getD spn0) = _
      simp only at h1 h2
      rw [h2, h1]; rfl
    · right
      refine ⟨x.name, (missL_mem L r x.name).2 ⟨⟨s.name, names_mem.2 ⟨s, (once_fnd h s).2 hs, hr, rfl⟩, hu⟩, h3⟩, ?_⟩
      obtain ⟨a, b, c⟩ := x
      simp only at h1 h2
      rw [h1, h2]; rfl
theorem isT_name {F : List UInt8 → Option Spn} {r : Int} {x y : Nod} (hx : isT F r x) (hy : isT F r y) (h : x.name = y.name) : x = y := by
  obtain ⟨a, b, c⟩ := x
  obtain ⟨a', b', c'⟩ := y
  simp only at h
  subst h
  rcases hx with ⟨h1, h2, _⟩ | ⟨h1, h2, h3, _⟩ <;> rcases hy with ⟨g1, g2, _⟩ | ⟨g1, g2, g3, _⟩ <;> simp only at *
  · rw [h2] at g2; cases g2; rw [h1, g1]
  · rw [h2] at g3; cases g3
  · rw [h3] at g2; cases g2
  · rw [h1, h2, g1, g2]
theorem tree_mem {L : List Spn} (h : Once L) (r : Int) (x : Nod) : x ∈ treeL L r ↔ isT (fndS L) r x := by
  unfold treeL
  rw [putAll_mem _ _ List.Pairwise.nil]
  simp only [List.not_mem_nil, false_or, false_imp_iff, implies_true, true_and]
  constructor
  · intro hf
    exact (nodes_mem h r x).1 (List.mem_of_find?_eq_some hf)
  · intro hx
    have hm := (nodes_mem h r x).2 hx
    cases hf : (nodesL L r).find? (fun z => decide (z.name = x.name)) with
    | none => rw [List.find?_eq_none] at hf; have := hf x hm; simp at this
    | some y =>
      have h1 := List.find?_some hf
      have h2 := (nodes_mem h r y).1 (List.mem_of_find?_eq_some hf)
      rw [isT_name h2 hx (by simpa using h1)]
/-- A sorted row of the nodes is the tree. -/
theorem perm_tree {L : List Spn} (h : Once L) (r : Int) {l : List Nod} (hp : l.Perm (nodesL L r)) (hs : l.Pairwise fun x y => cfN y x < 0 → False) (hn : (nodesL L r).Pairwise fun x y => x.name ≠ y.name) : l = treeL L r := by
  refine srt_ext _ _ ?_ (tree_srt L r) (fun x => by rw [hp.mem_iff, nodes_mem h, tree_mem h])
  have hn2 : l.Pairwise fun x y => x.name ≠ y.name := (hp.pairwise_iff (fun {x y} h => h.symm)).2 hn
  unfold Srt
  refine (hs.and hn2).imp ?_
  rintro x y ⟨h1, h2⟩
  rcases Int.lt_or_le (cfN x y) 0 with h | h
  · exact h
  · exact absurd (cf_name (by omega) h1) h2
theorem nodes_once {L : List Spn} (h : Once L) (r : Int) : (nodesL L r).Pairwise fun x y => x.name ≠ y.name := by
  unfold nodesL
  rw [List.pairwise_append]
  refine ⟨?_, ?_, ?_⟩
  · rw [List.pairwise_map]
    unfold namesL
    rw [List.pairwise_map]
    exact (h.imp (fun h => h)).filter _
  · rw [List.pairwise_map]
    exact (missL_nodup L r).imp (fun h => h)
  · intro x hx y hy e
    rw [List.mem_map] at hx hy
    obtain ⟨a, ha, rfl⟩ := hx
    obtain ⟨b, hb, rfl⟩ := hy
    obtain ⟨s, hs, _, rfl⟩ := names_mem.1 ha
    have := ((missL_mem L r b).1 hb).2
    have e2 : s.name = b := e
    rw [← e2] at this
    exact fndS_none.1 this s hs rfl
end Go.Proofs.YtpgcfeplcibhoaaDoor
