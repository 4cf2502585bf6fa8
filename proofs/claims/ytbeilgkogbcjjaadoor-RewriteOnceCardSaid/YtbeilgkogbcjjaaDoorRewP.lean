/- Plain: what a path becomes. -/
import Derived.Test.YtbeilgkogbcjjaaDoorPathP
set_option linter.unusedVariables false
namespace Go.Proofs.YtbeilgkogbcjjaaDoor

theorem PartsOk.drop {a : List (List UInt8)} (h : PartsOk a) (k : Nat) : PartsOk (a.drop k) := fun p hp => h p (List.mem_of_mem_drop hp)
theorem PartsOk.app {a b : List (List UInt8)} (ha : PartsOk a) (hb : PartsOk b) : PartsOk (a ++ b) := fun p hp => by
  rcases List.mem_append.1 hp with h | h
  · exact ha p h
  · exact hb p h
/-- A path that is too long stays what it was. -/
def fit (path o : List UInt8) : List UInt8 := if 60 < o.length then path else o
def fin (path o : List UInt8) : List UInt8 := if o = [] then [47] else fit path o
/-- The program's: parts put behind one another. -/
def rewP (pfx : List UInt8) (b : List (List UInt8)) (ex : Bool) (path : List UInt8) : List UInt8 :=
  if pfx = [] then path
  else if (isPathL path && (if ex then decide (pathOf b = path) else beginsL path (pathOf b))) = false then path
  else if ex then pfx
  else fin path (joinP (partsL pfx) ++ joinP ((partsL path).drop b.length))
/-- The document's: the beginning is replaced. -/
def leftL (mp path : List UInt8) : List UInt8 := if mp = [47] then path else path.drop mp.length
def noSlash (l : List UInt8) : List UInt8 := if l = [47] then [] else l
def withP (pfx left : List UInt8) : List UInt8 := if pfx = [47] then left else pfx ++ left
def orSlash (l : List UInt8) : List UInt8 := if l = [] then [47] else l
def refP (pfx mp : List UInt8) (ex : Bool) (path : List UInt8) : List UInt8 :=
  if pfx = [] then path
  else if ex then (if path = mp then pfx else path)
  else if beginsL path mp = false then path
  else fit path (orSlash (withP pfx (noSlash (leftL mp path))))

theorem join_nil {ps : List (List UInt8)} : joinP ps = [] ↔ ps = [] := by
  cases ps with
  | nil => simp [joinP]
  | cons p t => rw [joinP_cons]; simp
theorem left_path {b r : List (List UInt8)} (hb : PartsOk b) (hr : PartsOk r) : noSlash (leftL (pathOf b) (pathOf (b ++ r))) = joinP r := by
  unfold noSlash leftL
  by_cases hbn : b = []
  · subst hbn
    rw [if_pos (show pathOf [] = [47] from rfl), List.nil_append]
    by_cases hrn : r = []
    · subst hrn; rfl
    · rw [pathOf_ne hrn, if_neg (join_ne47 hr)]
  · rw [pathOf_ne hbn, if_neg (join_ne47 hb), pathOf_ne (by simp [hbn]), joinP_app, List.drop_left, if_neg (join_ne47 hr)]
theorem with_path {c r : List (List UInt8)} (hc : PartsOk c) : orSlash (withP (pathOf c) (joinP r)) = pathOf (c ++ r) := by
  unfold orSlash withP
  by_cases hcn : c = []
  · subst hcn
    rw [if_pos (show pathOf [] = [47] from rfl), List.nil_append]
    unfold pathOf
    by_cases hr : r = []
    · rw [if_pos (join_nil.2 hr), if_pos hr]
    · rw [if_neg (fun e => hr (join_nil.1 e)), if_neg hr]
  · rw [pathOf_ne hcn, if_neg (join_ne47 hc), ← joinP_app, if_neg (fun e => by have := join_nil.1 e; simp [hcn] at this), pathOf_ne (by simp [hcn])]
theorem fin_path (path : List UInt8) (q : List (List UInt8)) : fin path (joinP q) = fit path (pathOf q) := by
  unfold fin
  by_cases hq : q = []
  · subst hq; rfl
  · rw [if_neg (fun e => hq (join_nil.1 e)), pathOf_ne hq]
theorem pathOf_nonempty (c : List (List UInt8)) : pathOf c ≠ [] := by
  unfold pathOf
  split
  · simp
  · rename_i h; exact fun e => h (join_nil.1 e)
theorem rewP_path {a b c : List (List UInt8)} (ha : PartsOk a) (hb : PartsOk b) (hc : PartsOk c) (hl : (pathOf a).length ≤ 60) :
    rewP (pathOf c) b false (pathOf a) = if b.isPrefixOf a then fit (pathOf a) (pathOf (c ++ a.drop b.length)) else pathOf a := by
  unfold rewP
  rw [if_neg (pathOf_nonempty c), isPath_of ha hl, Bool.true_and, if_neg Bool.false_ne_true, if_neg Bool.false_ne_true, begins_path ha hb, parts_path hc, parts_path ha, ← joinP_app, fin_path]
  cases b.isPrefixOf a <;> rfl
theorem refP_path {a b c : List (List UInt8)} (ha : PartsOk a) (hb : PartsOk b) (hc : PartsOk c) :
    refP (pathOf c) (pathOf b) false (pathOf a) = if b.isPrefixOf a then fit (pathOf a) (pathOf (c ++ a.drop b.length)) else pathOf a := by
  unfold refP
  rw [if_neg (pathOf_nonempty c), if_neg Bool.false_ne_true, begins_path ha hb]
  cases h : b.isPrefixOf a
  · rfl
  · rw [if_neg (by simp), if_pos rfl]
    rw [List.isPrefixOf_iff_prefix] at h
    obtain ⟨r, rfl⟩ := h
    rw [left_path hb (by have := ha.drop b.length; rwa [List.drop_left] at this), with_path hc, List.drop_left]
/-- On a path the program's is the document's. -/
theorem rew_ref {b : List (List UInt8)} {pfx path : List UInt8} {ex : Bool} (hb : PartsOk b) (hpfx : pfx = [] ∨ ∃ c, PartsOk c ∧ pfx = pathOf c) (hp : isPathL path = true) : rewP pfx b ex path = refP pfx (pathOf b) ex path := by
  rcases hpfx with rfl | ⟨c, hc, rfl⟩
  · unfold rewP refP; rw [if_pos rfl, if_pos rfl]
  · obtain ⟨a, ha, rfl, hl⟩ := (isPath_iff path).1 hp
    cases ex
    · rw [rewP_path ha hb hc hl, refP_path ha hb hc]
    · unfold rewP refP
      rw [if_neg (pathOf_nonempty c), if_neg (pathOf_nonempty c), hp, Bool.true_and]
      simp only [↓reduceIte]
      by_cases e : pathOf b = pathOf a
      · rw [if_neg (by rw [e]; simp), if_pos e.symm]
      · rw [if_pos (decide_eq_false e), if_neg (fun h => e h.symm)]
/-- What is no path, or is not matched, stays. -/
theorem rew_off {b : List (List UInt8)} {pfx path : List UInt8} {ex : Bool} (h : (isPathL path && (if ex then decide (pathOf b = path) else beginsL path (pathOf b))) = false) : rewP pfx b ex path = path := by
  unfold rewP
  by_cases hp : pfx = []
  · rw [if_pos hp]
  · rw [if_neg hp, if_pos h]
theorem fit_path {a q : List (List UInt8)} (ha : PartsOk a) (hq : PartsOk q) (hl : (pathOf a).length ≤ 60) : isPathL (fit (pathOf a) (pathOf q)) = true := by
  unfold fit
  split
  · exact isPath_of ha hl
  · exact isPath_of hq (by omega)
/-- What a path becomes is a path. -/
theorem rew_stays {b : List (List UInt8)} {pfx path : List UInt8} {ex : Bool} (hb : PartsOk b) (hpfx : pfx = [] ∨ ∃ c, PartsOk c ∧ pfx = pathOf c) (hpl : pfx.length ≤ 60) (hp : isPathL path = true) : isPathL (rewP pfx b ex path) = true := by
  rcases hpfx with rfl | ⟨c, hc, rfl⟩
  · unfold rewP; rw [if_pos rfl]; exact hp
  · obtain ⟨a, ha, rfl, hl⟩ := (isPath_iff path).1 hp
    cases ex
    · rw [rewP_path ha hb hc hl]
      split
      · exact fit_path ha (hc.app (ha.drop _)) hl
      · exact hp
    · unfold rewP
      rw [if_neg (pathOf_nonempty c), if_pos rfl]
      split
      · exact hp
      · rw [if_pos rfl]; exact isPath_of hc hpl
theorem rew_exact {b : List (List UInt8)} {pfx path : List UInt8} (hpfx : pfx ≠ []) (h : (isPathL path && decide (pathOf b = path)) = true) : rewP pfx b true path = pfx := by
  unfold rewP
  rw [if_neg hpfx, if_pos rfl, if_neg (by rw [h]; simp), if_pos rfl]
/-- What a path became, and is another one: replaced. -/
theorem rew_other {a b c : List (List UInt8)} (ha : PartsOk a) (hb : PartsOk b) (hc : PartsOk c) (hl : (pathOf a).length ≤ 60) (h : rewP (pathOf c) b false (pathOf a) ≠ pathOf a) :
    ∃ r, a = b ++ r ∧ PartsOk r ∧ (pathOf (c ++ r)).length ≤ 60 ∧ rewP (pathOf c) b false (pathOf a) = pathOf (c ++ r) := by
  rw [rewP_path ha hb hc hl] at h ⊢
  cases hp : b.isPrefixOf a
  · rw [hp] at h; exact absurd rfl h
  · rw [hp, if_pos rfl] at h
    rw [if_pos rfl]
    rw [List.isPrefixOf_iff_prefix] at hp
    obtain ⟨r, rfl⟩ := hp
    rw [List.drop_left] at h ⊢
    unfold fit at h ⊢
    by_cases h6 : 60 < (pathOf (c ++ r)).length
    · rw [if_pos h6] at h; exact absurd rfl h
    · refine ⟨r, rfl, ?_, by omega, by rw [if_neg h6]⟩
      have := ha.drop b.length
      rwa [List.drop_left] at this
theorem rew_back {a b c : List (List UInt8)} (ha : PartsOk a) (hb : PartsOk b) (hc : PartsOk c) (hl : (pathOf a).length ≤ 60) (h : rewP (pathOf c) b false (pathOf a) ≠ pathOf a) :
    rewP (pathOf b) c false (rewP (pathOf c) b false (pathOf a)) = pathOf a := by
  obtain ⟨r, rfl, hr, hq, e⟩ := rew_other ha hb hc hl h
  rw [e, rewP_path (hc.app hr) hc hb hq, if_pos (by rw [List.isPrefixOf_iff_prefix]; exact ⟨_, rfl⟩), List.drop_left]
  unfold fit
  rw [if_neg (by omega)]
theorem rew_begins {a a2 b c : List (List UInt8)} (ha : PartsOk a) (ha2 : PartsOk a2) (hb : PartsOk b) (hc : PartsOk c) (hl : (pathOf a).length ≤ 60) (hl2 : (pathOf (a ++ a2)).length ≤ 60)
    (h : rewP (pathOf c) b false (pathOf a) ≠ pathOf a) (h2 : rewP (pathOf c) b false (pathOf (a ++ a2)) ≠ pathOf (a ++ a2)) :
    isPathL (rewP (pathOf c) b false (pathOf (a ++ a2))) = true ∧ beginsL (rewP (pathOf c) b false (pathOf (a ++ a2))) (rewP (pathOf c) b false (pathOf a)) = true := by
  obtain ⟨r, rfl, hr, hq, e⟩ := rew_other ha hb hc hl h
  obtain ⟨r2, e2, hr2, hq2, e3⟩ := rew_other (ha.app ha2) hb hc hl2 h2
  rw [e, e3]
  refine ⟨isPath_of (hc.app hr2) hq2, ?_⟩
  rw [begins_path (hc.app hr2) (hc.app hr), List.isPrefixOf_iff_prefix]
  rw [List.append_assoc] at e2
  have := List.append_cancel_left e2
  rw [← this]
  exact ⟨a2, by rw [List.append_assoc]⟩
theorem rew_same {b : List (List UInt8)} {path : List UInt8} {ex : Bool} (hb : PartsOk b) (hp : isPathL path = true) : rewP (pathOf b) b ex path = path := by
  obtain ⟨a, ha, rfl, hl⟩ := (isPath_iff path).1 hp
  cases ex
  · rw [rewP_path ha hb hb hl]
    cases h : b.isPrefixOf a
    · rfl
    · rw [if_pos rfl]
      rw [List.isPrefixOf_iff_prefix] at h
      obtain ⟨r, rfl⟩ := h
      rw [List.drop_left]
      unfold fit
      split <;> rfl
  · unfold rewP
    rw [if_neg (pathOf_nonempty b), hp, Bool.true_and]
    simp only [↓reduceIte]
    by_cases e : pathOf b = pathOf a
    · rw [if_neg (by rw [e]; simp), e]
    · rw [if_pos (decide_eq_false e)]
theorem chain_slash : ∀ (r : List UInt8) (p : Bool), chain (r ++ [47]) p = false := by
  have h47 : okB 47 = false := by decide
  intro r
  induction r with
  | nil => intro p; cases p <;> simp [chain, h47]
  | cons c r ih =>
    intro p
    rw [List.cons_append, chain]
    split
    · exact ih _
    · split
      · exact ih _
      · rfl
theorem path_len {s : List UInt8} (h : isPathL s = true) : s.length ≤ 60 := by
  obtain ⟨_, _, _, hl⟩ := (isPath_iff s).1 h
  exact hl
/-- A path behind a path: what comes is not the path of no parts. -/
theorem app_path {u v : List (List UInt8)} (hu : PartsOk u) (hv : PartsOk v) (hne : u ≠ []) (hp : isPathL (pathOf u ++ pathOf v) = true) : v ≠ [] ∧ pathOf u ++ pathOf v = pathOf (u ++ v) := by
  by_cases hv0 : v = []
  · exfalso
    subst hv0
    rw [pathOf_ne hne, show pathOf [] = [47] from rfl] at hp
    obtain ⟨p, t, rfl⟩ : ∃ p t, u = p :: t := by cases u with | nil => exact absurd rfl hne | cons p t => exact ⟨p, t, rfl⟩
    rw [joinP_cons] at hp
    unfold isPathL at hp
    obtain ⟨h, t2, e⟩ := cutL_ne (47 :: (p ++ joinP t) ++ [47]).tail
    have hc : chain ((p ++ joinP t) ++ [47]) true = (okPart h && t2.all okPart) := (chain_cut _ h t2 e).1
    rw [chain_slash] at hc
    rw [e, List.all_cons, ← hc] at hp
    have hq := okPart_ne (hu p List.mem_cons_self)
    cases p with
    | nil => exact hq rfl
    | cons a l => simp at hp
  · exact ⟨hv0, by rw [pathOf_ne hne, pathOf_ne hv0, pathOf_ne (by simp [hne]), joinP_app]⟩
theorem rew_small {pfx path : List UInt8} {b : List (List UInt8)} {ex : Bool} (hp : pfx.length ≤ 1000) (hl : path.length ≤ 1000) : (bs (rewP pfx b ex path)).size ≤ 1000 := by
  rw [bs_size]
  unfold rewP fin fit
  repeat' split
  all_goals first | exact hl | exact hp | (simp; done) | omega
end Go.Proofs.YtbeilgkogbcjjaaDoor
