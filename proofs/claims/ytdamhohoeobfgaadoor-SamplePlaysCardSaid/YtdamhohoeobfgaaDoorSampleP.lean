/- Plain: requests that are held, as layer 29 has them. -/
import Derived.Test.YtdamhohoeobfgaaDoorSpan
import Derived.Test.YtdamhohoeobfgaaDoorTracePlain
set_option linter.unusedVariables false
namespace Go.Proofs.YtdamhohoeobfgaaDoor

theorem snoc_ind {α : Type} {P : List α → Prop} (h0 : P []) (h1 : ∀ l a, P l → P (l ++ [a])) : ∀ l, P l := by
  have key : ∀ l : List α, P l.reverse := fun l => by
    induction l with
    | nil => exact h0
    | cons a l ih => rw [List.reverse_cons]; exact h1 _ _ ih
  intro l
  have := key l.reverse
  rwa [List.reverse_reverse] at this

def rq (s : Spn) : Int := reqL s.name.data.toList
def reqsStep (out : List Int) (s : Spn) : List Int := if rq s ∈ out then out else out ++ [rq s]
/-- The requests of spans, as they came first. -/
def reqsL (L : List Spn) : List Int := L.foldl reqsStep []
def ofL (L : List Spn) (r : Int) : List Spn := L.filter fun s => rq s == r
def othersL (L : List Spn) (r : Int) : List Spn := L.filter fun s => !(rq s == r)
def grpL (L : List Spn) : List (Int × List Spn) := (reqsL L).map fun r => (r, ofL L r)
def fullB (m : Nat) (L : List Spn) (s : Spn) : Bool := !(reqsL L).contains (rq s) && decide (m ≤ (reqsL L).length)
/-- What is held, and what had to go, behind one span more. -/
def addL (m : Nat) (L : List Spn) (s : Spn) : List Spn := if fullB m L s = true then othersL L ((reqsL L).headD 0) ++ [s] else L ++ [s]
def goneL (m : Nat) (L : List Spn) (s : Spn) : List Spn := if fullB m L s = true then ofL L ((reqsL L).headD 0) else []

theorem reqsL_nil : reqsL [] = [] := rfl
theorem reqsL_snoc (L : List Spn) (s : Spn) : reqsL (L ++ [s]) = if rq s ∈ reqsL L then reqsL L else reqsL L ++ [rq s] := by
  unfold reqsL
  rw [List.foldl_append]
  rfl
theorem mem_reqsL (L : List Spn) (r : Int) : r ∈ reqsL L ↔ ∃ s ∈ L, rq s = r := by
  refine snoc_ind (P := fun L => r ∈ reqsL L ↔ ∃ s ∈ L, rq s = r) ?_ ?_ L
  · simp [reqsL_nil]
  · intro L a ih
    rw [reqsL_snoc]
    by_cases h : rq a ∈ reqsL L
    · rw [if_pos h, ih]
      constructor
      · rintro ⟨s, h1, h2⟩; exact ⟨s, by simp [h1], h2⟩
      · rintro ⟨s, h1, h2⟩
        rw [List.mem_append, List.mem_singleton] at h1
        rcases h1 with h1 | rfl
        · exact ⟨s, h1, h2⟩
        · rw [← ih, ← h2]; exact h
    · rw [if_neg h, List.mem_append, List.mem_singleton, ih]
      constructor
      · rintro (⟨s, h1, h2⟩ | rfl)
        · exact ⟨s, by simp [h1], h2⟩
        · exact ⟨a, by simp, rfl⟩
      · rintro ⟨s, h1, h2⟩
        rw [List.mem_append, List.mem_singleton] at h1
        rcases h1 with h1 | rfl
        · exact .inl ⟨s, h1, h2⟩
        · exact .inr h2.symm
theorem reqsL_nodup (L : List Spn) : (reqsL L).Nodup := by
  refine snoc_ind (P := fun L => (reqsL L).Nodup) ?_ ?_ L
  · simp [reqsL_nil]
  · intro L a ih
    rw [reqsL_snoc]
    split
    · exact ih
    · rename_i h
      rw [List.nodup_append]
      exact ⟨ih, by simp, fun x hx y hy e => h (by rw [List.mem_singleton] at hy; rw [← hy, ← e]; exact hx)⟩
theorem reqsL_others (L : List Spn) (r : Int) : reqsL (othersL L r) = (reqsL L).filter fun q => !(q == r) := by
  refine snoc_ind (P := fun L => reqsL (othersL L r) = (reqsL L).filter fun q => !(q == r)) ?_ ?_ L
  · rfl
  · intro L a ih
    unfold othersL at ih ⊢
    rw [List.filter_append]
    by_cases ha : rq a = r
    · have e1 : ([a].filter fun s => !(rq s == r)) = [] := by simp [ha]
      rw [e1, List.append_nil, ih, reqsL_snoc]
      split
      · rfl
      · rw [List.filter_append]; simp [ha]
    · have e1 : ([a].filter fun s => !(rq s == r)) = [a] := by simp [ha]
      rw [e1, reqsL_snoc, reqsL_snoc, ih]
      have e2 : rq a ∈ (reqsL L).filter (fun q => !(q == r)) ↔ rq a ∈ reqsL L := by simp [List.mem_filter, ha]
      by_cases h : rq a ∈ reqsL L
      · rw [if_pos h, if_pos (e2.2 h)]
      · rw [if_neg h, if_neg (fun k => h (e2.1 k)), List.filter_append]; simp [ha]
theorem ofL_others (L : List Spn) (r q : Int) (h : q ≠ r) : ofL (othersL L r) q = ofL L q := by
  unfold ofL othersL
  rw [List.filter_filter]
  congr 1
  funext s
  by_cases hq : rq s = q
  · simp [hq, h]
  · simp [hq]
theorem ofL_others_same (L : List Spn) (r : Int) : ofL (othersL L r) r = [] := by
  unfold ofL othersL
  rw [List.filter_filter]
  simp
theorem ofL_snoc (L : List Spn) (s : Spn) (r : Int) : ofL (L ++ [s]) r = if rq s = r then ofL L r ++ [s] else ofL L r := by
  unfold ofL
  rw [List.filter_append]
  by_cases h : rq s = r <;> simp [h]
theorem ofL_none {L : List Spn} {r : Int} (h : r ∉ reqsL L) : ofL L r = [] := by
  unfold ofL
  rw [List.filter_eq_nil_iff]
  intro s hs e
  exact h ((mem_reqsL L r).2 ⟨s, hs, by simpa using e⟩)
theorem othersL_none {L : List Spn} {r : Int} (h : r ∉ reqsL L) : othersL L r = L := by
  unfold othersL
  rw [List.filter_eq_self]
  intro s hs
  have : rq s ≠ r := fun e => h ((mem_reqsL L r).2 ⟨s, hs, e⟩)
  simp [this]
theorem grpL_old (L : List Spn) (s : Spn) (h : rq s ∈ reqsL L) : grpL (L ++ [s]) = (grpL L).map fun p => if p.1 = rq s then (p.1, p.2 ++ [s]) else p := by
  unfold grpL
  rw [reqsL_snoc, if_pos h, List.map_map]
  apply List.map_congr_left
  intro r _
  simp only [Function.comp]
  rw [ofL_snoc]
  by_cases hr : rq s = r
  · rw [if_pos hr, if_pos hr.symm]
  · rw [if_neg hr, if_neg (fun e => hr e.symm)]
theorem grpL_new (L : List Spn) (s : Spn) (h : rq s ∉ reqsL L) : grpL (L ++ [s]) = grpL L ++ [(rq s, [s])] := by
  unfold grpL
  rw [reqsL_snoc, if_neg h, List.map_append]
  congr 1
  · apply List.map_congr_left
    intro r hr
    rw [ofL_snoc, if_neg (fun e => h (by rw [e]; exact hr))]
  · simp only [List.map_cons, List.map_nil]
    rw [ofL_snoc, if_pos rfl, ofL_none h, List.nil_append]
theorem grpL_others (L : List Spn) (r : Int) : grpL (othersL L r) = (grpL L).filter fun p => !(p.1 == r) := by
  unfold grpL
  rw [reqsL_others, List.filter_map]
  apply List.map_congr_left
  intro q hq
  rw [List.mem_filter] at hq
  rw [ofL_others _ _ _ (by simpa using hq.2)]
theorem grpL_len (L : List Spn) : (grpL L).length = (reqsL L).length := by unfold grpL; rw [List.length_map]
theorem reqsL_len (L : List Spn) : (reqsL L).length ≤ L.length := by
  refine snoc_ind (P := fun L => (reqsL L).length ≤ L.length) ?_ ?_ L
  · simp [reqsL_nil]
  · intro L a ih
    rw [reqsL_snoc]
    split
    · simp; omega
    · simp; omega
theorem othersL_len (L : List Spn) (r : Int) : (othersL L r).length ≤ L.length := List.length_filter_le _ _
theorem ofL_len (L : List Spn) (r : Int) : (ofL L r).length ≤ L.length := List.length_filter_le _ _
theorem addL_len (m : Nat) (L : List Spn) (s : Spn) : (addL m L s).length ≤ L.length + 1 := by
  unfold addL
  split
  · have := othersL_len L ((reqsL L).headD 0); rw [List.length_append]; simp only [List.length_cons, List.length_nil]; omega
  · simp
theorem goneL_len (m : Nat) (L : List Spn) (s : Spn) : (goneL m L s).length ≤ L.length := by
  unfold goneL
  split
  · exact ofL_len _ _
  · simp

/-- A request that is held, with the blocks in which it lies. -/
structure Grp where
  req : Int
  mark : Nat
  hb : Nat
  v : Value
  l : List Spn
def Grp.plain (g : Grp) : Int × List Spn := (g.req, g.l)
def Grp.place (g : Grp) : Int × Nat := (g.req, g.mark)
def fndG (G : List Grp) (r : Int) : Option Grp := G.find? fun g => g.req == r
/-- Does a place stand? -/
def stB (G : List Grp) (x : Int × Nat) : Bool := match fndG G x.1 with
  | none => false
  | some g => g.mark == x.2
theorem fndG_mem {G : List Grp} {r : Int} {g : Grp} (h : fndG G r = some g) : g ∈ G ∧ g.req = r := by
  unfold fndG at h
  exact ⟨List.mem_of_find?_eq_some h, by have := List.find?_some h; simpa using this⟩
theorem fndG_none {G : List Grp} {r : Int} : fndG G r = none ↔ r ∉ G.map (·.req) := by
  unfold fndG
  rw [List.find?_eq_none]
  simp only [List.mem_map, not_exists, not_and, beq_iff_eq]
theorem fndG_of {G : List Grp} (hn : (G.map (·.req)).Nodup) {g : Grp} (hg : g ∈ G) : fndG G g.req = some g := by
  induction G with
  | nil => cases hg
  | cons a G ih =>
    unfold fndG at ih ⊢
    rw [List.map_cons, List.nodup_cons] at hn
    rw [List.find?_cons]
    by_cases ha : a.req = g.req
    · rcases List.mem_cons.1 hg with rfl | hg
      · simp
      · exact absurd (List.mem_map_of_mem (f := (·.req)) hg) (by rw [← ha]; exact hn.1)
    · rcases List.mem_cons.1 hg with rfl | hg
      · exact absurd rfl ha
      · have : (a.req == g.req) = false := by simp [ha]
        rw [this]; exact ih hn.2 hg
theorem stB_eq (G : List Grp) (hn : (G.map (·.req)).Nodup) (x : Int × Nat) : stB G x = true ↔ ∃ g ∈ G, g.place = x := by
  unfold stB
  constructor
  · intro h
    cases hf : fndG G x.1 with
    | none => rw [hf] at h; cases h
    | some g =>
      rw [hf] at h
      obtain ⟨h1, h2⟩ := fndG_mem hf
      exact ⟨g, h1, by unfold Grp.place; rw [h2, show g.mark = x.2 from by simpa using h]⟩
  · rintro ⟨g, hg, rfl⟩
    show (match fndG G g.req with | none => false | some a => a.mark == g.mark) = true
    rw [fndG_of hn hg]
    simp
theorem fndG_app (G : List Grp) (g : Grp) (r : Int) (hr : g.req ∉ G.map (·.req)) : fndG (G ++ [g]) r = if r = g.req then some g else fndG G r := by
  unfold fndG
  rw [List.find?_append]
  by_cases h : r = g.req
  · rw [if_pos h, h]
    have := fndG_none.2 hr
    unfold fndG at this
    rw [this]; simp
  · rw [if_neg h]
    have : ¬ g.req = r := fun e => h e.symm
    simp [this]
theorem fndG_filter (G : List Grp) (q r : Int) : fndG (G.filter fun g => !(g.req == q)) r = if r = q then none else fndG G r := by
  unfold fndG
  by_cases h : r = q
  · rw [if_pos h, List.find?_eq_none]
    intro g hg
    rw [List.mem_filter] at hg
    have := hg.2
    simp only [Bool.not_eq_true', beq_eq_false_iff_ne] at this
    simp only [beq_iff_eq]
    rw [h]; exact this
  · rw [if_neg h]
    induction G with
    | nil => rfl
    | cons a G ih =>
      rw [List.filter_cons]
      by_cases ha : a.req = q
      · have e1 : (!(a.req == q)) = false := by simp [ha]
        have e2 : (a.req == r) = false := by rw [ha]; simp; exact fun e => h e.symm
        simp only [e1, Bool.false_eq_true, if_false]
        rw [ih, List.find?_cons, e2]
      · have e1 : (!(a.req == q)) = true := by simp [ha]
        simp only [e1, if_true]
        rw [List.find?_cons, List.find?_cons, ih]
theorem nodup_filter_req {G : List Grp} (h : (G.map (·.req)).Nodup) (q : Int) : ((G.filter fun g => !(g.req == q)).map (·.req)).Nodup := by
  refine List.Nodup.sublist ?_ h
  exact (List.filter_sublist).map _

/-- What stands in the row behind a request that has gone. -/
theorem stand_drop {G : List Grp} {R : List (Int × Nat)} (hn : (G.map (·.req)).Nodup) (hs : R.filter (stB G) = G.map Grp.place) (q : Int) :
    R.filter (stB (G.filter fun g => !(g.req == q))) = (G.filter fun g => !(g.req == q)).map Grp.place := by
  have e : ∀ x : Int × Nat, stB (G.filter fun g => !(g.req == q)) x = ((!(x.1 == q)) && stB G x) := fun x => by
    unfold stB
    rw [fndG_filter]
    by_cases h : x.1 = q
    · rw [if_pos h]; simp [h]
    · rw [if_neg h]
      have : (!(x.1 == q)) = true := by simp [h]
      rw [this, Bool.true_and]
  rw [show (stB (G.filter fun g => !(g.req == q))) = (fun x => (!(x.1 == q)) && stB G x) from funext e, ← List.filter_filter, hs, List.filter_map]
  rfl
/-- The row behind the first standing place. -/
theorem stand_behind {G : List Grp} {g : Grp} {R : List (Int × Nat)} (hn : ((g :: G).map (·.req)).Nodup) (hs : R.filter (stB (g :: G)) = (g :: G).map Grp.place) {k : Nat} {x : Int × Nat} (hk : R[k]? = some x) (hx : stB (g :: G) x = true)
    (hb : ∀ j y, j < k → R[j]? = some y → stB (g :: G) y = false) : x = g.place ∧ (R.drop (k + 1)).filter (stB G) = G.map Grp.place := by
  have hlt := get_lt hk
  have e1 : R = R.take k ++ x :: R.drop (k + 1) := by
    conv => lhs; rw [← List.take_append_drop k R]
    rw [List.drop_eq_getElem_cons hlt]
    rw [List.getElem?_eq_getElem hlt] at hk
    simp at hk
    rw [hk]
  have e2 : (R.take k).filter (stB (g :: G)) = [] := by
    rw [List.filter_eq_nil_iff]
    intro y hy e
    obtain ⟨j, hj, he⟩ := List.mem_iff_getElem.1 hy
    rw [List.length_take] at hj
    have := hb j y (by omega) (by rw [← he]; simp [List.getElem_take])
    rw [this] at e; cases e
  rw [e1, List.filter_append, e2, List.nil_append, List.filter_cons, if_pos hx, List.map_cons, List.cons.injEq] at hs
  refine ⟨hs.1, ?_⟩
  rw [← hs.2]
  apply List.filter_congr
  intro y hy
  have hnd := hn
  rw [List.map_cons, List.nodup_cons] at hn
  by_cases hyg : y.1 = g.req
  · have h1 : stB G y = false := by
      unfold stB
      rw [fndG_none.2 (by rw [hyg]; exact hn.1)]
    have h2 : stB (g :: G) y = false := by
      cases hc : stB (g :: G) y
      · rfl
      · have hm : y ∈ G.map Grp.place := by rw [← hs.2, List.mem_filter]; exact ⟨hy, hc⟩
        obtain ⟨g2, hg2, he⟩ := List.mem_map.1 hm
        have : g2.req = g.req := by rw [← hyg, ← he]; rfl
        exact absurd (List.mem_map_of_mem (f := (·.req)) hg2) (by rw [this]; exact hn.1)
    rw [h1, h2]
  · unfold stB
    have : fndG (g :: G) y.1 = fndG G y.1 := by
      unfold fndG
      rw [List.find?_cons]
      have : (g.req == y.1) = false := by simp; exact fun e => hyg e.symm
      rw [this]
    rw [this]
/-- The row with one request more. -/
theorem stand_more {G : List Grp} {g : Grp} {R : List (Int × Nat)} (hn : (G.map (·.req)).Nodup) (hr : g.req ∉ G.map (·.req)) (hs : R.filter (stB G) = G.map Grp.place) (hm : ∀ x ∈ R, x.2 < g.mark) :
    (R ++ [g.place]).filter (stB (G ++ [g])) = (G ++ [g]).map Grp.place := by
  rw [List.filter_append, List.map_append]
  congr 1
  · rw [← hs]
    apply List.filter_congr
    intro x hx
    unfold stB
    rw [fndG_app _ _ _ hr]
    by_cases h : x.1 = g.req
    · rw [if_pos h, h, fndG_none.2 hr]
      have := hm x hx
      simp; omega
    · rw [if_neg h]
  · have : stB (G ++ [g]) g.place = true := by
      unfold stB
      rw [fndG_app _ _ _ hr, if_pos (show g.place.1 = g.req from rfl)]
      simp [Grp.place]
    rw [List.filter_cons, if_pos this]; rfl
/-- The row swept. -/
theorem stand_swept {G : List Grp} {R : List (Int × Nat)} (hs : R.filter (stB G) = G.map Grp.place) : (R.filter (stB G)).filter (stB G) = G.map Grp.place := by
  rw [List.filter_filter]; simp [hs]
/-- A request's spans with one more. -/
def putG (G : List Grp) (r : Int) (v : Value) (s : Spn) : List Grp := G.map fun g => if g.req = r then ⟨g.req, g.mark, g.hb, v, g.l ++ [s]⟩ else g
theorem putG_place (G : List Grp) (r : Int) (v : Value) (s : Spn) : (putG G r v s).map Grp.place = G.map Grp.place := by
  unfold putG
  rw [List.map_map]
  apply List.map_congr_left
  intro g _
  simp only [Function.comp]
  split <;> rfl
theorem putG_req (G : List Grp) (r : Int) (v : Value) (s : Spn) : (putG G r v s).map (·.req) = G.map (·.req) := by
  unfold putG
  rw [List.map_map]
  apply List.map_congr_left
  intro g _
  simp only [Function.comp]
  split <;> rfl
theorem putG_fnd (G : List Grp) (r q : Int) (v : Value) (s : Spn) : fndG (putG G r v s) q = (fndG G q).map fun g => if g.req = r then ⟨g.req, g.mark, g.hb, v, g.l ++ [s]⟩ else g := by
  unfold fndG putG
  rw [List.find?_map]
  congr 1
  congr 1
  funext g
  simp only [Function.comp]
  split <;> rfl
theorem putG_st (G : List Grp) (r : Int) (v : Value) (s : Spn) : stB (putG G r v s) = stB G := by
  funext x
  unfold stB
  rw [putG_fnd]
  cases fndG G x.1 with
  | none => rfl
  | some g => simp only [Option.map_some]; split <;> rfl
theorem putG_plain (G : List Grp) (r : Int) (v : Value) (s : Spn) : (putG G r v s).map Grp.plain = (G.map Grp.plain).map fun p => if p.1 = r then (p.1, p.2 ++ [s]) else p := by
  unfold putG
  rw [List.map_map, List.map_map]
  apply List.map_congr_left
  intro g _
  simp only [Function.comp]
  by_cases h : g.req = r
  · rw [if_pos h, if_pos (show g.plain.1 = r from h)]; rfl
  · rw [if_neg h, if_neg (show ¬ g.plain.1 = r from h)]
end Go.Proofs.YtdamhohoeobfgaaDoor
