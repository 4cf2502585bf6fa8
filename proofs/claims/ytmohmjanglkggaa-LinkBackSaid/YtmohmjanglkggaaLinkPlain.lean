/- Plain: faults and what a message meets (layer 27). -/
import Derived.WalkKit
namespace Go.Proofs.Ytmohmjanglkggaa

structure Flt where
  kind : Int
  frm : Int
  til : Int
  a : Int
  b : Int
  n : Int

def onWayB (k : Int) : Bool := decide (1 ≤ k ∧ k ≤ 4)
def thereB (f : Flt) (now : Int) : Bool := decide (f.frm ≤ now ∧ now < f.til)
def seesB (f : Flt) (now src dst : Int) : Bool :=
  onWayB f.kind && thereB f now && (if f.b = -1 then (src == f.a || dst == f.a) else (src == f.a && dst == f.b || src == f.b && dst == f.a))

/-- What is reckoned of a message: when it comes, whether it is lost, whether it comes twice. -/
structure St where
  tick : Int
  lost : Bool
  twice : Bool
def upd (now src dst : Int) (f : Flt) (c : Int) : Int := if seesB f now src dst then c + 1 else c
def eachB (f : Flt) (c : Int) : Bool := decide (0 < f.n) && decide (c % f.n = 0)
def stepSt (now src dst : Int) (st : St) (f : Flt) (c : Int) : St :=
  if seesB f now src dst then
    { tick := if f.kind = 2 then st.tick + f.n else st.tick
      lost := st.lost || decide (f.kind = 4) || (decide (f.kind = 1) && eachB f (c + 1))
      twice := st.twice || (decide (f.kind = 3) && eachB f (c + 1)) }
  else st
def flt0 : Flt := ⟨0, 0, 0, 0, 0, 0⟩
def goS (now src dst hop : Int) (fs : List Flt) (cs : List Int) : Nat → St
  | 0 => ⟨now + hop, false, false⟩
  | k + 1 => stepSt now src dst (goS now src dst hop fs cs k) (fs.getD k flt0) (cs.getD k 0)
def cntL (now src dst : Int) (fs : List Flt) (cs : List Int) : Nat → List Int
  | 0 => cs
  | k + 1 => if seesB (fs.getD k flt0) now src dst then (cntL now src dst fs cs k).set k (cs.getD k 0 + 1) else cntL now src dst fs cs k
def resS (st : St) : List Int := if st.lost then [] else if st.twice then [st.tick, st.tick + 1] else [st.tick]

theorem cntL_len (now src dst : Int) (fs : List Flt) (cs : List Int) (k : Nat) : (cntL now src dst fs cs k).length = cs.length := by
  induction k with
  | zero => rfl
  | succ k ih => unfold cntL; split <;> simp [ih]
theorem cntL_get (now src dst : Int) (fs : List Flt) (cs : List Int) (k j : Nat) (hj : j < cs.length) :
    (cntL now src dst fs cs k).getD j 0 = if j < k then upd now src dst (fs.getD j flt0) (cs.getD j 0) else cs.getD j 0 := by
  induction k with
  | zero => simp [cntL]
  | succ k ih =>
    unfold cntL
    by_cases hs : seesB (fs.getD k flt0) now src dst
    · rw [if_pos hs]
      by_cases hjk : j = k
      · subst hjk
        have hl : j < (cntL now src dst fs cs j).length := by rw [cntL_len]; exact hj
        rw [if_pos (by omega)]
        unfold upd
        rw [if_pos hs]
        simp [List.getD, List.getElem?_set_self hl]
      · have e : ((cntL now src dst fs cs k).set k (cs.getD k 0 + 1)).getD j 0 = (cntL now src dst fs cs k).getD j 0 := by
          simp [List.getD, List.getElem?_set_ne (fun h => hjk h.symm)]
        rw [e, ih]
        by_cases h : j < k
        · rw [if_pos h, if_pos (by omega)]
        · rw [if_neg h, if_neg (by omega)]
    · rw [if_neg hs, ih]
      by_cases h : j < k
      · rw [if_pos h, if_pos (by omega)]
      · rw [if_neg h]
        by_cases hjk : j = k
        · subst hjk; rw [if_pos (by omega)]; unfold upd; rw [if_neg hs]
        · rw [if_neg (by omega)]
theorem goS_bd (now src dst hop : Int) (fs : List Flt) (cs : List Int) (hf : ∀ f ∈ fs, 0 ≤ f.n ∧ f.n ≤ 20) (k : Nat) :
    now + hop ≤ (goS now src dst hop fs cs k).tick ∧ (goS now src dst hop fs cs k).tick ≤ now + hop + 20 * k := by
  induction k with
  | zero => simp [goS]
  | succ k ih =>
    unfold goS stepSt
    have hb : 0 ≤ (fs.getD k flt0).n ∧ (fs.getD k flt0).n ≤ 20 := by
      by_cases hk : k < fs.length
      · have : fs.getD k flt0 = fs[k] := by simp [List.getD, hk]
        rw [this]; exact hf _ (List.getElem_mem hk)
      · have : fs.getD k flt0 = flt0 := by simp [List.getD, List.getElem?_eq_none (Nat.le_of_not_lt hk)]
        rw [this]; decide
    split
    · simp only
      split <;> omega
    · omega
theorem goS_not (now src dst hop : Int) (fs : List Flt) (cs : List Int) (k : Nat) (f : Flt) (hf : fs.getD k flt0 = f) (h : seesB f now src dst = false) : goS now src dst hop fs cs (k + 1) = goS now src dst hop fs cs k := by
  show stepSt now src dst (goS now src dst hop fs cs k) (fs.getD k flt0) (cs.getD k 0) = _
  unfold stepSt
  rw [hf, h]; rfl
theorem cntL_not (now src dst : Int) (fs : List Flt) (cs : List Int) (k : Nat) (f : Flt) (hf : fs.getD k flt0 = f) (h : seesB f now src dst = false) : cntL now src dst fs cs (k + 1) = cntL now src dst fs cs k := by
  show (if seesB (fs.getD k flt0) now src dst then _ else _) = _
  rw [hf, h]; rfl
theorem goS_see (now src dst hop : Int) (fs : List Flt) (cs : List Int) (k : Nat) (f : Flt) (c : Int) (hf : fs.getD k flt0 = f) (hc : cs.getD k 0 = c) (h : seesB f now src dst = true) :
    goS now src dst hop fs cs (k + 1) = ⟨if f.kind = 2 then (goS now src dst hop fs cs k).tick + f.n else (goS now src dst hop fs cs k).tick,
      (goS now src dst hop fs cs k).lost || decide (f.kind = 4) || (decide (f.kind = 1) && eachB f (c + 1)), (goS now src dst hop fs cs k).twice || (decide (f.kind = 3) && eachB f (c + 1))⟩ := by
  show stepSt now src dst (goS now src dst hop fs cs k) (fs.getD k flt0) (cs.getD k 0) = _
  unfold stepSt
  rw [hf, hc, h]; rfl
theorem cntL_see (now src dst : Int) (fs : List Flt) (cs : List Int) (k : Nat) (f : Flt) (c : Int) (hf : fs.getD k flt0 = f) (hc : cs.getD k 0 = c) (h : seesB f now src dst = true) :
    cntL now src dst fs cs (k + 1) = (cntL now src dst fs cs k).set k (c + 1) := by
  show (if seesB (fs.getD k flt0) now src dst then _ else _) = _
  rw [hf, hc, h]; rfl
theorem cntL_bd (now src dst : Int) (fs : List Flt) (cs : List Int) (k : Nat) (K : Int) (hK : 0 ≤ K) (h : ∀ c ∈ cs, 0 ≤ c ∧ c ≤ K) : ∀ c ∈ cntL now src dst fs cs k, 0 ≤ c ∧ c ≤ K + 1 := by
  induction k with
  | zero => intro c hc; have := h c hc; omega
  | succ k ih =>
    intro c hc
    unfold cntL at hc
    split at hc
    · rcases List.mem_or_eq_of_mem_set hc with h1 | h1
      · exact ih c h1
      · have hb : 0 ≤ cs.getD k 0 ∧ cs.getD k 0 ≤ K := by
          by_cases hk : k < cs.length
          · have : cs.getD k 0 = cs[k] := by simp [List.getD, hk]
            rw [this]; exact h _ (List.getElem_mem hk)
          · have : cs.getD k 0 = 0 := by simp [List.getD, List.getElem?_eq_none (Nat.le_of_not_lt hk)]
            rw [this]; omega
        omega
    · exact ih c hc
end Go.Proofs.Ytmohmjanglkggaa
