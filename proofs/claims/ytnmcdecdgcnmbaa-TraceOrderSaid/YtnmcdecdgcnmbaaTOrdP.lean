/- TraceOrder: what its regions need. -/
import Derived.Test.YtnmcdecdgcnmbaaDepth
import Derived.Test.YtnmcdecdgcnmbaaTraceLives
import Derived.Test.YtnmcdecdgcnmbaaStrs
import Derived.Test.YtnmcdecdgcnmbaaTraceName
import Derived.Deep.RegionHeld3
import Derived.Deep.DeepCutAuto
import Derived.Outline
set_option linter.unusedVariables false
namespace Go.Proofs.Ytnmcdecdgcnmbaa
open Go.RowKit

theorem takeD {P : Program} {ops : Array Oper} {Q : Exit → Act → World → Prop} {md : Region.Mode} {S : World → Prop} {i : Nat} {oi : Oper} (d : Option Tmp) {v : Value} {fuel : Nat} {listed : Array Bool} {a : Act} {w : World} (hi : ops[i]? = some oi) (hd : oi.dst = d)
    (hs : Region.noSelect ops = true) (hf : Region.free md ops listed i = true) (hr : (Region.ready md ops listed).contains i = true)
    (hQ : ∀ c a w, Q (.panic c) (a.put oi.dst v) w → Q (.panic c) a w) (hy : YieldsIf P ops S oi v a) (hS : S w)
    (h : wpAnyH P md ops Q S fuel (listed.setIfInBounds i true) (a.put d v) w) : wpAnyH P md ops Q S (fuel + 1) listed a w := by
  subst hd
  exact wpAnyH_take hi hs hf hr hQ hy hS h
theorem cells2 {w w' : World} {g o0 o1 : Nat} {v0 v1 : Value} (h : w.cell? ⟨g, o0, none⟩ = some v0 ∧ w.cell? ⟨g, o1, none⟩ = some v1) (f : Frm noB w w') : w'.cell? ⟨g, o0, none⟩ = some v0 ∧ w'.cell? ⟨g, o1, none⟩ = some v1 :=
  ⟨cell_frm f (fun h => h) h.1, cell_frm f (fun h => h) h.2⟩
theorem cells3 {w w' : World} {g o0 o1 o2 : Nat} {v0 v1 v2 : Value} (h : w.cell? ⟨g, o0, none⟩ = some v0 ∧ w.cell? ⟨g, o1, none⟩ = some v1 ∧ w.cell? ⟨g, o2, none⟩ = some v2) (f : Frm noB w w') : w'.cell? ⟨g, o0, none⟩ = some v0 ∧ w'.cell? ⟨g, o1, none⟩ = some v1 ∧ w'.cell? ⟨g, o2, none⟩ = some v2 :=
  ⟨cell_frm f (fun h => h) h.1, cell_frm f (fun h => h) h.2.1, cell_frm f (fun h => h) h.2.2⟩
structure OkX (x : ByteArray) : Prop where
  size : x.size ≤ 1000000
  rd : ∃ r, readL x.data.toList = some (r, true)
def bf (x y : ByteArray) : Bool := befL x.data.toList y.data.toList
theorem bf_iff {x y : ByteArray} : bf x y = true ↔ x.data.toList ∈ ups y.data.toList := befL_iff
theorem bf_self (x : ByteArray) : bf x x = false := by
  cases h : bf x x
  · rfl
  · have := (ups_len (bf_iff.1 h)).1; omega
theorem bf_back {x y : ByteArray} (h : bf x y = true) : bf y x = false := by
  cases h2 : bf y x
  · rfl
  · have h3 := (ups_len (bf_iff.1 h)).1
    have h4 := (ups_len (bf_iff.1 h2)).1
    omega
theorem bf_req {x y : ByteArray} (hy : OkX y) (h : bf x y = true) : reqL x.data.toList = reqL y.data.toList := by
  obtain ⟨r, hr⟩ := hy.rd
  rw [reqL_of hr, reqL_of (ups_req hr (bf_iff.1 h))]
theorem bf_dep {x y : ByteArray} (h : bf x y = true) : depL x.data.toList < depL y.data.toList := ups_dep (bf_iff.1 h)
theorem bf_trans {x y z : ByteArray} (h : bf x y = true) (h2 : bf y z = true) : bf x z = true := bf_iff.2 (ups_trans (bf_iff.1 h) (bf_iff.1 h2))
theorem bf_line {x y z : ByteArray} (h : bf x z = true) (h2 : bf y z = true) (hne : ¬ x = y) (h3 : bf x y = false) : bf y x = true := by
  rcases ups_line (bf_iff.1 h) (bf_iff.1 h2) with e | e | e
  · exact absurd (ByteArray.ext (Array.toList_inj.1 e)) hne
  · rw [bf_iff.2 e] at h3; simp at h3
  · exact bf_iff.2 e

/-- A region of the code, taken out of it. -/
def findReg (k : Nat) : Code → Option Code
  | .region i ops b => if i = k then some (.region i ops b) else none
  | .seq a b => match findReg k a with
    | some c => some c
    | none => findReg k b
  | .loop c => findReg k c
  | .block _ c => findReg k c
  | .scope c => findReg k c
  | .cond _ a b => match findReg k a with
    | some c => some c
    | none => findReg k b
  | _ => none
noncomputable def ordReg (k : Nat) : Code := ((Try.f7.body.bind (findReg k)).getD .skip)
end Go.Proofs.Ytnmcdecdgcnmbaa
