/- Maps whose elements are any values: what the block holds, as a function of the key. -/
import Derived.Test.YtnmcdecdgcnmbaaLib
import Derived.Maps.OwnSet
import Derived.Maps.Views
set_option linter.unusedVariables false
namespace Go.Proofs.Ytnmcdecdgcnmbaa
open Go.RowKit
open Go.Maps (Keyed)

def hvR (v : Value) : Option (DataW Value × List MemPlace) := some (.held v, [])
/-- Block b is a map of sz entries (n at most) that holds at each key what f says. -/
def VMap (w : World) (P : Program) (k : TypeId) (b n sz : Nat) (f : Lit → Option Value) : Prop :=
  ∃ D, w.ownsMap P k hvR b n D ∧ Maps.size D = sz ∧ ∀ kl, WideAt.IsKeyLit kl → (∀ v, f kl = some v → Maps.has D kl = true ∧ ∀ z, D.atKey kl z = .held v) ∧ (f kl = none → Maps.has D kl = false)

/-- What is held behind a store (some v) or a delete (none). -/
def setF (f : Lit → Option Value) (kl : Lit) (v : Option Value) : Lit → Option Value := fun l => if l.sameKey kl then v else f l
theorem setF_same {f : Lit → Option Value} {kl : Lit} (h : WideAt.IsKeyLit kl) (v : Option Value) : setF f kl v kl = v := by unfold setF; rw [if_pos (WideAt.sameKey_self h)]
theorem setF_other {f : Lit → Option Value} {l kl : Lit} (h : l ≠ kl) (v : Option Value) : setF f kl v l = f l := by
  unfold setF
  rw [if_neg]
  intro hs
  exact h (WideAt.sameKey_eq hs)
variable {P : Program} {k t e : TypeId} {w w' : World} {b n sz : Nat} {f : Lit → Option Value} {key : Value} {kl : Lit}

theorem VMap.made (w : World) (P : Program) (k : TypeId) : VMap (w.alloc (.map #[] 0)) P k w.heap.size 0 0 (fun _ => none) :=
  ⟨_, World.ownsMap_made w P k hvR, rfl, fun kl _ => ⟨by simp, fun _ => rfl⟩⟩
theorem run_makeMap_hint {P : Program} {t k e : TypeId} (ht : P.underlying t = some (.map k e)) (n : Int) (w : World) : (Instr.makeMap t (some (.int .i64 n))).run P w = .ok (.map (some w.heap.size)) (w.alloc (.map #[] 0)) := by
  simp [Instr.makeMap, run_underlying ht, Result.andThen, asInt, asIntOf]
theorem VMap.lt (h : VMap w P k b n sz f) : b < w.heap.size := by
  obtain ⟨D, h, _⟩ := h
  exact h.lt
theorem VMap.size_le (h : VMap w P k b n sz f) : sz ≤ n := by
  obtain ⟨D, h, rfl, _⟩ := h
  exact h.size_le
theorem VMap.frm {S : Nat → Prop} (h : VMap w P k b n sz f) (hf : Frm S w w') (hb : ¬ S b) : VMap w' P k b n sz f := by
  obtain ⟨D, ⟨es, clock, h1, h2⟩, h3⟩ := h
  have hlt := (Array.getElem?_eq_some_iff.1 h1).1
  exact ⟨D, ⟨es, clock, by rw [hf.block b hlt hb]; exact h1, h2⟩, h3⟩
theorem VMap.mono {n' : Nat} (h : VMap w P k b n sz f) (hn : n ≤ n') : VMap w P k b n' sz f := by
  obtain ⟨D, h, h3⟩ := h
  exact ⟨D, h.mono hn, h3⟩
theorem VMap.congr {g : Lit → Option Value} (h : VMap w P k b n sz f) (hg : ∀ l, WideAt.IsKeyLit l → g l = f l) : VMap w P k b n sz g := by
  obtain ⟨D, h, h1, h3⟩ := h
  exact ⟨D, h, h1, fun l hl => by rw [hg l hl]; exact h3 l hl⟩
theorem VMap.look (h : VMap w P k b n sz f) (K : Keyed P k) (ht : P.underlying t = some (.map k e)) {z : Value} (hz : (zeroValue e).run P w = .ok z w) (hkey : keyOf P k key = some kl) :
    (Instr.lookup t (.map (some b)) key false).run P w = .ok ((f kl).getD z) w := by
  obtain ⟨D, ho, _, hf⟩ := h
  obtain ⟨v, ps, hrun, hv⟩ := ho.lookup K ht hz (z := z) (zd := .held z) (zp := []) rfl hkey
  have := hf kl (K.key hkey)
  rw [hrun]
  cases hfk : f kl with
  | none =>
    rw [Maps.atKey_of_not_has (this.2 hfk)] at hv
    simp [hvR] at hv
    rw [hv.1]; rfl
  | some u =>
    rw [(this.1 u hfk).2] at hv
    simp [hvR] at hv
    rw [hv.1]; rfl
theorem VMap.look_ok (h : VMap w P k b n sz f) (K : Keyed P k) (ht : P.underlying t = some (.map k e)) {z : Value} (hz : (zeroValue e).run P w = .ok z w) (hkey : keyOf P k key = some kl) :
    (Instr.lookup t (.map (some b)) key true).run P w = .ok (.tuple #[(f kl).getD z, .bool (f kl).isSome]) w := by
  obtain ⟨D, ho, _, hf⟩ := h
  obtain ⟨v, ps, hrun, hv⟩ := ho.look_ok K ht hz (z := z) (zd := .held z) (zp := []) rfl hkey
  have := hf kl (K.key hkey)
  rw [hrun]
  cases hfk : f kl with
  | none =>
    rw [Maps.atKey_of_not_has (this.2 hfk)] at hv
    simp [hvR] at hv
    rw [hv.1, this.2 hfk]; rfl
  | some u =>
    rw [(this.1 u hfk).2] at hv
    simp [hvR] at hv
    rw [hv.1, (this.1 u hfk).1]; rfl
theorem VMap.store (h : VMap w P k b n sz f) (K : Keyed P k) (ht : P.underlying t = some (.map k e)) (hn : n < maxLen) (hkey : keyOf P k key = some kl) (val : Value) :
    ∃ w', (Instr.mapUpdate t (.map (some b)) key val).run P w = .ok () w' ∧ VMap w' P k b (n + 1) (if (f kl).isSome then sz else sz + 1) (setF f kl (some val)) ∧ Frm (oneB b) w w' := by
  obtain ⟨D, ho, hs, hf⟩ := h
  obtain ⟨w', hrun, ho', hg⟩ := ho.store K ht hn hkey (d := .held val) (ps := []) rfl
  refine ⟨w', hrun, ⟨_, ho', ?_, fun l hl => ?_⟩, (Frm.ofGrown hg.grown).mono (fun i _ h => by simpa [oneB] using h)⟩
  · rw [Maps.size_put (ho.tidy K), hs]
    have := hf kl (K.key hkey)
    cases hfk : f kl with
    | none => rw [this.2 hfk]; rfl
    | some u => rw [(this.1 u hfk).1]; rfl
  · by_cases he : l = kl
    · subst he
      rw [setF_same hl]
      refine ⟨fun v hv => ?_, by simp⟩
      simp at hv
      subst hv
      exact ⟨Maps.has_put_same ho.isMap hl _, fun z => Maps.atKey_put_same ho.isMap hl _ z⟩
    · have := hf l hl
      rw [setF_other he]
      refine ⟨fun v hv => ?_, fun hv => ?_⟩
      · rw [Maps.has_put_other he]
        exact ⟨(this.1 v hv).1, fun z => by rw [Maps.atKey_put_other he]; exact (this.1 v hv).2 z⟩
      · rw [Maps.has_put_other he]; exact this.2 hv
theorem VMap.drop (h : VMap w P k b n sz f) (K : Keyed P k) (ht : P.underlying t = some (.map k e)) (hkey : keyOf P k key = some kl) (ty : TypeId) :
    ∃ w', (Builtin.delete_ #[t, k] ty #[.map (some b), key]).run P w = .ok (.tuple #[]) w' ∧ VMap w' P k b n (if (f kl).isSome then sz - 1 else sz) (setF f kl none) ∧ Frm (oneB b) w w' := by
  obtain ⟨D, ho, hs, hf⟩ := h
  obtain ⟨w', hrun, ho', hg⟩ := ho.drop K ht hkey ty
  refine ⟨w', hrun, ⟨_, ho', ?_, fun l hl => ?_⟩, (Frm.ofGrown hg.grown).mono (fun i _ h => by simpa [oneB] using h)⟩
  · have hd := Maps.size_del (k := kl) (ho.tidy K)
    have := hf kl (K.key hkey)
    cases hfk : f kl with
    | none =>
      rw [this.2 hfk] at hd
      simp at hd ⊢; omega
    | some u =>
      rw [(this.1 u hfk).1] at hd
      simp at hd ⊢; omega
  · by_cases he : l = kl
    · subst he
      rw [setF_same hl]
      exact ⟨by simp, fun _ => Maps.has_del_same⟩
    · have := hf l hl
      rw [setF_other he]
      refine ⟨fun v hv => ?_, fun hv => ?_⟩
      · rw [Maps.has_del_other he]
        exact ⟨(this.1 v hv).1, fun z => by rw [Maps.atKey_del_other he]; exact (this.1 v hv).2 z⟩
      · rw [Maps.has_del_other he]; exact this.2 hv
theorem VMap.len (h : VMap w P k b n sz f) (ht : P.underlying t = some (.map k e)) (ty : TypeId) : (Builtin.len_ #[t] ty #[.map (some b)]).run P w = .ok (.int .i64 sz) w := by
  obtain ⟨D, ho, hs, _⟩ := h
  rw [ho.len ht, hs]
end Go.Proofs.Ytnmcdecdgcnmbaa
