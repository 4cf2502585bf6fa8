/- Plain: trees of spans; what is around is an order. -/
import Derived.Test.YtnmcdecdgcnmbaaTraceForestC
import Derived.Test.YtnmcdecdgcnmbaaTraceName
set_option linter.unusedVariables false
namespace Go.Proofs.Ytnmcdecdgcnmbaa
open Go.RowKit

def nm (x : Spn) : List UInt8 := x.name.data.toList
theorem inN_iff (L : List Spn) (n : List UInt8) : inN L n = true ↔ ∃ x ∈ L, nm x = n := by
  unfold inN
  rw [List.any_eq_true]
  refine exists_congr fun x => and_congr_right fun _ => ⟨fun h => ?_, fun h => ?_⟩
  · have := WideAt.sameKey_eq h
    unfold nameK at this
    simp only [Lit.string.injEq] at this
    exact this.symm
  · unfold nameK
    rw [show x.name.data.toList = n from h]
    exact WideAt.sameKey_self trivial
theorem isIn_iff (L : List Spn) (s : Spn) : isIn L s = true ↔ ∃ x ∈ L, nm x = nm s := inN_iff L (nm s)
structure Good (L : List Spn) (x : Spn) : Prop where
  req : ∃ r, readL (nm x) = some (r, true) ∧ (r = 1 ∨ r = 2)
  new : ¬ ∃ y ∈ L, nm y = nm x
  up : upL (nm x) = [] ∨ ∃ y ∈ L, nm y = upL (nm x)
inductive TreeOk : List Spn → Prop
  | nil : TreeOk []
  | snoc {T : List Spn} {x : Spn} : TreeOk T → Good T x → TreeOk (T ++ [x])
theorem TreeOk.inv {T : List Spn} (h : TreeOk T) : T = [] ∨ ∃ L x, T = L ++ [x] ∧ TreeOk L ∧ Good L x := by
  cases h with
  | nil => exact .inl rfl
  | snoc h g => exact .inr ⟨_, _, rfl, h, g⟩
theorem TreeOk.take {T : List Spn} (h : TreeOk T) : ∀ k, TreeOk (T.take k) := by
  induction h with
  | nil => intro k; simp; exact .nil
  | @snoc T x h g ih =>
    intro k
    rcases Nat.lt_or_ge T.length k with hk | hk
    · rw [List.take_of_length_le (by simp; omega)]; exact .snoc h g
    · rw [List.take_append_of_le_length hk]; exact ih k
theorem TreeOk.req {T : List Spn} (h : TreeOk T) : ∀ x ∈ T, ∃ r, readL (nm x) = some (r, true) ∧ (r = 1 ∨ r = 2) := by
  induction h with
  | nil => simp
  | snoc h g ih =>
    intro y hy
    rcases List.mem_append.1 hy with hy | hy
    · exact ih y hy
    · simp at hy; subst hy; exact g.req
theorem TreeOk.closed {T : List Spn} (h : TreeOk T) : ∀ x ∈ T, upL (nm x) = [] ∨ ∃ y ∈ T, nm y = upL (nm x) := by
  induction h with
  | nil => simp
  | snoc h g ih =>
    intro y hy
    rcases List.mem_append.1 hy with hy | hy
    · rcases ih y hy with h1 | ⟨z, hz, h1⟩
      · exact .inl h1
      · exact .inr ⟨z, List.mem_append_left _ hz, h1⟩
    · simp at hy; subst hy
      rcases g.up with h1 | ⟨z, hz, h1⟩
      · exact .inl h1
      · exact .inr ⟨z, List.mem_append_left _ hz, h1⟩
theorem TreeOk.nodup {T : List Spn} (h : TreeOk T) : (T.map nm).Nodup := by
  induction h with
  | nil => simp
  | snoc h g ih =>
    rw [List.map_append, List.nodup_append]
    refine ⟨ih, by simp, ?_⟩
    intro a ha b hb
    simp at hb
    subst hb
    obtain ⟨y, hy, rfl⟩ := List.mem_map.1 ha
    exact fun e => g.new ⟨y, hy, e⟩
theorem dupFree_snoc (L : List Spn) (x : Spn) : dupFree (L ++ [x]) = (dupFree L && !isIn L x) := by
  unfold dupFree
  rw [List.length_append, List.length_singleton, List.range_succ, List.all_append]
  congr 1
  · rw [Bool.eq_iff_iff, List.all_eq_true, List.all_eq_true]
    refine forall_congr' fun j => forall_congr' fun hj => ?_
    have hj' : j < L.length := List.mem_range.1 hj
    rw [List.getElem?_append_left hj', List.take_append_of_le_length (by omega)]
  · simp
theorem dupFree_iff (L : List Spn) : dupFree L = true ↔ (L.map nm).Nodup := by
  generalize hn : L.length = n
  induction n generalizing L with
  | zero => obtain rfl := List.eq_nil_of_length_eq_zero hn; simp [dupFree]
  | succ n ih =>
    obtain ⟨M, x, rfl⟩ : ∃ M x, L = M ++ [x] := ⟨L.dropLast, L.getLast (by intro e; subst e; simp at hn), (List.dropLast_concat_getLast _).symm⟩
    rw [dupFree_snoc, Bool.and_eq_true, ih M (by simpa using hn), List.map_append, List.nodup_append]
    refine ⟨fun ⟨h1, h2⟩ => ⟨h1, by simp, ?_⟩, fun ⟨h1, _, h2⟩ => ⟨h1, ?_⟩⟩
    · intro a ha b hb
      simp at hb; subst hb
      obtain ⟨y, hy, rfl⟩ := List.mem_map.1 ha
      intro e
      have := (isIn_iff M x).2 ⟨y, hy, e⟩
      rw [this] at h2; simp at h2
    · cases hi : isIn M x
      · rfl
      · obtain ⟨y, hy, e⟩ := (isIn_iff M x).1 hi
        exact absurd e (h2 _ (List.mem_map_of_mem hy) _ (by simp))
theorem forest_iff (L : List Spn) : forestB L = true ↔ (L.map nm).Nodup ∧ ∀ x ∈ L, upL (nm x) = [] ∨ ∃ y ∈ L, nm y = upL (nm x) := by
  unfold forestB
  rw [Bool.and_eq_true, dupFree_iff]
  refine and_congr_right fun _ => ?_
  unfold upsIn
  rw [List.all_eq_true]
  refine forall_congr' fun x => forall_congr' fun _ => ?_
  rw [Bool.or_eq_true, inN_iff, List.isEmpty_iff]
  exact Iff.rfl
theorem TreeOk.forest {T : List Spn} (h : TreeOk T) : forestB T = true := (forest_iff T).2 ⟨h.nodup, h.closed⟩

theorem up_split {l : List UInt8} (h : upL l ≠ []) : ∃ y, l = upL l ++ 47 :: y ∧ 47 ∉ y := by
  unfold upL at *
  cases hl : lastN 47 l with
  | zero => rw [hl] at h; simp at h
  | succ k =>
    obtain ⟨h1, h2, h3⟩ := lastN_split hl
    exact ⟨_, by simpa using h2, h3⟩
theorem up_read {l : List UInt8} {r : Int} (h : readL l = some (r, true)) (hu : upL l ≠ []) : readL (upL l) = some (r, true) := by
  obtain ⟨y, hy, _⟩ := up_split hu
  generalize upL l = u at *
  subst hy
  rw [readL_split u y 47 isDig_47] at h
  cases hr : readL u with
  | none => rw [hr] at h; simp at h
  | some p =>
    obtain ⟨r', t⟩ := p
    rw [hr] at h
    simp only [Option.bind_some, Option.map_eq_some_iff, Prod.mk.injEq] at h
    obtain ⟨u', hg, rfl, rfl⟩ := h
    cases t
    · rw [goL_false_other 47 y (by decide) (by decide)] at hg; simp at hg
    · rfl
theorem reqL_of {l : List UInt8} {r : Int} {t : Bool} (h : readL l = some (r, t)) : reqL l = r := by unfold reqL; rw [h]
theorem readT_of {l : List UInt8} {r : Int} {t : Bool} (h : readL l = some (r, t)) : readT l = t := by unfold readT; rw [h]
theorem up_req {x y : Spn} {r : Int} (h : readL (nm x) = some (r, true)) (hu : upL (nm x) ≠ []) (hy : nm y = upL (nm x)) : reqL y.name.data.toList = r := reqL_of (t := true) (by
  show readL (nm y) = _
  rw [hy]; exact up_read h hu)
theorem TreeOk.own {T : List Spn} (h : TreeOk T) (r : Int) : TreeOk (ownL T r) := by
  induction h with
  | nil => exact .nil
  | @snoc T x h g ih =>
    rw [ownL_app]
    split
    · rename_i he
      refine .snoc ih ⟨g.req, fun ⟨y, hy, e⟩ => g.new ⟨y, (List.mem_filter.1 hy).1, e⟩, ?_⟩
      by_cases hu : upL (nm x) = []
      · exact .inl hu
      · rcases g.up with h1 | ⟨z, hz, h1⟩
        · exact absurd h1 hu
        · obtain ⟨q, hq, _⟩ := g.req
          refine .inr ⟨z, List.mem_filter.2 ⟨hz, ?_⟩, h1⟩
          rw [up_req hq hu h1, ← reqL_of hq]
          simpa [nm] using he
    · exact ih
theorem TreeOk.count {T : List Spn} (h : TreeOk T) : (ownL T 1).length + (ownL T 2).length = T.length := by
  induction h with
  | nil => rfl
  | @snoc T x h g ih =>
    obtain ⟨q, hq, h12⟩ := g.req
    have he : reqL x.name.data.toList = q := reqL_of hq
    rw [ownL_app, ownL_app, he]
    rcases h12 with rfl | rfl
    · rw [if_pos rfl, if_neg (by decide)]; simp; omega
    · rw [if_pos rfl, if_neg (by decide)]; simp; omega
theorem Good.note {L : List Spn} {x : Spn} (g : Good L x) : noteE L x = 0 ∧ noteL L x = L ++ [x] := by
  obtain ⟨q, hq, _⟩ := g.req
  refine noteE_new (readT_of hq) ?_
  cases hi : isIn L x
  · rfl
  · exact absurd ((isIn_iff L x).1 hi) g.new
theorem TreeOk.at {T : List Spn} (h : TreeOk T) {k : Nat} {x : Spn} (hx : T[k]? = some x) : Good (T.take k) x := by
  have h1 := h.take (k + 1)
  rw [List.take_add_one, hx] at h1
  rcases h1.inv with h2 | ⟨L, y, h2, _, g⟩
  · simp at h2
  · have := List.append_inj' h2 rfl
    simp at this
    obtain ⟨rfl, rfl⟩ := this
    exact g

/-! What is around. -/
theorem ups_len {l a : List UInt8} (h : a ∈ ups l) : a.length < l.length ∧ a ≠ [] := by
  generalize hn : l.length = n at *
  induction n using Nat.strongRecOn generalizing l with
  | _ n ih =>
    subst hn
    by_cases hu : upL l = []
    · rw [ups_nil hu] at h; simp at h
    · rw [ups_cons hu] at h
      have hl := upL_len hu
      rcases List.mem_cons.1 h with rfl | h
      · exact ⟨hl, hu⟩
      · have := ih _ hl h rfl
        exact ⟨by omega, this.2⟩
theorem ups_trans {a b c : List UInt8} (h1 : a ∈ ups b) (h2 : b ∈ ups c) : a ∈ ups c := by
  generalize hn : c.length = n at *
  induction n using Nat.strongRecOn generalizing c with
  | _ n ih =>
    subst hn
    by_cases hu : upL c = []
    · rw [ups_nil hu] at h2; simp at h2
    · rw [ups_cons hu] at h2 ⊢
      rcases List.mem_cons.1 h2 with rfl | h
      · exact List.mem_cons_of_mem _ h1
      · exact List.mem_cons_of_mem _ (ih _ (upL_len hu) h rfl)
theorem ups_line {a b c : List UInt8} (h1 : a ∈ ups c) (h2 : b ∈ ups c) : a = b ∨ a ∈ ups b ∨ b ∈ ups a := by
  generalize hn : c.length = n at *
  induction n using Nat.strongRecOn generalizing c with
  | _ n ih =>
    subst hn
    by_cases hu : upL c = []
    · rw [ups_nil hu] at h2; simp at h2
    · rw [ups_cons hu] at h1 h2
      rcases List.mem_cons.1 h1 with rfl | h1
      · rcases List.mem_cons.1 h2 with rfl | h2
        · exact .inl rfl
        · exact .inr (.inr h2)
      · rcases List.mem_cons.1 h2 with rfl | h2
        · exact .inr (.inl h1)
        · exact ih _ (upL_len hu) h1 h2 rfl
theorem befL_iff {a b : List UInt8} : befL a b = true ↔ a ∈ ups b := by unfold befL; simp
/-- Of a tree's spans: what is around one of them is just around another one of them. -/
theorem TreeOk.kid {T : List Spn} (h : TreeOk T) {y : Spn} (hy : y ∈ T) {a : List UInt8} (ha : a ∈ ups (nm y)) : ∃ z ∈ T, upL (nm z) = a := by
  generalize hn : (nm y).length = n at *
  induction n using Nat.strongRecOn generalizing y with
  | _ n ih =>
    subst hn
    by_cases hu : upL (nm y) = []
    · rw [ups_nil hu] at ha; simp at ha
    · rw [ups_cons hu] at ha
      rcases List.mem_cons.1 ha with rfl | ha
      · exact ⟨y, hy, rfl⟩
      · rcases h.closed y hy with h1 | ⟨z, hz, h1⟩
        · exact absurd h1 hu
        · rw [← h1] at ha
          exact ih _ (by rw [h1]; exact upL_len hu) hz ha rfl
theorem nodup_idx {T : List Spn} (h : (T.map nm).Nodup) {i j : Nat} {x y : Spn} (hi : T[i]? = some x) (hj : T[j]? = some y) (e : nm x = nm y) : i = j := by
  have h1 : (T.map nm)[i]? = some (nm x) := by rw [List.getElem?_map, hi]; rfl
  have h2 : (T.map nm)[j]? = some (nm x) := by rw [List.getElem?_map, hj, e]; rfl
  have hl : i < (T.map nm).length := by rw [List.length_map]; exact get_lt hi
  exact (List.getElem?_inj hl h).1 (h1.trans h2.symm)
theorem mem_erase {T : List Spn} {k : Nat} {x z : Spn} (h : (T.map nm).Nodup) (hk : T[k]? = some x) : z ∈ T.eraseIdx k ↔ z ∈ T ∧ nm z ≠ nm x := by
  rw [List.mem_eraseIdx_iff_getElem?]
  constructor
  · rintro ⟨i, hne, hi⟩
    refine ⟨List.mem_of_getElem? hi, fun e => hne (nodup_idx h hi hk e)⟩
  · rintro ⟨hz, hne⟩
    obtain ⟨i, hi⟩ := List.getElem?_of_mem hz
    exact ⟨i, fun e => hne (by subst e; rw [hk] at hi; simp at hi; rw [hi]), hi⟩
/-- Without one, spans are still a forest if it is around none of them. -/
theorem TreeOk.leaf {T : List Spn} (h : TreeOk T) {k : Nat} {x : Spn} (hk : T[k]? = some x) : forestB (T.eraseIdx k) = !(T.any fun y => befL (nm x) (nm y)) := by
  have hnd := h.nodup
  cases ha : T.any fun y => befL (nm x) (nm y)
  · refine (forest_iff _).2 ⟨?_, fun y hy => ?_⟩
    · exact (List.Sublist.map nm (List.eraseIdx_sublist T k)).nodup hnd
    · have hy' := (mem_erase hnd hk).1 hy
      rcases h.closed y hy'.1 with h1 | ⟨z, hz, h1⟩
      · exact .inl h1
      · by_cases hu : upL (nm y) = []
        · exact .inl hu
        · refine .inr ⟨z, (mem_erase hnd hk).2 ⟨hz, fun e => ?_⟩, h1⟩
          rw [List.any_eq_false] at ha
          refine ha y hy'.1 (befL_iff.2 ?_)
          rw [ups_cons hu, ← h1, e]
          exact List.mem_cons_self
  · obtain ⟨y, hy, hb⟩ := List.any_eq_true.1 ha
    obtain ⟨z, hz, hzx⟩ := h.kid hy (befL_iff.1 hb)
    have hne := (ups_len (befL_iff.1 hb)).2
    have hzl : nm z ≠ nm x := fun e => by
      have := upL_len (l := nm z) (by rw [hzx]; exact hne)
      rw [hzx, e] at this
      exact Nat.lt_irrefl _ this
    cases hf : forestB (T.eraseIdx k)
    · rfl
    · obtain ⟨_, hup⟩ := (forest_iff _).1 hf
      rcases hup z ((mem_erase hnd hk).2 ⟨hz, hzl⟩) with h1 | ⟨v, hv, h1⟩
      · rw [hzx] at h1; exact absurd h1 hne
      · exact absurd (h1.trans hzx) ((mem_erase hnd hk).1 hv).2
theorem twice_no (L : List Spn) (x : Spn) : forestB (L ++ [x, x]) = false := by
  cases hf : forestB (L ++ [x, x])
  · rfl
  · have := ((forest_iff _).1 hf).1
    rw [List.map_append, List.nodup_append] at this
    have := this.2.1
    simp at this
end Go.Proofs.Ytnmcdecdgcnmbaa
