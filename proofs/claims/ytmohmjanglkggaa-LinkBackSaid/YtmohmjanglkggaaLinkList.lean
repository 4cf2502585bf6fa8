/- Lists of faults in memory; the generator of lists. -/
import Derived.Test.YtmohmjanglkggaaLinkGen
set_option linter.unusedVariables false
namespace Go.Proofs.Ytmohmjanglkggaa
open Go.RowKit

theorem info_flt : (Try.prog.info? 41).map (fun i => (i.zero, i.size, i.bytes)) = some (some (.agg #[.int .i64 0, .int .i64 0, .int .i64 0, .int .i64 0, .int .i64 0, .int .i64 0]), 6, 48) := by kernel_rfl

def fltCells : List Flt → List Value
  | [] => []
  | f :: fs => .int .i64 f.kind :: .int .i64 f.frm :: .int .i64 f.til :: .int .i64 f.a :: .int .i64 f.b :: .int .i64 f.n :: fltCells fs
theorem fltCells_len (fs : List Flt) : (fltCells fs).length = fs.length * 6 := by
  induction fs with
  | nil => rfl
  | cons f fs ih => simp only [fltCells, List.length_cons, ih]; omega
theorem fltCells_app (fs gs : List Flt) : fltCells (fs ++ gs) = fltCells fs ++ fltCells gs := by
  induction fs with
  | nil => rfl
  | cons f fs ih => simp only [fltCells, List.cons_append, ih]
theorem fltCells_one (fs : List Flt) : ∀ u ∈ fltCells fs, u.oneCell' = true := by
  induction fs with
  | nil => intro u hu; simp [fltCells] at hu
  | cons f fs ih =>
    intro u hu
    simp only [fltCells, List.mem_cons] at hu
    rcases hu with rfl | rfl | rfl | rfl | rfl | rfl | hu
    any_goals rfl
    exact ih u hu
/-- The six cells of the j-th fault. -/
theorem fltCells_get (fs : List Flt) (j : Nat) (f : Flt) (h : fs[j]? = some f) :
    (fltCells fs)[j * 6]? = some (.int .i64 f.kind) ∧ (fltCells fs)[j * 6 + 1]? = some (.int .i64 f.frm) ∧ (fltCells fs)[j * 6 + 2]? = some (.int .i64 f.til) ∧
    (fltCells fs)[j * 6 + 3]? = some (.int .i64 f.a) ∧ (fltCells fs)[j * 6 + 4]? = some (.int .i64 f.b) ∧ (fltCells fs)[j * 6 + 5]? = some (.int .i64 f.n) := by
  induction fs generalizing j with
  | nil => simp at h
  | cons g fs ih =>
    cases j with
    | zero =>
      simp at h
      subst h
      simp [fltCells]
    | succ j =>
      have := ih j (by simpa using h)
      rw [show (j + 1) * 6 = j * 6 + 6 from by omega]
      simpa [fltCells] using this

/-- A block of one fault that has just been laid. -/
theorem flt_new (w : World) (f : Flt) : ∀ (j : Nat) (u : Value), (fltCells [f])[j]? = some u →
    (w.alloc (.cells #[.int .i64 f.kind, .int .i64 f.frm, .int .i64 f.til, .int .i64 f.a, .int .i64 f.b, .int .i64 f.n] 41)).cell? ((⟨w.heap.size, 0, none⟩ : Addr).add j) = some u := by
  intro j u hu
  rw [Addr.add_lit, World.cell?_alloc_new, Nat.zero_add]
  rcases j with _ | _ | _ | _ | _ | _ | j <;> simp [fltCells] at hu ⊢
  all_goals exact hu

def SomeFaults (w : World) (e : Ending) (w' : World) : Prop :=
  ∃ (fs : List Flt) (v : Value), e = .returned v ∧ fs.length ≤ 8 ∧ (∀ f ∈ fs, Okf f) ∧ w'.ownsRow w.heap.size 41 6 v fs.length (fltCells fs) ∧ Frm noB w w'

set_option maxHeartbeats 1000000 in
theorem faults_any (a : Option Addr) (n c : Nat) (w : World) (h : IntsIn w a n) : Calls Try.prog 8 #[.slice a n c] w (SomeFaults w) := by
  obtain ⟨i0, hi, hz0, hz1, hz2⟩ := info_parts info_flt
  have hn := h.1
  have H := Lib.hid h
  clear h
  go_enter Try.func8, Try.ntmps8
  go_wp2_with fail
  go_loopw [3, 4] (fun v i wr => ∃ (k : Nat) (fs : List Flt), k ≤ n ∧ k ≤ 8 ∧ i = .int .i64 k ∧ fs.length = k ∧ (∀ f ∈ fs, Okf f) ∧ wr.ownsRow w.heap.size 41 6 v k (fltCells fs) ∧ Frm noB w wr) (fun _ i _ => n - (intOf i).toNat)
  case atStart => exact ⟨0, [], by omega, by omega, rfl, rfl, by simp, World.ownsRow_nil _ _ _ _, Frm.refl _ _⟩
  case round =>
    obtain ⟨k, fs, hk, hk8, rfl, hlen, hok, hown, hf⟩ := hrel
    have Hlen := Lib.hid hlen
    have Hok := Lib.hid hok
    have Hown := Lib.hid hown
    have Hf := Lib.hid hf
    clear hlen hok hown hf
    by_cases hlt : k < n
    · by_cases hlt8 : k < 8
      · obtain ⟨b, off, x, ha, ⟨hx0, hx1⟩, hc⟩ := H.out.2 k hlt
        subst ha
        have hcell := cell_frm Hf.out (fun h => h) hc
        clear hc
        go_wp2_with fail
        refine (fault_any x _ hx0 hx1).mono ?_
        rintro e w1 ⟨f, rfl, hokf, hf1⟩
        have Hokf := Lib.hid hokf
        have Hf1 := Lib.hid (Hf.out.trans hf1)
        have Hown1 := Lib.hid (ownsRow_frm Hown.out hf1 (fun _ _ h => h))
        have hsz := Hf1.out.size
        clear hokf hf1 hcell hx0 hx1
        simp only [fltV]
        go_wp2_with (at_builtin; refine wpList_append_own _ rfl _ _ 23 rfl w.heap.size 41 i0 _ 6 48 Try.underlying23 hi hz0 hz1 hz2 rfl (by decide) _ k (fltCells fs) rfl (Hown1.out.alloc _) ⟨w1.heap.size, 0, none⟩ 1 1 (fltCells [f]) rfl rfl ?c1 ?c2 ?c3 ?c4 ?c5 ?_)
        case c1 => exact flt_new _ _
        case c2 => exact fltCells_one _
        case c3 => simp only [maxLen]; omega
        case c4 => omega
        case c5 => simp; omega
        intro v' w2 hown' hg _
        have Hown' := Lib.hid hown'
        have Hf' := Lib.hid (Hf1.out.grownOwn hg Hown1.out (Nat.le_refl _))
        clear hown' hg
        go_wp2
        go_roundw
        case rel =>
          refine ⟨k + 1, fs ++ [f], by omega, by omega, by go_num, by simp [Hlen.out], ?_, by rw [fltCells_app]; exact Hown'.out, Hf'.out⟩
          intro g hg
          rcases List.mem_append.1 hg with h | h
          · exact Hok.out g h
          · simp at h; subst h; exact Hokf.out
        case measure => simp [intOf]; omega
      · obtain rfl : k = 8 := by omega
        go_wp2
        go_ret
        exact ⟨fs, _, rfl, by rw [Hlen.out]; exact Nat.le_refl _, Hok.out, by rw [Hlen.out]; exact Hown.out, Hf.out⟩
    · obtain rfl : k = n := by omega
      by_cases h8 : k < 8
      · go_wp2
        go_ret
        exact ⟨fs, _, rfl, by rw [Hlen.out]; omega, Hok.out, by rw [Hlen.out]; exact Hown.out, Hf.out⟩
      · go_wp2
        go_ret
        exact ⟨fs, _, rfl, by rw [Hlen.out]; omega, Hok.out, by rw [Hlen.out]; exact Hown.out, Hf.out⟩
end Go.Proofs.Ytmohmjanglkggaa
