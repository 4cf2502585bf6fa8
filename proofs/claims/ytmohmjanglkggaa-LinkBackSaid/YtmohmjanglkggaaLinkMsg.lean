/- The messages of the statements of layer 27. -/
import Derived.Test.YtmohmjanglkggaaLinkGen
set_option linter.unusedVariables false
namespace Go.Proofs.Ytmohmjanglkggaa
open Go.RowKit

structure Msg where
  now : Int
  src : Int
  dst : Int
structure Okm (m : Msg) : Prop where
  n1 : 0 ≤ m.now
  n2 : m.now ≤ 1000
  s1 : 0 ≤ m.src
  s2 : m.src ≤ 202
  d1 : 0 ≤ m.dst
  d2 : m.dst ≤ 202
theorem info_msg : (Try.prog.info? 33).map (fun i => (i.zero, i.size, i.bytes)) = some (some (.agg #[.int .i64 0, .int .i64 0, .int .i64 0]), 3, 24) := by kernel_rfl
def msgCells : List Msg → List Value
  | [] => []
  | f :: fs => .int .i64 f.now :: .int .i64 f.src :: .int .i64 f.dst :: msgCells fs
theorem msgCells_len (fs : List Msg) : (msgCells fs).length = fs.length * 3 := by
  induction fs with
  | nil => rfl
  | cons f fs ih => simp only [msgCells, List.length_cons, ih]; omega
theorem msgCells_app (fs gs : List Msg) : msgCells (fs ++ gs) = msgCells fs ++ msgCells gs := by
  induction fs with
  | nil => rfl
  | cons f fs ih => simp only [msgCells, List.cons_append, ih]
theorem msgCells_one (fs : List Msg) : ∀ u ∈ msgCells fs, u.oneCell' = true := by
  induction fs with
  | nil => intro u hu; simp [msgCells] at hu
  | cons f fs ih =>
    intro u hu
    simp only [msgCells, List.mem_cons] at hu
    rcases hu with rfl | rfl | rfl | hu
    any_goals rfl
    exact ih u hu
theorem msgCells_get (fs : List Msg) (j : Nat) (f : Msg) (h : fs[j]? = some f) :
    (msgCells fs)[j * 3]? = some (.int .i64 f.now) ∧ (msgCells fs)[j * 3 + 1]? = some (.int .i64 f.src) ∧ (msgCells fs)[j * 3 + 2]? = some (.int .i64 f.dst) := by
  induction fs generalizing j with
  | nil => simp at h
  | cons g fs ih =>
    cases j with
    | zero =>
      simp at h
      subst h
      simp [msgCells]
    | succ j =>
      have := ih j (by simpa using h)
      rw [show (j + 1) * 3 = j * 3 + 3 from by omega]
      simpa [msgCells] using this
theorem msg_new (w : World) (f : Msg) : ∀ (j : Nat) (u : Value), (msgCells [f])[j]? = some u →
    (w.alloc (.cells #[.int .i64 f.now, .int .i64 f.src, .int .i64 f.dst] 33)).cell? ((⟨w.heap.size, 0, none⟩ : Addr).add j) = some u := by
  intro j u hu
  rw [Addr.add_lit, World.cell?_alloc_new, Nat.zero_add]
  rcases j with _ | _ | _ | j <;> simp [msgCells] at hu ⊢
  all_goals exact hu

def SomeMsgs (w : World) (e : Ending) (w' : World) : Prop :=
  ∃ (ms : List Msg) (v : Value), e = .returned v ∧ ms.length ≤ 40 ∧ (∀ m ∈ ms, Okm m) ∧ w'.ownsRow w.heap.size 33 3 v ms.length (msgCells ms) ∧ Frm noB w w'

set_option maxHeartbeats 1000000 in
theorem messages_any (a : Option Addr) (n c : Nat) (w : World) (h : IntsIn w a n) : Calls Try.prog 11 #[.slice a n c] w (SomeMsgs w) := by
  obtain ⟨i0, hi, hz0, hz1, hz2⟩ := info_parts info_msg
  have hn := h.1
  have H := Lib.hid h
  clear h
  go_enter Try.func11, Try.ntmps11
  go_wp2_with fail
  go_loopw [3, 4, 5] (fun v t i wr => ∃ (k : Nat) (ms : List Msg) (tt : Int), k ≤ n ∧ k ≤ 40 ∧ i = .int .i64 k ∧ t = .int .i64 tt ∧ 0 ≤ tt ∧ tt ≤ 14 * (k : Int) ∧ ms.length = k ∧ (∀ m ∈ ms, Okm m) ∧ wr.ownsRow w.heap.size 33 3 v k (msgCells ms) ∧ Frm noB w wr) (fun _ _ i _ => n - (intOf i).toNat)
  case atStart => exact ⟨0, [], 0, by omega, by omega, rfl, rfl, by omega, by omega, rfl, by simp, World.ownsRow_nil _ _ _ _, Frm.refl _ _⟩
  case round =>
    obtain ⟨k, ms, tt, hk, hk8, rfl, rfl, ht0, ht1, hlen, hok, hown, hf⟩ := hrel
    have Hlen := Lib.hid hlen
    have Hok := Lib.hid hok
    have Hown := Lib.hid hown
    have Hf := Lib.hid hf
    clear hlen hok hown hf
    by_cases hlt : k < n
    · by_cases hlt8 : k < 40
      · obtain ⟨b, off, x, ha, ⟨hx0, hx1⟩, hc⟩ := H.out.2 k hlt
        subst ha
        have hcell := cell_frm Hf.out (fun h => h) hc
        clear hc
        go_wp2_with fail
        refine (around_any x 1000000 _ hx0 hx1 (by omega) (by omega)).mono ?_
        rintro e w1 ⟨rfl, rfl⟩
        have hm := around_lt x 1000000 (by omega)
        clear hcell hx0 hx1
        generalize around x 1000000 = m at *
        have hd0 : 0 ≤ (m : Int) % 15 := by omega
        have hd1 : (m : Int) % 15 ≤ 14 := by omega
        have hq0 : 0 ≤ (m : Int) / 15 := by omega
        have hq1 : (m : Int) / 15 ≤ 70000 := by omega
        have hr0 : 0 ≤ (m : Int) / 225 % 14 := by omega
        have hr1 : (m : Int) / 225 % 14 ≤ 14 := by omega
        have hm' := Lib.hid hm
        clear hm
        go_wp2_with fail
        refine (some_any _ _ (by omega) (by omega)).mono ?_
        rintro e w1 ⟨rfl, rfl⟩
        have bA := someN_bd ((m : Int) / 15)
        generalize someN ((m : Int) / 15) = A at *
        obtain ⟨bA1, bA2⟩ := bA
        go_wp2_with fail
        refine (some_any _ _ (by omega) (by omega)).mono ?_
        rintro e w1 ⟨rfl, rfl⟩
        have bB := someN_bd ((m : Int) / 15 + 1 + (m : Int) / 225 % 14)
        generalize someN ((m : Int) / 15 + 1 + (m : Int) / 225 % 14) = B at *
        obtain ⟨bB1, bB2⟩ := bB
        have hsz := Hf.out.size
        go_wp2_with (at_builtin; refine wpList_append_own _ rfl _ _ 28 rfl w.heap.size 33 i0 _ 3 24 Try.underlying28 hi hz0 hz1 hz2 rfl (by decide) _ k (msgCells ms) rfl ((Hown.out.alloc _).alloc _) ⟨wr.heap.size + 1, 0, none⟩ 1 1 (msgCells [⟨tt + (m : Int) % 15, A, B⟩]) rfl rfl ?c1 ?c2 ?c3 ?c4 ?c5 ?_)
        case c1 =>
          intro j u hu
          have h := msg_new (wr.alloc (.cells #[.int .i64 (tt + (m : Int) % 15), .int .i64 A, .int .i64 B] 33)) ⟨tt + (m : Int) % 15, A, B⟩ j u hu
          rw [World.size_alloc] at h
          exact h
        case c2 => exact msgCells_one _
        case c3 => simp only [maxLen]; omega
        case c4 => omega
        case c5 => simp; omega
        intro v' w2 hown' hg _
        have Hown' := Lib.hid hown'
        have Hf' := Lib.hid ((Hf.out.alloc (.cells #[.int .i64 (tt + (m : Int) % 15), .int .i64 A, .int .i64 B] 33)).grownOwn hg (Hown.out.alloc _) (Nat.le_refl _))
        clear hown' hg
        go_wp2
        go_roundw
        case rel =>
          refine ⟨k + 1, ms ++ [⟨tt + (m : Int) % 15, A, B⟩], tt + (m : Int) % 15, by omega, by omega, by go_num, rfl, by omega, by omega, by simp [Hlen.out], ?_, by rw [msgCells_app]; exact Hown'.out, Hf'.out⟩
          intro g hg
          rcases List.mem_append.1 hg with h | h
          · exact Hok.out g h
          · simp at h; subst h; constructor <;> simp only <;> omega
        case measure => simp [intOf]; omega
      · obtain rfl : k = 40 := by omega
        go_wp2
        go_ret
        exact ⟨ms, _, rfl, by rw [Hlen.out]; exact Nat.le_refl _, Hok.out, by rw [Hlen.out]; exact Hown.out, Hf.out⟩
    · obtain rfl : k = n := by omega
      by_cases h8 : k < 40
      · go_wp2
        go_ret
        exact ⟨ms, _, rfl, by rw [Hlen.out]; omega, Hok.out, by rw [Hlen.out]; exact Hown.out, Hf.out⟩
      · go_wp2
        go_ret
        exact ⟨ms, _, rfl, by rw [Hlen.out]; omega, Hok.out, by rw [Hlen.out]; exact Hown.out, Hf.out⟩
end Go.Proofs.Ytmohmjanglkggaa
