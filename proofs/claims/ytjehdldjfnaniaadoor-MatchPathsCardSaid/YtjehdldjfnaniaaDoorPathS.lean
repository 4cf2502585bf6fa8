/- Paths: match.Path, On, begins; parts of rewrite; begins and IsPath of the reference. -/
import Derived.Test.YtjehdldjfnaniaaDoorShelf
import Derived.Test.YtjehdldjfnaniaaDoorPathP
import Derived.Test.YtjehdldjfnaniaaDoorHeadHV
import Derived.Laws.RangeAny
import Derived.Outline
set_option linter.unusedVariables false
namespace Go.Proofs.YtjehdldjfnaniaaDoor
open Go.RowKit

/-- What internal/bytealg.MaxLen holds is a number. -/
def MaxL (w : World) : Prop := ∃ m, w.cell? ⟨0, 0, none⟩ = some (.int .i64 m)
theorem MaxL.keep {w w' : World} (h : MaxL w) (f : Frm noB w w') : MaxL w' := by
  obtain ⟨m, hm⟩ := h
  exact ⟨m, cell_frm f (fun h => h) hm⟩
theorem split_eq (s : ByteArray) : Lib.splitB ⟨#[47]⟩ 0 (Lib.countB s ⟨#[47]⟩) s = (cutL s.data.toList).map bs := by
  have h := Lib.splitB_data ⟨#[47]⟩ 0 (Lib.countB s ⟨#[47]⟩) s
  have e : Lib.splitK (⟨#[47]⟩ : ByteArray).data.toList 0 (Lib.countB s ⟨#[47]⟩) s.data.toList = cutL s.data.toList := split_is s.data.toList
  rw [e] at h
  rw [← h, List.map_map]
  conv => lhs; rw [← List.map_id (Lib.splitB ⟨#[47]⟩ 0 (Lib.countB s ⟨#[47]⟩) s)]
  exact List.map_congr_left fun x _ => rfl
theorem str_lit1 (w : World) (l : List ByteArray) (cs : Array Value) (hcs : cs.toList = l.map Value.string) (n : Nat) (hn : l.length = n) (base : Nat) (hb : base ≤ w.heap.size) (hm : n ≤ 1000001) :
    Own strE (w.alloc (.cells cs 9)) base 9 (.slice (some ⟨w.heap.size, 0, none⟩) n n) l := by
  have hr0 : ∀ l : List ByteArray, rowOf strE l = l.map Value.string := by
    intro l
    induction l with
    | nil => rfl
    | cons a l ih => rw [rowOf_cons, ih]; rfl
  have hr : rowOf strE l = cs.toList := by rw [hcs, hr0]
  unfold Own
  rw [hr, hn]
  refine World.ownsRow_lit w cs n hb (by simp only [maxLen]; omega) ?_
  have : cs.toList.length = n := by rw [hcs, List.length_map, hn]
  rw [← Array.length_toList, this]
  simp [strE]
theorem split_any (s : ByteArray) (w : World) (hs : s.size ≤ 1000000) (hm : MaxL w) :
    Calls Tryd.prog 34 #[.string s, .string ⟨#[47]⟩] w fun e w' => ∃ v, e = .returned v ∧ Own strE w' w.heap.size 9 v ((cutL s.data.toList).map bs) ∧ Frm noB w w' := by
  obtain ⟨m, hm⟩ := hm
  refine (Tryd.strings_Split s ⟨#[47]⟩ m w (by omega) hm (Nat.le_refl 1)).mono ?_
  rintro e w' ⟨rfl, rfl⟩
  refine ⟨_, rfl, ?_, (Frm.refl _ _).alloc _⟩
  rw [split_eq]
  have hl : Lib.countB s ⟨#[47]⟩ + 1 = ((cutL s.data.toList).map bs).length := by
    rw [← split_eq]; exact (Lib.splitB_all ⟨#[47]⟩ (Nat.le_refl 1) 0 _ s rfl).symm
  have hc := Lib.countB_le ⟨#[47]⟩ (Nat.le_refl 1) s.size s (Nat.le_refl _)
  have hc2 : ((cutL s.data.toList).map bs).length ≤ 1000001 := by rw [← hl]; omega
  rw [hl]
  exact str_lit1 w _ _ rfl _ rfl _ (Nat.le_refl _) hc2

def wrongR (r : Nat) : Bool := !okBN r
set_option maxHeartbeats 1000000 in
theorem wrong_at (w : World) : PredAt Tryd.prog 33 #[] encR wrongR w := fun W r _ => by
  unfold FnGives
  have hcs : r < 45 ∨ r = 45 ∨ r = 46 ∨ r = 47 ∨ (48 ≤ r ∧ r ≤ 57) ∨ (58 ≤ r ∧ r ≤ 94) ∨ r = 95 ∨ r = 96 ∨ (97 ≤ r ∧ r ≤ 122) ∨ 123 ≤ r := by omega
  rcases hcs with h0 | h1 | h2 | h3 | h4 | h5 | h6 | h7 | h8 | h9
  · have t0 : decide ((97 : Int) ≤ (r : Int)) = false := decide_eq_false (by omega)
    have t1 : decide ((r : Int) ≤ 122) = true := decide_eq_true (by omega)
    have t2 : decide ((48 : Int) ≤ (r : Int)) = false := decide_eq_false (by omega)
    have t3 : decide ((r : Int) ≤ 57) = true := decide_eq_true (by omega)
    have t4 : ((r : Int) == 45) = false := by simp; omega
    have t5 : ((r : Int) != 45) = true := by simp; omega
    have t6 : ((r : Int) == 95) = false := by simp; omega
    have t7 : ((r : Int) != 95) = true := by simp; omega
    have t8 : ((r : Int) == 46) = false := by simp; omega
    have t9 : ((r : Int) != 46) = true := by simp; omega
    have hr : okBN r = false := by unfold okBN; exact decide_eq_false (by omega)
    have hw : wrongR r = true := by unfold wrongR; rw [hr]; rfl
    have Hr := Lib.hid hr
    have Hw := Lib.hid hw
    have H0 := Lib.hid h0
    clear hr hw h0
    go_enter Tryd.func33, Tryd.ntmps33
    go_wp2_with fail
    go_ret
    exact ⟨by rw [Hw.out]; rfl, 0, rfl⟩
  · have t0 : decide ((97 : Int) ≤ (r : Int)) = false := decide_eq_false (by omega)
    have t1 : decide ((r : Int) ≤ 122) = true := decide_eq_true (by omega)
    have t2 : decide ((48 : Int) ≤ (r : Int)) = false := decide_eq_false (by omega)
    have t3 : decide ((r : Int) ≤ 57) = true := decide_eq_true (by omega)
    have t4 : ((r : Int) == 45) = true := by simp; omega
    have t5 : ((r : Int) != 45) = false := by simp; omega
    have t6 : ((r : Int) == 95) = false := by simp; omega
    have t7 : ((r : Int) != 95) = true := by simp; omega
    have t8 : ((r : Int) == 46) = false := by simp; omega
    have t9 : ((r : Int) != 46) = true := by simp; omega
    have hr : okBN r = true := by unfold okBN; exact decide_eq_true (by omega)
    have hw : wrongR r = false := by unfold wrongR; rw [hr]; rfl
    have Hr := Lib.hid hr
    have Hw := Lib.hid hw
    have H1 := Lib.hid h1
    clear hr hw h1
    go_enter Tryd.func33, Tryd.ntmps33
    go_wp2_with fail
    go_ret
    exact ⟨by rw [Hw.out]; rfl, 0, rfl⟩
  · have t0 : decide ((97 : Int) ≤ (r : Int)) = false := decide_eq_false (by omega)
    have t1 : decide ((r : Int) ≤ 122) = true := decide_eq_true (by omega)
    have t2 : decide ((48 : Int) ≤ (r : Int)) = false := decide_eq_false (by omega)
    have t3 : decide ((r : Int) ≤ 57) = true := decide_eq_true (by omega)
    have t4 : ((r : Int) == 45) = false := by simp; omega
    have t5 : ((r : Int) != 45) = true := by simp; omega
    have t6 : ((r : Int) == 95) = false := by simp; omega
    have t7 : ((r : Int) != 95) = true := by simp; omega
    have t8 : ((r : Int) == 46) = true := by simp; omega
    have t9 : ((r : Int) != 46) = false := by simp; omega
    have hr : okBN r = true := by unfold okBN; exact decide_eq_true (by omega)
    have hw : wrongR r = false := by unfold wrongR; rw [hr]; rfl
    have Hr := Lib.hid hr
    have Hw := Lib.hid hw
    have H2 := Lib.hid h2
    clear hr hw h2
    go_enter Tryd.func33, Tryd.ntmps33
    go_wp2_with fail
    go_ret
    exact ⟨by rw [Hw.out]; rfl, 0, rfl⟩
  · have t0 : decide ((97 : Int) ≤ (r : Int)) = false := decide_eq_false (by omega)
    have t1 : decide ((r : Int) ≤ 122) = true := decide_eq_true (by omega)
    have t2 : decide ((48 : Int) ≤ (r : Int)) = false := decide_eq_false (by omega)
    have t3 : decide ((r : Int) ≤ 57) = true := decide_eq_true (by omega)
    have t4 : ((r : Int) == 45) = false := by simp; omega
    have t5 : ((r : Int) != 45) = true := by simp; omega
    have t6 : ((r : Int) == 95) = false := by simp; omega
    have t7 : ((r : Int) != 95) = true := by simp; omega
    have t8 : ((r : Int) == 46) = false := by simp; omega
    have t9 : ((r : Int) != 46) = true := by simp; omega
    have hr : okBN r = false := by unfold okBN; exact decide_eq_false (by omega)
    have hw : wrongR r = true := by unfold wrongR; rw [hr]; rfl
    have Hr := Lib.hid hr
    have Hw := Lib.hid hw
    have H3 := Lib.hid h3
    clear hr hw h3
    go_enter Tryd.func33, Tryd.ntmps33
    go_wp2_with fail
    go_ret
    exact ⟨by rw [Hw.out]; rfl, 0, rfl⟩
  · have t0 : decide ((97 : Int) ≤ (r : Int)) = false := decide_eq_false (by omega)
    have t1 : decide ((r : Int) ≤ 122) = true := decide_eq_true (by omega)
    have t2 : decide ((48 : Int) ≤ (r : Int)) = true := decide_eq_true (by omega)
    have t3 : decide ((r : Int) ≤ 57) = true := decide_eq_true (by omega)
    have t4 : ((r : Int) == 45) = false := by simp; omega
    have t5 : ((r : Int) != 45) = true := by simp; omega
    have t6 : ((r : Int) == 95) = false := by simp; omega
    have t7 : ((r : Int) != 95) = true := by simp; omega
    have t8 : ((r : Int) == 46) = false := by simp; omega
    have t9 : ((r : Int) != 46) = true := by simp; omega
    have hr : okBN r = true := by unfold okBN; exact decide_eq_true (by omega)
    have hw : wrongR r = false := by unfold wrongR; rw [hr]; rfl
    have Hr := Lib.hid hr
    have Hw := Lib.hid hw
    have H4 := Lib.hid h4
    clear hr hw h4
    go_enter Tryd.func33, Tryd.ntmps33
    go_wp2_with fail
    go_ret
    exact ⟨by rw [Hw.out]; rfl, 0, rfl⟩
  · have t0 : decide ((97 : Int) ≤ (r : Int)) = false := decide_eq_false (by omega)
    have t1 : decide ((r : Int) ≤ 122) = true := decide_eq_true (by omega)
    have t2 : decide ((48 : Int) ≤ (r : Int)) = true := decide_eq_true (by omega)
    have t3 : decide ((r : Int) ≤ 57) = false := decide_eq_false (by omega)
    have t4 : ((r : Int) == 45) = false := by simp; omega
    have t5 : ((r : Int) != 45) = true := by simp; omega
    have t6 : ((r : Int) == 95) = false := by simp; omega
    have t7 : ((r : Int) != 95) = true := by simp; omega
    have t8 : ((r : Int) == 46) = false := by simp; omega
    have t9 : ((r : Int) != 46) = true := by simp; omega
    have hr : okBN r = false := by unfold okBN; exact decide_eq_false (by omega)
    have hw : wrongR r = true := by unfold wrongR; rw [hr]; rfl
    have Hr := Lib.hid hr
    have Hw := Lib.hid hw
    have H5 := Lib.hid h5
    clear hr hw h5
    go_enter Tryd.func33, Tryd.ntmps33
    go_wp2_with fail
    go_ret
    exact ⟨by rw [Hw.out]; rfl, 0, rfl⟩
  · have t0 : decide ((97 : Int) ≤ (r : Int)) = false := decide_eq_false (by omega)
    have t1 : decide ((r : Int) ≤ 122) = true := decide_eq_true (by omega)
    have t2 : decide ((48 : Int) ≤ (r : Int)) = true := decide_eq_true (by omega)
    have t3 : decide ((r : Int) ≤ 57) = false := decide_eq_false (by omega)
    have t4 : ((r : Int) == 45) = false := by simp; omega
    have t5 : ((r : Int) != 45) = true := by simp; omega
    have t6 : ((r : Int) == 95) = true := by simp; omega
    have t7 : ((r : Int) != 95) = false := by simp; omega
    have t8 : ((r : Int) == 46) = false := by simp; omega
    have t9 : ((r : Int) != 46) = true := by simp; omega
    have hr : okBN r = true := by unfold okBN; exact decide_eq_true (by omega)
    have hw : wrongR r = false := by unfold wrongR; rw [hr]; rfl
    have Hr := Lib.hid hr
    have Hw := Lib.hid hw
    have H6 := Lib.hid h6
    clear hr hw h6
    go_enter Tryd.func33, Tryd.ntmps33
    go_wp2_with fail
    go_ret
    exact ⟨by rw [Hw.out]; rfl, 0, rfl⟩
  · have t0 : decide ((97 : Int) ≤ (r : Int)) = false := decide_eq_false (by omega)
    have t1 : decide ((r : Int) ≤ 122) = true := decide_eq_true (by omega)
    have t2 : decide ((48 : Int) ≤ (r : Int)) = true := decide_eq_true (by omega)
    have t3 : decide ((r : Int) ≤ 57) = false := decide_eq_false (by omega)
    have t4 : ((r : Int) == 45) = false := by simp; omega
    have t5 : ((r : Int) != 45) = true := by simp; omega
    have t6 : ((r : Int) == 95) = false := by simp; omega
    have t7 : ((r : Int) != 95) = true := by simp; omega
    have t8 : ((r : Int) == 46) = false := by simp; omega
    have t9 : ((r : Int) != 46) = true := by simp; omega
    have hr : okBN r = false := by unfold okBN; exact decide_eq_false (by omega)
    have hw : wrongR r = true := by unfold wrongR; rw [hr]; rfl
    have Hr := Lib.hid hr
    have Hw := Lib.hid hw
    have H7 := Lib.hid h7
    clear hr hw h7
    go_enter Tryd.func33, Tryd.ntmps33
    go_wp2_with fail
    go_ret
    exact ⟨by rw [Hw.out]; rfl, 0, rfl⟩
  · have t0 : decide ((97 : Int) ≤ (r : Int)) = true := decide_eq_true (by omega)
    have t1 : decide ((r : Int) ≤ 122) = true := decide_eq_true (by omega)
    have t2 : decide ((48 : Int) ≤ (r : Int)) = true := decide_eq_true (by omega)
    have t3 : decide ((r : Int) ≤ 57) = false := decide_eq_false (by omega)
    have t4 : ((r : Int) == 45) = false := by simp; omega
    have t5 : ((r : Int) != 45) = true := by simp; omega
    have t6 : ((r : Int) == 95) = false := by simp; omega
    have t7 : ((r : Int) != 95) = true := by simp; omega
    have t8 : ((r : Int) == 46) = false := by simp; omega
    have t9 : ((r : Int) != 46) = true := by simp; omega
    have hr : okBN r = true := by unfold okBN; exact decide_eq_true (by omega)
    have hw : wrongR r = false := by unfold wrongR; rw [hr]; rfl
    have Hr := Lib.hid hr
    have Hw := Lib.hid hw
    have H8 := Lib.hid h8
    clear hr hw h8
    go_enter Tryd.func33, Tryd.ntmps33
    go_wp2_with fail
    go_ret
    exact ⟨by rw [Hw.out]; rfl, 0, rfl⟩
  · have t0 : decide ((97 : Int) ≤ (r : Int)) = true := decide_eq_true (by omega)
    have t1 : decide ((r : Int) ≤ 122) = false := decide_eq_false (by omega)
    have t2 : decide ((48 : Int) ≤ (r : Int)) = true := decide_eq_true (by omega)
    have t3 : decide ((r : Int) ≤ 57) = false := decide_eq_false (by omega)
    have t4 : ((r : Int) == 45) = false := by simp; omega
    have t5 : ((r : Int) != 45) = true := by simp; omega
    have t6 : ((r : Int) == 95) = false := by simp; omega
    have t7 : ((r : Int) != 95) = true := by simp; omega
    have t8 : ((r : Int) == 46) = false := by simp; omega
    have t9 : ((r : Int) != 46) = true := by simp; omega
    have hr : okBN r = false := by unfold okBN; exact decide_eq_false (by omega)
    have hw : wrongR r = true := by unfold wrongR; rw [hr]; rfl
    have Hr := Lib.hid hr
    have Hw := Lib.hid hw
    have H9 := Lib.hid h9
    clear hr hw h9
    go_enter Tryd.func33, Tryd.ntmps33
    go_wp2_with fail
    go_ret
    exact ⟨by rw [Hw.out]; rfl, 0, rfl⟩
theorem idx_wrong (s : ByteArray) : ∀ (f pos : Nat), s.size ≤ pos + f → decide (0 ≤ Lib.idxFuncFrom wrongR true s f pos) = !((s.data.toList.drop pos).all okB) := by
  intro f
  induction f with
  | zero =>
    intro pos h
    rw [List.drop_of_length_le (by rw [ba_len]; omega)]
    rfl
  | succ f ih =>
    intro pos h
    by_cases hp : pos < s.size
    · have hd : s.data.toList.drop pos = s[pos] :: s.data.toList.drop (pos + 1) := by
        rw [List.drop_eq_getElem_cons (by rw [ba_len]; exact hp)]; rfl
      rw [hd, List.all_cons]
      unfold Lib.idxFuncFrom
      rw [if_pos hp]
      by_cases ha : (s[pos]).toNat < 128
      · rw [decode_ascii s pos hp ha]
        cases hk : okB s[pos]
        · have : wrongR (s[pos]).toNat = true := by unfold wrongR; rw [show okBN (s[pos]).toNat = okB s[pos] from rfl, hk]; rfl
          simp only [this, if_true, Bool.false_and, Bool.not_false]
          exact decide_eq_true (by omega)
        · have : wrongR (s[pos]).toNat = false := by unfold wrongR; rw [show okBN (s[pos]).toNat = okB s[pos] from rfl, hk]; rfl
          simp only [this, Bool.false_eq_true, if_false, Bool.true_and]
          exact ih (pos + 1) (by omega)
      · have h1 := (decode_high s pos hp (by omega)).1
        have : wrongR (Utf8.decode s pos).1 = true := by
          unfold wrongR okBN
          rw [decide_eq_false (by omega)]; rfl
        rw [this, if_pos rfl]
        have hk : okB s[pos] = false := by unfold okB okBN; exact decide_eq_false (by omega)
        rw [hk]
        simp
    · rw [List.drop_of_length_le (by rw [ba_len]; omega), Lib.idxFuncFrom_end _ _ _ _ _ hp]
      rfl
theorem contains_wrong (s : ByteArray) (w : World) :
    Calls Tryd.prog 35 #[.string s, .func (.func 33) #[] #[]] w fun e w' => e = .returned (.bool (!(s.data.toList.all okB))) ∧ Frm noB w w' := by
  have hC := Tryd.strings_ContainsFunc 33 #[] (enters_of Tryd.func33 (by kernel_rfl) rfl) wrongR s w (wrong_at w)
  refine hC.mono ?_
  rintro e w' ⟨rfl, hb⟩
  refine ⟨?_, Frm.ofBelow hb (Nat.le_refl _) _⟩
  have := idx_wrong s s.size 0 (by omega)
  rw [List.drop_zero] at this
  rw [← this]; rfl
end Go.Proofs.YtjehdldjfnaniaaDoor
