/- around of the collector: what is around a name, one after the other. -/
import Derived.Test.YtpgcfeplcibhoaaDoorUps
import Derived.RangeFuncNested
import Derived.RangeFuncBound
import Derived.RangeFuncCalls
import Derived.RangeFuncLeaves
import Derived.RangeFuncWrites
import Derived.Shelf.Abstract
import Derived.Shelf.RegionOpen
import Derived.WalkKit
import Derived.OwnWalkIn
import Derived.TacticsInMore
import Derived.LoopNIn
import Derived.LoopIn
import Derived.Maps.OwnIn
import Derived.Maps.AppendAt
set_option linter.unusedVariables false
set_option linter.unusedSimpArgs false
namespace Go.Proofs.YtpgcfeplcibhoaaDoor
open Go.RowKit Go.Shelf
attribute [local go_sem] Oper.semAt_some

theorem around_in (nm : List UInt8) (n : Nat) (w : World) : CallsIn Fence.wide n Tryd.prog 46 #[.string (bs nm)] w fun e w' =>
    e = .returned (.func (.func 59) #[] #[.pointer (some ⟨w.heap.size, 0, none⟩)]) ∧ w' = w.alloc (.cells #[.string (bs nm)] 9) := by
  refine callsIn_of_wp Tryd.func46 rfl trivial ?_ rfl
  simp only [Tryd.ntmps46, List.size_toArray, List.length_cons, List.length_nil, Nat.reduceAdd, Nat.reduceSub, Array.replicate_succ, Array.replicate_zero, List.push_toArray, List.append_toArray, List.nil_append, List.cons_append]
  gi_wp2
  go_ret
  exact ⟨rfl, rfl⟩

abbrev UpX (nm : List UInt8) := { x : List UInt8 // x ∈ ups nm }
def strLen : Value → Nat
  | .string s => s.size
  | _ => 0
def restOf (y : List UInt8) : List (List UInt8) := if y = [] then [] else y :: ups y
theorem restOf_up (y : List UInt8) : restOf (upL y) = ups y := by
  unfold restOf
  by_cases h : upL y = []
  · rw [if_pos h, ups_nil h]
  · rw [if_neg h, ups_cons h]
theorem upL_lt {y : List UInt8} (h : y ≠ []) : (upL y).length < y.length := by
  by_cases h1 : upL y = []
  · rw [h1]; exact List.length_pos_iff.2 h
  · exact upL_len h1
theorem bs_nil_beq (y : List UInt8) : (bs y).toList.isEmpty = decide (y = []) := by
  rw [bs_isEmpty]
  cases y <;> rfl
set_option maxRecDepth 100000 in
set_option maxHeartbeats 1000000 in
theorem around1_in (n : Nat) (l Bn : Nat) (nm : List UInt8) (hs : nm.length ≤ 1000000) (J Jx : List (UpX nm) → World → Prop)
    (hY : ∀ pre x W, J pre W → pre.length < (ups nm).length → YieldAt Fence.wide (n - 1) Tryd.prog l #[.string (bs x.1)] W fun e W' =>
      (e = .returned (.bool true) ∧ J (pre ++ [x]) W' ∧ True) ∨ (e = .returned (.bool false) ∧ Jx (pre ++ [x]) W'))
    (W : World) (hBn : W.cell? ⟨Bn, 0, none⟩ = some (.string (bs nm))) (h0 : J [] W) :
    CallsIn Fence.wide n Tryd.prog 59 #[.func (.yield l) #[] #[], .pointer (some ⟨Bn, 0, none⟩)] W fun e W' => (∃ v, e = .returned v) ∧
      ((∃ ys : List (UpX nm), ys.map (·.1) = ups nm ∧ J ys W') ∨ (∃ pre : List (UpX nm), pre.map (·.1) <+: ups nm ∧ Jx pre W')) := by
  have hu := fun (y : List UInt8) (hy : y.length ≤ 1000000) (w : World) => up_any (bs y) w (by rw [bs_size]; exact hy)
  refine callsIn_of_wp Tryd.func59 rfl trivial ?_ rfl
  simp only [Tryd.ntmps59, List.size_toArray, List.length_cons, List.length_nil, Nat.reduceAdd, Nat.reduceSub, Array.replicate_succ, Array.replicate_zero, List.push_toArray, List.append_toArray, List.nil_append, List.cons_append]
  gi_wp2_with (refine ⟨trivial, fun h => (by cases h), ?_⟩; gi_at_call 24; refine (callsIn_wide.2 (hu nm hs _)).mono ?_; rintro e w' ⟨rfl, rfl⟩)
  gi_loopw [3] (fun p wr => ∃ (pre : List (UpX nm)) (y : List UInt8), p = .string (bs y) ∧ y.length ≤ 1000000 ∧ ups nm = pre.map (·.1) ++ restOf y ∧ J pre wr)
    (fun p wr => strLen p)
  case atStart =>
    exact ⟨[], upL nm, rfl, Nat.le_trans (upL_le nm) hs, (restOf_up nm).symm, h0⟩
  case round =>
    obtain ⟨pre, y, rfl, hy, hx, hJs⟩ := hrel
    have ht := bs_nil_beq y
    by_cases hy0 : y = []
    · rw [decide_eq_true hy0] at ht
      have Hy0 := Lib.hid hy0
      clear hy0
      gi_wp2
      go_end0
      refine ⟨⟨_, rfl⟩, .inl ⟨pre, ?_, hJs⟩⟩
      exact (hx.trans (by rw [Hy0.out]; simp [restOf])).symm
    · rw [decide_eq_false hy0] at ht
      have hr : restOf y = y :: ups y := by unfold restOf; rw [if_neg hy0]
      have Hy1 := Lib.hid hy0
      clear hy0
      have hm : y ∈ ups nm := by rw [hx, hr]; simp
      obtain ⟨fn, tmps, assign, body, hyy, hR⟩ := hY pre ⟨y, hm⟩ wr hJs (by rw [hx, hr]; simp)
      dsimp only at hyy
      gi_wp2
      refine ⟨fun h => (by cases h), hR.mono ?_⟩
      rintro e W3 (⟨rfl, hJ3, _⟩ | ⟨rfl, hJx3⟩)
      · gi_wp2_with (refine ⟨trivial, fun h => (by cases h), ?_⟩; gi_at_call 24; refine (callsIn_wide.2 (hu y hy _)).mono ?_; rintro e w' ⟨rfl, rfl⟩)
        go_roundw
        case rel => exact ⟨pre ++ [⟨y, hm⟩], upL y, rfl, Nat.le_trans (upL_le y) hy, hx.trans (by rw [hr, restOf_up, List.map_append, List.append_assoc]; rfl), hJ3⟩
        case measure =>
          show (bs (upL y)).size < (bs y).size
          rw [bs_size, bs_size]; exact upL_lt Hy1.out
      · gi_wp2
        refine bodyPost_ret (results_none rfl _ _ _) rfl ?_
        exact ⟨⟨_, rfl⟩, .inr ⟨pre ++ [⟨y, hm⟩], ⟨ups y, (hx.trans (by rw [hr, List.map_append, List.append_assoc]; rfl)).symm⟩, hJx3⟩⟩
theorem around_stops (n : Nat) (Bn : Nat) (nm : List UInt8) (hs : nm.length ≤ 1000000) (w : World) (hBn : Bn < w.heap.size) (hc : w.cell? ⟨Bn, 0, none⟩ = some (.string (bs nm))) :
    SeqStopsK Fence.wide n Tryd.prog 59 #[.pointer (some ⟨Bn, 0, none⟩)] (fun x : UpX nm => #[Value.string (bs x.1)]) (fun _ _ => True)
      (fun ys => ys.map (·.1) = ups nm) (fun pre => pre.map (·.1) <+: ups nm) (ups nm).length w := fun l J Jx W hW _ _ hY h0 =>
  around1_in n l Bn nm hs J Jx hY W ((hW.cell (p := ⟨Bn, 0, none⟩) hBn).trans hc) h0
end Go.Proofs.YtpgcfeplcibhoaaDoor
