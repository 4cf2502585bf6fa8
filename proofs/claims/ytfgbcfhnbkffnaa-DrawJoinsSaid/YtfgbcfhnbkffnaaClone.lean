/- slices.Clone at []uint64. -/
import Derived.Test.YtfgbcfhnbkffnaaLib
set_option linter.unusedVariables false
namespace Go.Proofs.Ytfgbcfhnbkffnaa
open Go.RowKit

theorem info_u64 : (Try.prog.info? 22).map (fun i => (i.zero, i.size, i.bytes)) = some (some (.int .u64 0), 1, 8) := by kernel_rfl

set_option maxHeartbeats 400000 in
theorem clone_u64 (b off n c : Nat) (xs : List Value) (w : World) (hn : n * 8 ≤ 140737488355328) (hx : xs.length = n) (h1 : ∀ u ∈ xs, u.oneCell' = true)
    (hc : ∀ j u, xs[j]? = some u → w.cell? ⟨b, off + j, none⟩ = some u) :
    Calls Try.prog 21 #[.slice (some ⟨b, off, none⟩) n c] w fun e w' => ∃ v, e = .returned v ∧ w'.ownsRow w.heap.size 22 1 v n xs ∧ Frm noB w w' ∧ v ≠ .slice none 0 0 := by
  obtain ⟨i0, hi, hz0, hz1, hz2⟩ := info_parts info_u64
  have heq := fun (w : World) => Lib.run_eql_slice_nil (P := Try.prog) w 23 22 (some ⟨b, off, none⟩) n c 0 0 Try.underlying23
  have Hc := Lib.hid hc
  have Hx := Lib.hid hx
  clear hc hx
  go_enter Try.func21, Try.ntmps21
  go_wp2_with (at_builtin; refine wpList_append_own _ rfl _ _ 23 rfl w.heap.size 22 i0 (.int .u64 0) 1 8 Try.underlying23 hi hz0 hz1 hz2 rfl (by decide) _ 0 [] rfl (World.ownsRow_made w #[] 0 (Nat.le_refl _) (by decide) rfl) ⟨b, off, none⟩ n c xs rfl ?c1 ?c2 h1 ?c3 ?c4 ?c5 ?_)
  case c1 => rw [Hx.out, Nat.mul_one]
  case c2 =>
    intro j u hu
    have hcj := Hc.out j u hu
    have hlt : b < w.heap.size := World.block_lt_of_cell? w ⟨b, off + j, none⟩ hcj
    rw [Addr.add_lit]
    rw [World.cell?_alloc_lt _ _ _ hlt]; exact hcj
  case c3 => simp only [maxLen]; omega
  case c4 => omega
  case c5 => simp
  intro v' w1 hown hg hnil
  have Hown := Lib.hid hown
  have Hg := Lib.hid hg
  have Hnil := Lib.hid hnil
  clear hown hg hnil
  go_wp2
  go_ret
  refine ⟨_, rfl, by simpa using Hown.out, ?_, by have := Hnil.out; simpa using this⟩
  exact (((Frm.refl noB w).alloc _).new (Frm.ofGrown Hg.out) (fun i hi h => by simp [Value.ownBlock] at h; omega))
end Go.Proofs.Ytfgbcfhnbkffnaa
