/- ctx.Depth. -/
import Derived.Test.YtnmcdecdgcnmbaaTreeP
import Derived.Lib.Bytealg
set_option linter.unusedVariables false
namespace Go.Proofs.Ytnmcdecdgcnmbaa
open Go.RowKit

def depL (l : List UInt8) : Nat := Lib.countByte l 47
theorem count_any (s : ByteArray) (w : World) (hs : s.size ≤ 1000000) : Calls Try.prog 33 #[.string s, .string ⟨#[47]⟩] w fun e w' => e = .returned (.int .i64 (depL s.data.toList : Nat)) ∧ w = w' := by
  have hc := fun W => run_callFunc_extern Try.func39 (by kernel_rfl) (by kernel_rfl) (by kernel_rfl) (e := Extern.BytealgCount.count) (by kernel_rfl) (args := #[.string s, .int .u8 47]) (w := W)
  have hr := fun W => Lib.run_countString (P := Try.prog) s 47 W
  have hd : Lib.countByte s.data.toList (47 : Int).toNat.toUInt8 = depL s.data.toList := rfl
  rw [hd] at hr
  have hx : ∀ h, ((⟨#[47]⟩ : ByteArray)[0]'h).toNat = 47 := fun _ => rfl
  go_enter Try.func33, Try.ntmps33
  go_wp2_with fail
  go_ret
  exact ⟨rfl, rfl⟩
theorem depth_any (s : ByteArray) (w : World) (hs : s.size ≤ 1000000) : Calls Try.prog 24 #[.string s] w fun e w' => e = .returned (.int .i64 (depL s.data.toList : Nat)) ∧ w = w' := by
  go_enter Try.func24, Try.ntmps24
  go_wp2_with fail
  with_reducible refine (count_any s _ hs).mono ?_
  rintro e w1 ⟨rfl, rfl⟩
  go_wp2_with fail
  go_ret
  exact ⟨rfl, rfl⟩
theorem depL_app (a b : List UInt8) : depL (a ++ b) = depL a + depL b := by unfold depL Lib.countByte; exact List.count_append
theorem depL_up {l : List UInt8} (h : upL l ≠ []) : depL (upL l) < depL l := by
  obtain ⟨y, hy, hn⟩ := up_split h
  have e : depL l = depL (upL l) + depL (47 :: y) := by rw [← depL_app, ← hy]
  have e2 : depL (47 :: y) = 1 := by
    unfold depL Lib.countByte
    rw [List.count_cons_self, List.count_eq_zero.2 hn]
  omega
theorem ups_dep {l a : List UInt8} (h : a ∈ ups l) : depL a < depL l := by
  generalize hn : l.length = n at *
  induction n using Nat.strongRecOn generalizing l with
  | _ n ih =>
    subst hn
    by_cases hu : upL l = []
    · rw [ups_nil hu] at h; simp at h
    · rw [ups_cons hu] at h
      have hd := depL_up hu
      rcases List.mem_cons.1 h with rfl | h
      · exact hd
      · have := ih _ (upL_len hu) h rfl
        omega
theorem ups_req {l a : List UInt8} {r : Int} (hr : readL l = some (r, true)) (h : a ∈ ups l) : readL a = some (r, true) := by
  generalize hn : l.length = n at *
  induction n using Nat.strongRecOn generalizing l with
  | _ n ih =>
    subst hn
    by_cases hu : upL l = []
    · rw [ups_nil hu] at h; simp at h
    · rw [ups_cons hu] at h
      have h1 := up_read hr hu
      rcases List.mem_cons.1 h with rfl | h
      · exact h1
      · exact ih _ (upL_len hu) h1 h rfl
end Go.Proofs.Ytnmcdecdgcnmbaa
