/- Heads of any request: the library's table, as the row lists it. -/
import Derived.Test.YtdamhohoeobfgaaDoorSampleMisc
import Derived.Lib.LaidTab
import Derived.Stop.LaidErr
import Derived.MakeChecks
set_option linter.unusedVariables false
set_option linter.unusedSimpArgs false
namespace Go.Proofs.YtdamhohoeobfgaaDoor
open Go.RowKit

def PowTab (w : World) : Prop := Lib.TabIs Tryd.prog w "internal/strconv.uint64pow10" .u64 Lib.pow10Tab
theorem pow_tab {w : World} (h : laidMetH Tryd.prog [("math/bits.deBruijn32tab", Rows.laid_math_bits_deBruijn32tab), ("math/bits.deBruijn64tab", Rows.laid_math_bits_deBruijn64tab), ("internal/strconv.uint64pow10", Rows.laid_internal_strconv_uint64pow10)] w) : PowTab w := by
  rw [MakeChecks.laidMetH_plain _ _ _ (by kernel_rfl)] at h
  have h2 := laidMet.tail (laidMet.tail h)
  obtain ⟨g, hg, t, ht, n, e, hn, he⟩ : ∃ g, Tryd.prog.globalNamed "internal/strconv.uint64pow10" = some g ∧ ∃ t, (Tryd.prog.globals[g]?).map (·.type) = some t ∧ ∃ n e, Tryd.prog.underlying t = some (.array n e) ∧ Tryd.prog.underlying e = some (.int .u64) ∧ Tryd.prog.cellsOf e = 1 ∧ Tryd.prog.cellsOf t = n := by
    exact ⟨0, by kernel_rfl, 87, by kernel_rfl, 20, 52, by kernel_rfl, by kernel_rfl, by kernel_rfl, by kernel_rfl⟩
  exact Lib.tabIs_of_head hg ht hn he.1 he.2.1 he.2.2 h2
theorem PowTab.frm {w w' : World} (h : PowTab w) (f : Frm noB w w') : PowTab w' := by
  unfold PowTab Lib.TabIs World.var? at *
  cases hg : Tryd.prog.globalNamed "internal/strconv.uint64pow10" with
  | none => rw [hg] at h; simp at h
  | some g =>
    rw [hg] at h
    simp only [Option.bind_some] at h ⊢
    cases hh : w.heap[g]? with
    | none => rw [hh] at h; simp at h
    | some o =>
      have hlt := (Array.getElem?_eq_some_iff.1 hh).1
      rw [f.block g hlt (fun h => h)]; exact h
theorem frm_grow (w : World) (k : Nat) (os : Array Obj) : Frm noB w (Sort.grow (w.drewN k) os) :=
  ⟨rfl, rfl, rfl, by simp [Sort.grow, World.drewN], fun i hi _ => Array.getElem?_append_left hi⟩
theorem itoa_decL (n : Int) : Lib.itoa n = decL n := by
  unfold Lib.itoa decL
  split
  · rw [decDigits_dig]
  · rw [decDigits_dig, show n.toNat = n.natAbs from by omega]
theorem itoa_full (n : Int) (h0 : -9223372036854775808 ≤ n) (h1 : n ≤ 9223372036854775807) (w : World) (ht : PowTab w) :
    Calls Tryd.prog 28 #[.int .i64 n] w fun e w' => e = .returned (.string (bs (decL n))) ∧ Frm noB w w' :=
  (Tryd.strconv_Itoa n h0 h1 w ht).mono fun e w' ⟨h1, k, os, h2⟩ => ⟨by rw [h1, itoa_decL]; rfl, by rw [h2]; exact frm_grow w k os⟩
set_option maxHeartbeats 400000 in
theorem shead_at (r p : Int) (w : World) (h0 : -9223372036854775808 ≤ r) (h1 : r ≤ 9223372036854775807) (ht : PowTab w) :
    Calls Tryd.prog 11 #[.int .i64 r, .int .i64 p] w fun e w' => e = .returned (.bool (headB r p)) ∧ Frm noB w w' := by
  have hit := itoa_full r h0 h1 w ht
  have hsz := dec_size r h0 h1
  obtain ⟨H, hH⟩ : ∃ H, H = hashN (bs (decL r)).data.toList := ⟨_, rfl⟩
  have hm : H % 100 = modL r := by unfold modL; rw [hH, show (bs (decL r)).data.toList = decL r from by simp [bs]]
  have hml := modL_lt r
  have hb : headB r p = decide ((modL r : Int) < p) := rfl
  have hmi : (H : Int) % 100 = (modL r : Int) := by omega
  generalize modL r = M at *
  generalize headB r p = B at *
  have Hit := Lib.hid hit
  have Hsz := Lib.hid hsz
  have HH := Lib.hid hH
  have Hm := Lib.hid hm
  have H0 := Lib.hid h0
  have H1 := Lib.hid h1
  have Hb := Lib.hid hb
  have Hmi := Lib.hid hmi
  have Ht := Lib.hid ht
  clear hit hsz hH hm h0 h1 hb hmi ht
  go_enter Tryd.func11, Tryd.ntmps11
  go_wp2_with fail
  refine (Hit.out).mono ?_
  rintro e w1 ⟨rfl, hf⟩
  have Hf := Lib.hid hf
  clear hf
  go_wp2_with fail
  refine (hash_any _ _ Hsz.out).mono ?_
  rintro e w2 ⟨rfl, rfl⟩
  rw [← HH.out]
  have h2 := Hmi.out
  go_wp2_with fail
  go_ret
  exact ⟨by rw [Hb.out]; rfl, Hf.out⟩
end Go.Proofs.YtdamhohoeobfgaaDoor
