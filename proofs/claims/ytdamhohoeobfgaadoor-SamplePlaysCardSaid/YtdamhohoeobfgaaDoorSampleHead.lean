/- Whose head is kept, as the program and the document tell it. -/
import Derived.Test.YtdamhohoeobfgaaDoorHash
import Derived.Test.YtdamhohoeobfgaaDoorDecimal
set_option linter.unusedVariables false
namespace Go.Proofs.YtdamhohoeobfgaaDoor
open Go.RowKit

def modL (r : Int) : Nat := hashN (decL r) % 100
def headB (r p : Int) : Bool := decide ((modL r : Int) < p)
theorem modL_lt (r : Int) : modL r < 100 := by unfold modL; omega
attribute [irreducible] modL
theorem dec_size (r : Int) (h0 : -9223372036854775808 ≤ r) (h1 : r ≤ 9223372036854775807) : (bs (decL r)).size ≤ maxLen := by
  have : (bs (decL r)).size ≤ 20 := by rw [bs_size]; exact decL_len (by omega) (by omega)
  simp only [maxLen]; omega
set_option maxHeartbeats 400000 in
theorem shead_of (r p : Int) (w : World) (h0 : -9223372036854775808 ≤ r) (h1 : r ≤ 9223372036854775807)
    (hit : ∀ w, Calls Tryd.prog 28 #[.int .i64 r] w fun e w' => e = .returned (.string (bs (decL r))) ∧ Frm noB w w') :
    Calls Tryd.prog 11 #[.int .i64 r, .int .i64 p] w fun e w' => e = .returned (.bool (headB r p)) ∧ Frm noB w w' := by
  have hsz := dec_size r h0 h1
  obtain ⟨H, hH⟩ : ∃ H, H = hashN (bs (decL r)).data.toList := ⟨_, rfl⟩
  have hm : H % 100 = modL r := by unfold modL; rw [hH, show (bs (decL r)).data.toList = decL r from by simp [bs]]
  have hml := modL_lt r
  have hb : headB r p = decide ((modL r : Int) < p) := rfl
  have hmi : (H : Int) % 100 = (modL r : Int) := by omega
  generalize modL r = M at *
  generalize headB r p = B at *
  have Hit := Lib.hid hit
  have Hsz := Lib.hid hsz
  have HH := Lib.hid hH
  have Hm := Lib.hid hm
  have H0 := Lib.hid h0
  have H1 := Lib.hid h1
  have Hb := Lib.hid hb
  have Hmi := Lib.hid hmi
  clear hit hsz hH hm h0 h1 hb hmi
  go_enter Tryd.func11, Tryd.ntmps11
  go_wp2_with fail
  refine (Hit.out _).mono ?_
  rintro e w1 ⟨rfl, hf⟩
  have Hf := Lib.hid hf
  clear hf
  go_wp2_with fail
  refine (hash_any _ _ Hsz.out).mono ?_
  rintro e w2 ⟨rfl, rfl⟩
  rw [← HH.out]
  have h2 := Hmi.out
  go_wp2_with fail
  go_ret
  exact ⟨by rw [Hb.out]; rfl, Hf.out⟩
set_option maxHeartbeats 400000 in
theorem rhead_any (r p : Int) (w : World) (h0 : -9223372036854775808 ≤ r) (h1 : r ≤ 9223372036854775807) :
    Calls Tryd.prog 12 #[.int .i64 r, .int .i64 p] w fun e w' => e = .returned (.bool (headB r p)) ∧ Frm noB w w' := by
  have hsz := dec_size r h0 h1
  obtain ⟨H, hH⟩ : ∃ H, H = hashN (bs (decL r)).data.toList := ⟨_, rfl⟩
  have hm : H % 100 = modL r := by unfold modL; rw [hH, show (bs (decL r)).data.toList = decL r from by simp [bs]]
  have hml := modL_lt r
  have hb : headB r p = decide ((modL r : Int) < p) := rfl
  have hmi : (H : Int) % 100 = (modL r : Int) := by omega
  have hit := decimal_any r w h0 h1
  generalize modL r = M at *
  generalize headB r p = B at *
  have Hit := Lib.hid hit
  have Hsz := Lib.hid hsz
  have HH := Lib.hid hH
  have Hm := Lib.hid hm
  have H0 := Lib.hid h0
  have H1 := Lib.hid h1
  have Hb := Lib.hid hb
  have Hmi := Lib.hid hmi
  clear hit hsz hH hm h0 h1 hb hmi
  go_enter Tryd.func12, Tryd.ntmps12
  go_wp2_with fail
  refine (Hit.out).mono ?_
  rintro e w1 ⟨rfl, hf⟩
  have Hf := Lib.hid hf
  clear hf
  go_wp2_with fail
  refine (ref_hash _ _ Hsz.out).mono ?_
  rintro e w2 ⟨rfl, rfl⟩
  rw [← HH.out]
  have h2 := Hmi.out
  go_wp2_with fail
  go_ret
  exact ⟨by rw [Hb.out]; rfl, Hf.out⟩
end Go.Proofs.YtdamhohoeobfgaaDoor
