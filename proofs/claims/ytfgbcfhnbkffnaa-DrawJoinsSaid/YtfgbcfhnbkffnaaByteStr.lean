/- A slice of one byte that the call laid, made a string. -/
import Derived.Test.YtfgbcfhnbkffnaaLib
set_option linter.unusedVariables false
namespace Go.Proofs.Ytfgbcfhnbkffnaa
open Go.RowKit

theorem conv_one (w : World) (c : UInt8) :
    (convert 32 9 (.slice (some ⟨w.heap.size, 0, none⟩) 1 1)).run Try.prog (w.alloc (.cells #[.int .u8 (c.toNat : Int)] 5)) =
      .ok (.string ⟨#[c]⟩) (w.alloc (.cells #[.int .u8 (c.toNat : Int)] 5)) := by
  have h := run_convert_bytes_arg (P := Try.prog) (w.alloc (.cells #[.int .u8 (c.toNat : Int)] 5)) 32 5 Try.underlying32 Try.underlying5 w.heap.size 0 1 1 [(c.toNat : Int)] rfl
    (fun i hi => by obtain rfl : i = 0 := by omega
                    simp) 9 Try.underlying9
  rw [h]
  have e : strOfNums [(c.toNat : Int)] = ⟨#[c]⟩ := by simp [strOfNums]
  rw [e]

/-- A text and one more byte. -/
theorem snoc_data (t : List UInt8) (c : UInt8) : (ByteArray.mk t.toArray ++ ByteArray.mk #[c]).data.toList = t ++ [c] := by
  simp [ByteArray.data_append]
end Go.Proofs.Ytfgbcfhnbkffnaa
