/- Rows of bytes. No program in sight. -/
import Derived.Test.YtendhldpgkdhnaaMem
namespace Go.Proofs.Ytendhldpgkdhnaa
open Go.RowKit
def Bytes (l : List Int) : Prop := ∀ x ∈ l, 0 ≤ x ∧ x ≤ 255
theorem Bytes.at {l : List Int} (h : Bytes l) (i : Nat) : 0 ≤ nth l i ∧ nth l i ≤ 255 := by
  by_cases hi : i < l.length
  · rw [nth_eq hi]; exact h _ (List.getElem_mem _)
  · rw [nth_out (by omega)]; omega
theorem RdAt.bytes {w : World} {a : Option Addr} {n c : Nat} {l : List Int} (h : RdAt .u8 w a n c l) : Bytes l := fun x hx => wf_u8_bd (h.wf x hx)
end Go.Proofs.Ytendhldpgkdhnaa
