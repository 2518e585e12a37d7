/- Rows of bytes. No program in sight. -/
import Derived.Test.YtfoabnoolmeoiaaMem
namespace Go.Proofs.Ytfoabnoolmeoiaa
open Go.RowKit
def Bytes (l : List Int) : Prop := ∀ x ∈ l, 0 ≤ x ∧ x ≤ 255
theorem Bytes.at {l : List Int} (h : Bytes l) (i : Nat) : 0 ≤ nth l i ∧ nth l i ≤ 255 := by
  by_cases hi : i < l.length
  · rw [nth_eq hi]; exact h _ (List.getElem_mem _)
  · rw [nth_out (by omega)]; omega
theorem RdAt.bytes {w : World} {a : Option Addr} {n c : Nat} {l : List Int} (h : RdAt .u8 w a n c l) : Bytes l := fun x hx => wf_u8_bd (h.wf x hx)
theorem lit_rd (w w' : World) (l : List Int) (e : Nat) (fr : Nat × Nat) (hl : l.length ≤ 1000) (hw : ∀ x ∈ l, (Lit.int .u8 x).wf = true) (hb : Below (w.alloc (.cells (l.map (Value.int .u8)).toArray e fr)).heap.size (w.alloc (.cells (l.map (Value.int .u8)).toArray e fr)) w') :
    RdAt .u8 w' (some ⟨w.heap.size, 0, none⟩) l.length l.length l := by
  refine RdAt.below ⟨rfl, Nat.le_refl _, by unfold maxLen; omega, fun i hi => ⟨_, _, rfl, ?_⟩, hw, fun h => by cases h⟩ hb
  rw [Nat.zero_add, World.cell?_alloc_mark]
  rw [nth_eq hi]
  simp [hi]

end Go.Proofs.Ytfoabnoolmeoiaa
