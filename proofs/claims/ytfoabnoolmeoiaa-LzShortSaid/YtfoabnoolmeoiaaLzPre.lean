/- What the walks of lz's reader share. -/
import Derived.Test.YtfoabnoolmeoiaaReader
import Derived.Test.YtfoabnoolmeoiaaOwnCell
import Derived.Test.YtfoabnoolmeoiaaRegion
namespace Go.Proofs.Ytfoabnoolmeoiaa
open Go.RowKit
theorem grown_obj {w w' : World} {h : Nat} {x : Obj} {row : Option Nat} (o : w.heap[h]? = some x) (g : w.grownBy w' row) (hr : row ≠ some h) : w'.heap[h]? = some x := by
  rw [g.block h (Array.getElem?_eq_some_iff.1 o).1 (fun e => hr e.symm)]; exact o
theorem byte_rd (w : World) (q : Int) (e : Nat) (hq : (Lit.int .u8 q).wf = true) : RdAt .u8 (w.alloc (.cells #[.int .u8 q] e)) (some ⟨w.heap.size, 0, none⟩) 1 1 [q] :=
  ⟨rfl, Nat.le_refl _, by unfold maxLen; omega, fun i hi => ⟨_, _, rfl, by (have h0 : i = 0 := by omega); subst h0; simp [nth]⟩, fun x hx => by simp at hx; subst hx; exact hq, fun h => by cases h⟩
theorem hrm (g q c : Nat) (h : 0 < c) : room (.slice (some ⟨g, 0, none⟩) q c) = some g := by show (if c = 0 then none else some g) = some g; rw [if_neg (by omega)]
end Go.Proofs.Ytfoabnoolmeoiaa
