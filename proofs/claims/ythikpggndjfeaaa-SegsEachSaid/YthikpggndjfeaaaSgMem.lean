/- segs: cells stored, blocks kept. -/
import Derived.Test.YthikpggndjfeaaaSgLaw
import Derived.RegionTactic
import Derived.ProofKit
namespace Go.Proofs.Ythikpggndjfeaaa
open Go.RowKit
theorem cell_grown1 (w : World) (g i : Nat) (x : Value) : w.grownBy (w.setCell ⟨g, i, none⟩ x) (some g) :=
  ⟨rfl, rfl, rfl, by simp, fun k _ hk => heap_setCell_other w ⟨g, i, none⟩ k x (fun e => hk (by simp [e]))⟩
/-- Several cells of a block stored. -/
def sets (w : World) (b : Nat) : List (Nat × Value) → World
  | [] => w
  | p :: r => sets (w.setCell ⟨b, p.1, none⟩ p.2) b r
theorem sets_row {T : TypeId} {b : Nat} : ∀ (L : List (Nat × Value)) {w : World} {cs : Array Value}, w.heap[b]? = some (.cells cs T (0, 0)) → (sets w b L).heap[b]? = some (.cells (L.foldl (fun c p => c.setIfInBounds p.1 p.2) cs) T (0, 0))
  | [], _, _, h => h
  | p :: r, w, cs, h => sets_row r (heap_setCell_same w b p.1 cs T p.2 h)
theorem grown_one {w w1 w2 : World} {b : Nat} (h : w.grownBy w1 (some b)) (k : w1.grownBy w2 (some b)) : w.grownBy w2 (some b) :=
  ⟨k.os.trans h.os, k.tape.trans h.tape, k.output.trans h.output, Nat.le_trans h.size k.size, fun i hi hn => (k.block i (Nat.lt_of_lt_of_le hi h.size) hn).trans (h.block i hi hn)⟩
theorem sets_grown {b : Nat} : ∀ (L : List (Nat × Value)) (w : World), w.grownBy (sets w b L) (some b)
  | [], _ => World.grownBy.refl _ _
  | p :: r, w => grown_one (cell_grown1 w b p.1 p.2) (sets_grown r _)
theorem cells3 {w : World} {b T : Nat} {x0 x1 x2 : Value} (h : w.heap[b]? = some (.cells #[x0, x1, x2] T (0, 0))) : w.cell? ⟨b, 0, none⟩ = some x0 ∧ w.cell? ⟨b, 1, none⟩ = some x1 ∧ w.cell? ⟨b, 2, none⟩ = some x2 :=
  ⟨cell_of_row w b 0 _ _ _ h, cell_of_row w b 1 _ _ _ h, cell_of_row w b 2 _ _ _ h⟩
theorem row_keep {w w' : World} {h : Nat} {c : Obj} (o : w.heap[h]? = some c) (b : Below w.heap.size w w') : w'.heap[h]? = some c := by
  rw [b.block h (Array.getElem?_eq_some_iff.1 o).1]; exact o
theorem grownB {w w1 w2 : World} {h : Nat} (g : w.grownBy w1 (some h)) (b : Below w1.heap.size w1 w2) : w.grownBy w2 (some h) :=
  ⟨b.os.trans g.os, b.tape.trans g.tape, b.output.trans g.output, Nat.le_trans g.size b.size, fun k hk hne => by rw [b.block k (Nat.lt_of_lt_of_le hk g.size)]; exact g.block k hk hne⟩
theorem TbIn.at0 {w w' : World} {d mb : Nat} {L : List Ent} (h : TbIn w d mb L) (e : w'.heap = w.heap) : TbIn w' d mb L :=
  ⟨by rw [e]; exact h.row, h.map.at (by rw [e]), h.ok⟩
end Go.Proofs.Ythikpggndjfeaaa
