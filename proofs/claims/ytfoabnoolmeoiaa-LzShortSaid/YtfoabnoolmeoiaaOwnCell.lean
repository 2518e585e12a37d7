/- Cells of a row of the call's own, read and written. No program in sight. -/
import Derived.Test.YtfoabnoolmeoiaaApp
import Derived.Laws.OwnMore
namespace Go.Proofs.Ytfoabnoolmeoiaa
open Go.RowKit
theorem Owns.cellAt {k : IntKind} {e : TypeId} {w : World} {base : Nat} {a : Option Addr} {n c : Nat} {l : List Int} (h : Owns k e w base (.slice a n c) l) (i : Nat) (hi : i < l.length) :
    ∃ g, a = some ⟨g, 0, none⟩ ∧ base ≤ g ∧ g < w.heap.size ∧ w.cell? ⟨g, i, none⟩ = some (.int k (nth l i)) ∧ w.frozen? ⟨g, i, none⟩ = false := by
  rcases h.2 with ⟨rfl, _⟩ | h2
  · simp at hi
  · have h3 := h2
    rcases h3.2 with ⟨hv, hn⟩ | ⟨g, cap, cur, hv, hb, hg, _⟩
    · omega
    · injection hv with q1 q2 q3
      subst q1 q2 q3
      refine ⟨g, rfl, hb, (Array.getElem?_eq_some_iff.1 hg).1, ?_, h2.frozenAt i⟩
      rw [h2.cellAt i (by omega), List.getElem?_map, List.getElem?_eq_getElem hi, nth_eq hi]
      rfl
theorem Owns.stored {k : IntKind} {e : TypeId} {w : World} {base : Nat} {g n c : Nat} {l : List Int} (h : Owns k e w base (.slice (some ⟨g, 0, none⟩) n c) l) (i : Nat) (x : Int) (hx : (Lit.int k x).wf = true) :
    Owns k e (w.setCell ⟨g, i, none⟩ (.int k x)) base (.slice (some ⟨g, 0, none⟩) n c) (l.set i x) := by
  refine ⟨fun y hy => ?_, ?_⟩
  · rcases List.mem_or_eq_of_mem_set hy with hy | hy
    · exact h.1 y hy
    · rw [hy]; exact hx
  · rcases h.2 with ⟨rfl, a, hv, ha⟩ | h2
    · exact .inl ⟨rfl, a, hv, ha⟩
    · refine .inr ?_
      obtain ⟨a', c', hv⟩ := h.shape
      injection hv with q1 q2 q3
      subst q2
      have := (h2.stored i (.int k x)).1
      rw [List.length_set, List.map_set]
      exact this
end Go.Proofs.Ytfoabnoolmeoiaa
