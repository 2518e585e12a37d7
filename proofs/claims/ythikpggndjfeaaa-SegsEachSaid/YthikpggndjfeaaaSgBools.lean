/- Slices of bools: what is read; opening a parameter. -/
import Derived.Test.YthikpggndjfeaaaMem
import Derived.Deep.Grids
import Derived.ProofKit
import Derived.OpenShut
namespace Go.Proofs.Ythikpggndjfeaaa
open Go.RowKit
structure RdB (w : World) (a : Option Addr) (n c : Nat) (l : List Bool) : Prop where
  len : l.length = n
  cap : n ≤ c
  max : c ≤ maxLen
  cell : ∀ i, i < n → ∃ b o, a = some ⟨b, o, none⟩ ∧ w.cell? ⟨b, o + i, none⟩ = some (.bool (l.getD i false))
  void : a = none → c = 0
theorem RdB.below {w w' : World} {a : Option Addr} {n c : Nat} {l : List Bool} (h : RdB w a n c l) (hb : Below w.heap.size w w') : RdB w' a n c l :=
  ⟨h.len, h.cap, h.max, fun i hi => by
    obtain ⟨b, o, e, hc⟩ := h.cell i hi
    exact ⟨b, o, e, by rw [← hc]; exact World.cell?_of_block (a := ⟨b, o + i, none⟩) (hb.block b (block_lt_of_cell hc))⟩, h.void⟩
theorem bools_open {H : Type} {enc : TypeId × Value → H} {P : Program} {w : World} {base : Nat} {held : Bool} {t e : TypeId} {a : Option Addr} {len cap : Nat} {d : DataW H} {p : List MemPlace} (ht : P.underlying t = some (.slice e)) (he : P.underlying e = some .bool) (hc : P.cellsOf e = 1)
    (h : ∃ n, DataW.trod enc P w base (fun _ => true) held n t (Value.slice a len cap).cells.toList = some (d, p)) : ∃ z, RdB w a len cap z := by
  obtain ⟨n, hn⟩ := h
  rcases Go.Deep.open_bools ht he hc hn with ⟨hcs, _⟩ | ⟨x, l, c, B, hcs, _, hl, hm, _, hcell⟩
  · simp [Value.cells] at hcs
    obtain ⟨rfl, rfl, rfl⟩ := hcs
    exact ⟨[], rfl, Nat.le_refl _, by unfold maxLen; omega, fun i hi => by omega, fun _ => rfl⟩
  · simp [Value.cells] at hcs
    obtain ⟨rfl, rfl, rfl⟩ := hcs
    refine ⟨(List.range len).map B, by simp, hl, hm, fun i hi => ?_, fun h => by cases h⟩
    obtain ⟨b, o, sp⟩ := x
    have h0 := hcell 0 (by omega)
    have hsp : sp = none := by simpa [Addr.add] using World.cell?_spot h0
    subst hsp
    refine ⟨b, o, rfl, ?_⟩
    have := hcell i (by omega)
    rw [List.getD_eq_getElem?_getD, List.getElem?_map, List.getElem?_range hi]
    rw [show (Addr.mk b o none).add i = ⟨b, o + i, none⟩ by simp [Addr.add] <;> omega] at this
    simpa using this
theorem RdB.lt {w : World} {a : Option Addr} {n c : Nat} {l : List Bool} (h : RdB w a n c l) : ∀ x, a = some x → 0 < n → x.block < w.heap.size := fun x hx hn => by
  obtain ⟨b, o, e, hc⟩ := h.cell 0 hn
  rw [hx] at e
  injection e with e
  subst e
  exact block_lt_of_cell hc
end Go.Proofs.Ythikpggndjfeaaa
