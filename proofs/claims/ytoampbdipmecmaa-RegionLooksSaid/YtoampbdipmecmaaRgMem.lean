/- Regions in memory; Pages, Find. -/
import Derived.Test.YtoampbdipmecmaaProg
import Derived.Test.YtoampbdipmecmaaStructs
import Derived.Test.YtoampbdipmecmaaRgLaw2
import Derived.Test.YtoampbdipmecmaaVarAt
import Derived.RegionTactic
import Derived.ProofKit
import Derived.Lib.Hide
namespace Go.Proofs.Ytoampbdipmecmaa
open Go.RowKit
theorem cell_grown1 (w : World) (g i : Nat) (x : Value) : w.grownBy (w.setCell ⟨g, i, none⟩ x) (some g) :=
  ⟨rfl, rfl, rfl, by simp, fun k _ hk => heap_setCell_other w ⟨g, i, none⟩ k x (fun e => hk (by simp [e]))⟩
/-- Several cells of a block stored. -/
def sets (w : World) (b : Nat) : List (Nat × Value) → World
  | [] => w
  | p :: r => sets (w.setCell ⟨b, p.1, none⟩ p.2) b r
theorem sets_row {T : TypeId} {b : Nat} : ∀ (L : List (Nat × Value)) {w : World} {cs : Array Value}, w.heap[b]? = some (.cells cs T (0, 0)) → (sets w b L).heap[b]? = some (.cells (L.foldl (fun c p => c.setIfInBounds p.1 p.2) cs) T (0, 0))
  | [], _, _, h => h
  | p :: r, w, cs, h => sets_row r (heap_setCell_same w b p.1 cs T p.2 h)
theorem grown_one {w w1 w2 : World} {b : Nat} (h : w.grownBy w1 (some b)) (k : w1.grownBy w2 (some b)) : w.grownBy w2 (some b) :=
  ⟨k.os.trans h.os, k.tape.trans h.tape, k.output.trans h.output, Nat.le_trans h.size k.size, fun i hi hn => (k.block i (Nat.lt_of_lt_of_le hi h.size) hn).trans (h.block i hi hn)⟩
theorem sets_grown {b : Nat} : ∀ (L : List (Nat × Value)) (w : World), w.grownBy (sets w b L) (some b)
  | [], _ => World.grownBy.refl _ _
  | p :: r, w => grown_one (cell_grown1 w b p.1 p.2) (sets_grown r _)
theorem cells3 {w : World} {b T : Nat} {x0 x1 x2 : Value} (h : w.heap[b]? = some (.cells #[x0, x1, x2] T (0, 0))) : w.cell? ⟨b, 0, none⟩ = some x0 ∧ w.cell? ⟨b, 1, none⟩ = some x1 ∧ w.cell? ⟨b, 2, none⟩ = some x2 :=
  ⟨cell_of_row w b 0 _ _ _ h, cell_of_row w b 1 _ _ _ h, cell_of_row w b 2 _ _ _ h⟩
def Rg.cells (r : Rg) : List Value := [.int .i64 r.lo, .int .i64 r.hi, .int .i64 r.p]
theorem rgC : Cellular Rg.cells 3 := ⟨fun _ => rfl, fun x u hu => by
  simp only [Rg.cells, List.mem_cons, List.not_mem_nil, or_false] at hu
  rcases hu with rfl | rfl | rfl <;> rfl, by decide⟩
set_option maxRecDepth 100000 in
theorem rgI : (Try.prog.info? 29).map (fun i => (i.zero, i.size, i.bytes)) = some (some (.agg #[.int .i64 0, .int .i64 0, .int .i64 0]), 3, 24) := by kernel_rfl
/-- A region whose numbers are ints. -/
structure Rg.Wf (r : Rg) : Prop where
  lo : -9223372036854775808 ≤ r.lo ∧ r.lo ≤ 9223372036854775807
  hi : -9223372036854775808 ≤ r.hi ∧ r.hi ≤ 9223372036854775807
  p : -9223372036854775808 ≤ r.p ∧ r.p ≤ 9223372036854775807
/-- A region well within the ints. -/
structure Rg.Sm (r : Rg) : Prop where
  lo : 0 ≤ r.lo ∧ r.lo ≤ 1099511627776
  hi : 0 ≤ r.hi ∧ r.hi ≤ 1099511627776
  p : 0 ≤ r.p ∧ r.p ≤ 3
theorem Rg.Sm.wf {r : Rg} (h : r.Sm) : r.Wf := ⟨by have := h.lo; omega, by have := h.hi; omega, by have := h.p; omega⟩
theorem RdS.three {w : World} {a : Option Addr} {n c : Nat} {L : List Rg} (h : RdS Rg.cells 3 w a n c L) (i : Nat) (r : Rg) (hr : L[i]? = some r) :
    ∃ b o, a = some ⟨b, o, none⟩ ∧ w.cell? ⟨b, o + i * 3, none⟩ = some (.int .i64 r.lo) ∧ w.cell? ⟨b, o + i * 3 + 1, none⟩ = some (.int .i64 r.hi) ∧ w.cell? ⟨b, o + i * 3 + 2, none⟩ = some (.int .i64 r.p) := by
  obtain ⟨b, o, e, hc⟩ := h.cell i r hr
  exact ⟨b, o, e, hc 0 _ rfl, hc 1 _ rfl, hc 2 _ rfl⟩
theorem pagesN_take {L : List Rg} {k : Nat} {r : Rg} (h : L[k]? = some r) : pagesN (L.take (k + 1)) = pagesN (L.take k) + (r.hi - r.lo) := by
  rw [List.take_add_one, h, pagesN_append]
  simp [pagesN]
theorem pagesN_bd : ∀ (L : List Rg), (∀ r ∈ L, r.Sm) → -(1099511627776 * L.length) ≤ pagesN L ∧ pagesN L ≤ 1099511627776 * L.length
  | [], _ => by simp [pagesN]
  | r :: L, h => by
    have h1 := h r (List.mem_cons_self ..)
    have h2 := pagesN_bd L (fun s hs => h s (List.mem_cons_of_mem _ hs))
    rw [pagesN_cons, List.length_cons]
    have := h1.lo
    have := h1.hi
    omega
set_option maxRecDepth 100000 in
set_option linter.unusedSimpArgs false in
set_option linter.unusedVariables false in
set_option maxHeartbeats 1000000 in
theorem pages_any (a : Option Addr) (n c : Nat) (L : List Rg) (w : World) (h : RdS Rg.cells 3 w a n c L) (hs : ∀ r ∈ L, r.Sm) (hn : n ≤ 1000) :
    Calls Try.prog 13 #[.slice a n c] w fun e w' => e = .returned (.int .i64 (pagesN L)) ∧ Below w.heap.size w w' := by
  have H := Lib.hid h
  have HS := Lib.hid hs
  clear h hs
  go_enter Try.func13, Try.ntmps13
  go_wp2_with fail
  go_loopw [3, 8] (fun s i wr => ∃ k : Nat, k ≤ n ∧ i = .int .i64 k ∧ s = .int .i64 (pagesN (L.take k)) ∧ Hid (Below w.heap.size w wr)) (fun _ i _ => n - (intOf i).toNat)
  case atStart => exact ⟨0, by omega, rfl, rfl, Below.refl _ _⟩
  case round =>
    obtain ⟨k, hk, rfl, rfl, B⟩ := hrel
    by_cases hkn : k < n
    · have hl := H.out.len
      obtain ⟨r, hr⟩ : ∃ r, L[k]? = some r := ⟨L[k], List.getElem?_eq_getElem (by omega)⟩
      obtain ⟨b, o, ha, c0, c1, c2⟩ := (H.out.below B.out).three k r hr
      subst ha
      have hsm := HS.out r (List.mem_of_getElem? hr)
      obtain ⟨s1, s2⟩ := hsm.lo
      obtain ⟨s3, s4⟩ := hsm.hi
      have hb := pagesN_bd (L.take k) (fun s hs => HS.out s (List.mem_of_mem_take hs))
      have hlk : (L.take k).length ≤ 1000 := by rw [List.length_take]; omega
      have HN := Lib.hid (pagesN_take hr)
      obtain ⟨S, hS⟩ : ∃ S, pagesN (L.take k) = S := ⟨_, rfl⟩
      rw [hS] at HN hb ⊢
      have hb1 : -1099511627776000 ≤ S ∧ S ≤ 1099511627776000 := by omega
      obtain ⟨hb2, hb3⟩ := hb1
      clear hS hb hlk hr hsm hl
      go_wp2
      go_roundw
      case rel => exact ⟨k + 1, by omega, by go_num, by rw [HN.out], Below.call B.out ((Below.refl _ _).alloc (Nat.le_refl _) _)⟩
      case measure => simp [intOf] <;> omega
    · obtain rfl : k = n := by omega
      have hl := H.out.len
      have e : L.take k = L := List.take_of_length_le (by omega)
      rw [e]
      clear hl e
      go_wp2
      go_ret
      exact ⟨rfl, B.out⟩
end Go.Proofs.Ytoampbdipmecmaa
