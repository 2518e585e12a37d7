/- A slice of slices of bytes that came in: how it reads, and its bulk. -/
import Derived.Test.YtendhldpgkdhnaaSum
import Derived.Test.YtendhldpgkdhnaaRows
import Derived.Deep.Matrix
import Derived.OpenShut
namespace Go.Proofs.Ytendhldpgkdhnaa
open Go.ChangeShapes Go.WideShapes Go.ChangeAt Go.RowKit
theorem bulk_one {H : Type} (d : DataW H) : 1 ≤ Rows.uptoBulk d := by
  cases d with
  | lit l => cases l <;> simp [Rows.uptoBulk]
  | nil => simp [Rows.uptoBulk]
  | ptr d => simp [Rows.uptoBulk]
  | slice elems spare => simp [Rows.uptoBulk]
  | agg parts => simp [Rows.uptoBulk]
  | iface t d => simp [Rows.uptoBulk]
  | map entries => simp [Rows.uptoBulk]
  | held h => simp [Rows.uptoBulk]
theorem bulk_length {H : Type} (l : List (DataW H)) : l.length ≤ Rows.uptoBulkAll l := by
  induction l with
  | nil => simp [Rows.uptoBulkAll]
  | cons x r ih => have := bulk_one x; simp only [Rows.uptoBulkAll, List.length_cons]; omega
theorem bulk_rows {H : Type} (R : List Nat) (f : Nat → List Int) (g : Nat → DataW H) (h : ∀ r ∈ R, (f r).length + 1 ≤ Rows.uptoBulk (g r)) : (R.map f).flatten.length + R.length ≤ Rows.uptoBulkAll (R.map g) := by
  induction R with
  | nil => simp [Rows.uptoBulkAll]
  | cons x R ih =>
    have h1 := h x (by simp)
    have h2 := ih (fun r hr => h r (by simp [hr]))
    rw [List.map_cons, List.map_cons, List.flatten_cons, List.length_append, List.length_cons]
    simp only [Rows.uptoBulkAll]
    omega
theorem bulk_slice {H : Type} (elems spare : List (DataW H)) : Rows.uptoBulkAll elems + 1 ≤ Rows.uptoBulk (.slice elems spare) := by
  simp only [Rows.uptoBulk]; omega
theorem bulk_row {H : Type} (k : IntKind) (A : Option Addr) (L : Nat) (Z : List Int) (h : A = none → L = 0) : (Z.take L).length + 1 ≤ Rows.uptoBulk (Deep.intRow (H := H) k A L Z) := by
  unfold Deep.intRow
  cases A with
  | none => rw [h rfl]; simp [Rows.uptoBulk]
  | some a =>
    have h1 := bulk_slice (lits (H := H) k (Z.take L)) (lits k (Z.drop L))
    have h2 := bulk_length (lits (H := H) k (Z.take L))
    rw [show (lits (H := H) k (Z.take L)).length = (Z.take L).length by simp [lits]] at h2
    simp only at h1 ⊢
    omega
theorem parts_open {H : Type} {enc : TypeId × Value → H} {P : Program} {w : World} {base : Nat} {held : Bool} {t e q : TypeId} {a : Option Addr} {n c : Nat} {d : DataW H} {p : List MemPlace}
    (ht : P.underlying t = some (.slice e)) (he : P.underlying e = some (.slice q)) (hq : P.underlying q = some (.int .u8)) (ce : P.cellsOf e = 1) (cq : P.cellsOf q = 1)
    (h : DataW.Trod enc P w base (fun _ => true) held t (.slice a n c) d p) : ∃ ls, PartsAt w a n ls ∧ ls.flatten.length + n ≤ Rows.uptoBulk d := by
  obtain ⟨fuel, hf⟩ := h
  rcases Deep.open_int_rows ht he hq ce cq hf with ⟨hcs, hx⟩ | ⟨x, l, c', A, L, C, Z, hcs, _, hl, _, hx, hall⟩
  · simp [Value.cells] at hcs
    obtain ⟨rfl, rfl, rfl⟩ := hcs
    exact ⟨[], PartsAt.none _, by simp⟩
  · simp [Value.cells] at hcs
    obtain ⟨rfl, rfl, rfl⟩ := hcs
    simp only [Prod.mk.injEq] at hx
    obtain ⟨rfl, _⟩ := hx
    refine ⟨(List.range n).map fun r => (Z r).take (L r), ⟨by simp, fun i hi => ?_⟩, ?_⟩
    · obtain ⟨h1, h2, h3, h4, h5, h6, h7⟩ := hall i (by omega)
      obtain ⟨b, o, sp⟩ := x
      have hsp : sp = none := by simpa [Addr.add] using World.cell?_spot (hall 0 (by omega)).1
      subst hsp
      refine ⟨b, o, A i, L i, C i, rfl, by rw [Addr.add_lit] at h1; exact h1, ?_⟩
      rw [show ((List.range n).map fun r => (Z r).take (L r)).getD i [] = (Z i).take (L i) by simp [List.getD, hi]]
      cases hA : A i with
      | none =>
        have hc0 := h6 hA
        rw [show L i = 0 by omega, hc0, List.take_zero]
        exact RdAt.nil _ _
      | some a' =>
        obtain ⟨_, hcell⟩ := h7 a' hA
        exact RdAt.of_row h2 h3 h4 (fun j hj => hcell j (by omega)) h5
    · have hb := bulk_rows (H := H) (List.range n) (fun r => (Z r).take (L r)) (fun r => Deep.intRow .u8 (A r) (L r) (Z r)) (fun r hr => bulk_row _ _ _ _ (fun hA => by
        obtain ⟨_, h2, _, _, _, h6, _⟩ := hall r (by have := List.mem_range.1 hr; omega)
        have := h6 hA
        omega))
      rw [List.length_range] at hb
      have hs := bulk_slice ((List.range n).map fun r => Deep.intRow (H := H) .u8 (A r) (L r) (Z r)) ((List.range (c - n)).map fun j => Deep.intRow .u8 (A (n + j)) (L (n + j)) (Z (n + j)))
      omega
theorem bulk_part {H : Type} {d : DataW H} {l : List (DataW H)} (h : d ∈ l) : Rows.uptoBulk d ≤ Rows.uptoBulkAll l := by
  induction l with
  | nil => cases h
  | cons x r ih =>
    simp only [Rows.uptoBulkAll]
    cases List.mem_cons.1 h with
    | inl e => subst e; omega
    | inr e => have := ih e; omega
theorem bulk_bound {H : Type} {l : List (DataW H)} (hk : Rows.uptoSmall H l = true) : Rows.uptoBulkAll l ≤ 1048576 := of_decide_eq_true hk
end Go.Proofs.Ytendhldpgkdhnaa
