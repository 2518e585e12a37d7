/- A variable that holds a row of numbers of the call's own. No program in sight. -/
import Derived.Test.YtfoabnoolmeoiaaApp
import Derived.Test.YtfoabnoolmeoiaaOrder
namespace Go.Proofs.Ytfoabnoolmeoiaa
open Go.RowKit
/-- Block h is one cell of type T that holds the slice v; the slice is a row from block h + 1 on. -/
structure VarAt (k : IntKind) (T e : TypeId) (w : World) (h : Nat) (v : Value) (l : List Int) : Prop where
  row : w.heap[h]? = some (.cells #[v] T (0, 0))
  own : Owns k e w (h + 1) v l
section
variable {k : IntKind} {T e : TypeId} {w w' : World} {h : Nat} {v : Value} {l : List Int}
theorem VarAt.lt (o : VarAt k T e w h v l) : h < w.heap.size := (Array.getElem?_eq_some_iff.1 o.row).1
theorem VarAt.below (o : VarAt k T e w h v l) (hb : Below w.heap.size w w') : VarAt k T e w' h v l :=
  ⟨by rw [hb.block h o.lt]; exact o.row, o.own.below hb⟩
theorem row_cell (o : w.heap[h]? = some (.cells #[v] T (0, 0))) : w.cell? ⟨h, 0, none⟩ = some v ∧ w.frozen? ⟨h, 0, none⟩ = false :=
  ⟨by rw [cell_of_row w _ _ _ _ _ o]; rfl, frozen_of_row w _ _ _ _ o⟩
theorem store_grown (w : World) (h : Nat) (x : Value) : w.grownBy (w.setCell ⟨h, 0, none⟩ x) (some h) :=
  ⟨rfl, rfl, rfl, by simp, fun k _ hk => heap_setCell_other w ⟨h, 0, none⟩ k x (fun e => hk (by simp [e]))⟩
theorem row_keep {c : Obj} (o : w.heap[h]? = some c) (b : Below w.heap.size w w') : w'.heap[h]? = some c := by
  rw [b.block h (Array.getElem?_eq_some_iff.1 o).1]; exact o
/-- The new slice is laid in the variable. -/
theorem VarAt.store {x : Value} (o : w.heap[h]? = some (.cells #[x] T (0, 0))) (own : Owns k e w (h + 1) v l) : VarAt k T e (w.setCell ⟨h, 0, none⟩ v) h v l :=
  ⟨heap_setCell_same _ _ _ _ _ _ o, own.grown (store_grown w h v) (fun g hg e => by injection e with e; have := (own.at_base g hg).1; omega)⟩
theorem grown_row {x : Value} {row : Option Nat} (o : w.heap[h]? = some (.cells #[x] T (0, 0))) (g : w.grownBy w' row) (hr : row ≠ some h) : w'.heap[h]? = some (.cells #[x] T (0, 0)) := by
  rw [g.block h (Array.getElem?_eq_some_iff.1 o).1 (fun e => hr e.symm)]; exact o
theorem room_ne (own : Owns k e w (h + 1) v l) : room v ≠ some h := fun e => by have := (own.at_base h e).1; omega
/-- From w0 to w nothing that was there has turned but block h and one row. -/
structure Spared (h : Nat) (row : Option Nat) (w0 w : World) : Prop where
  os : w.os = w0.os
  tape : w.tape = w0.tape
  output : w.output = w0.output
  size : w0.heap.size ≤ w.heap.size
  block : ∀ g, g < w0.heap.size → g ≠ h → some g ≠ row → w.heap[g]? = w0.heap[g]?
theorem Spared.refl (h : Nat) (row : Option Nat) (w : World) : Spared h row w w := ⟨rfl, rfl, rfl, Nat.le_refl _, fun _ _ _ _ => rfl⟩
theorem Spared.kept {row : Option Nat} {w0 : World} (s : Spared h row w0 w) (b : Below w.heap.size w w') : Spared h row w0 w' :=
  ⟨b.os.trans s.os, b.tape.trans s.tape, b.output.trans s.output, Nat.le_trans s.size b.size, fun g h1 h2 h3 => by rw [b.block g (Nat.lt_of_lt_of_le h1 s.size)]; exact s.block g h1 h2 h3⟩
theorem Spared.row {row : Option Nat} {w0 : World} (s : Spared h row w0 w) (b : w.grownBy w' row) : Spared h row w0 w' :=
  ⟨b.os.trans s.os, b.tape.trans s.tape, b.output.trans s.output, Nat.le_trans s.size b.size, fun g h1 h2 h3 => by rw [b.block g (Nat.lt_of_lt_of_le h1 s.size) h3]; exact s.block g h1 h2 h3⟩
theorem Spared.at {row : Option Nat} {w0 : World} (s : Spared h row w0 w) (b : w.grownBy w' (some h)) : Spared h row w0 w' :=
  ⟨b.os.trans s.os, b.tape.trans s.tape, b.output.trans s.output, Nat.le_trans s.size b.size, fun g h1 h2 h3 => by rw [b.block g (Nat.lt_of_lt_of_le h1 s.size) (fun e => by injection e with e; exact h2 e)]; exact s.block g h1 h2 h3⟩
theorem Spared.below {row : Option Nat} {w0 : World} (s : Spared h row w0 w) (hl : h ≤ w0.heap.size) (hr : ∀ q, row = some q → h ≤ q) : Below h w0 w :=
  ⟨s.os, s.tape, s.output, s.size, fun g hg => s.block g (by omega) (by omega) (fun e => by have := hr g e.symm; omega)⟩
/-- The new slice has its room where the old one had it, or in a new block. -/
def NewRoom (w0 : World) (v v' : Value) : Prop := room v' = room v ∨ ∀ g, room v' = some g → w0.heap.size ≤ g
theorem Spared.trans {w0 : World} {v v' : Value} (s : Spared h (room v) w0 w) (n : NewRoom w0 v v') (s2 : Spared h (room v') w w') : Spared h (room v) w0 w' :=
  ⟨s2.os.trans s.os, s2.tape.trans s.tape, s2.output.trans s.output, Nat.le_trans s.size s2.size, fun g h1 h2 h3 => by
    rw [s2.block g (Nat.lt_of_lt_of_le h1 s.size) h2 (fun e => by
      rcases n with n | n
      · exact h3 (e.trans n)
      · have := n g e.symm; omega)]
    exact s.block g h1 h2 h3⟩
theorem NewRoom.trans {w0 : World} {v v' v'' : Value} (n : NewRoom w0 v v') (hs : w0.heap.size ≤ w.heap.size) (n2 : NewRoom w v' v'') : NewRoom w0 v v'' := by
  rcases n2 with e | e
  · rcases n with n | n
    · exact .inl (e.trans n)
    · exact .inr (fun g hg => n g (e ▸ hg))
  · exact .inr (fun g hg => Nat.le_trans hs (e g hg))
theorem RdAt.spared {kd : IntKind} {row : Option Nat} {w0 : World} {a : Option Addr} {n c : Nat} {b : List Int} (r : RdAt kd w0 a n c b) (s : Spared h row w0 w) (hne : ∀ x, a = some x → x.block ≠ h ∧ some x.block ≠ row) : RdAt kd w a n c b :=
  ⟨r.len, r.cap, r.max, fun i hi => by
    obtain ⟨g, o, e, hc⟩ := r.cell i hi
    obtain ⟨h1, h2⟩ := hne _ e
    refine ⟨g, o, e, ?_⟩
    have := s.block g (block_lt_of_cell hc) h1 h2
    simp only [World.cell?] at hc ⊢
    rw [this]; exact hc, r.wf, r.void⟩
/-- The same where nothing is asked of a slice without elements. -/
theorem RdAt.sparedN {kd : IntKind} {row : Option Nat} {w0 : World} {a : Option Addr} {n c : Nat} {b : List Int} (r : RdAt kd w0 a n c b) (s : Spared h row w0 w) (hne : ∀ x, a = some x → 0 < n → x.block ≠ h ∧ some x.block ≠ row) : RdAt kd w a n c b :=
  ⟨r.len, r.cap, r.max, fun i hi => by
    obtain ⟨g, o, e, hc⟩ := r.cell i hi
    obtain ⟨h1, h2⟩ := hne _ e (by omega)
    refine ⟨g, o, e, ?_⟩
    have := s.block g (block_lt_of_cell hc) h1 h2
    simp only [World.cell?] at hc ⊢
    rw [this]; exact hc, r.wf, r.void⟩
theorem RdAt.grownN {kd : IntKind} {row : Option Nat} {a : Option Addr} {n c : Nat} {b : List Int} (r : RdAt kd w a n c b) (hg : w.grownBy w' row) (hne : ∀ x, a = some x → 0 < n → some x.block ≠ row) : RdAt kd w' a n c b :=
  ⟨r.len, r.cap, r.max, fun i hi => by
    obtain ⟨g, o, e, hc⟩ := r.cell i hi
    exact ⟨g, o, e, hg.cell hc (show some g ≠ row from hne _ e (by omega))⟩, r.wf, r.void⟩
theorem RdAt.keptW {kd : IntKind} {a : Option Addr} {n c : Nat} {b : List Int} (r : RdAt kd w a n c b) (hk : Kept w.drew w') : RdAt kd w' a n c b :=
  RdAt.below (w := w.drew) ⟨r.len, r.cap, r.max, r.cell, r.wf, r.void⟩ hk
theorem Owns.keptD {base : Nat} (o : Owns k e w base v l) (hk : Kept w.drew w') : Owns k e w' base v l := Owns.below (w := w.drew) o hk
end
end Go.Proofs.Ytfoabnoolmeoiaa
