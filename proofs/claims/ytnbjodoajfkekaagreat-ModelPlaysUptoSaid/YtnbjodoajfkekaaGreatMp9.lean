/- Regions that draw their order, some operations of which make blocks: these are apart. No program in sight. The machine: a machine apart (Twin). -/
import Derived.Test.YtnbjodoajfkekaaGreatMu0
import Derived.Test.YtnbjodoajfkekaaGreatMu3
import Derived.Test.YtnbjodoajfkekaaGreatMu21
import Derived.Test.YtnbjodoajfkekaaGreatMu22
import Derived.Test.YtnbjodoajfkekaaGreatMu14
import Derived.Test.YtnbjodoajfkekaaGreatMu20
import Derived.Shelf.SlMaps.Clone
import Derived.WalkKit
import Derived.ProofKit
import Derived.BigQuiet
import Derived.Deep.QuietTactic
import Derived.Lib.Hide
import Derived.RegionTactic
namespace Go.Proofs.YtnbjodoajfkekaaGreat
open Go.RowKit
/-- The block that a value leads to. -/
def blkOf : Value → Option Nat
 | .map (some b) => some b
 | .pointer (some a) => some a.block
 | .slice (some a) _ _ => some a.block
 | _ => none
def ApartV (v v' : Value) : Prop := ∀ b, blkOf v = some b → blkOf v' ≠ some b
section
variable (P : Program) (G : World → World → Prop) (F : Nat → Value → World → Prop) (D : List Tmp) (ds : List Deferred) (Nw : List Nat)
def TurnP (l : List Oper) (w : World) (o : Oper) (i : Nat) (t : Array Value) : Prop :=
 (Region.wanted o (yielded l.toArray t) = true → Oper.wp P o ⟨t, ds⟩ w (fun a' w' => a'.defers = ds ∧ G w w' ∧ F i (a'.tmps.getD (D.getD i 0) undef) w' ∧ (Nw.contains i = true → ∀ b, blkOf (a'.tmps.getD (D.getD i 0) undef) = some b → w.heap.size ≤ b)) (fun _ _ _ => False)) ∧
 (Region.wanted o (yielded l.toArray t) = false → F i undef w)
def PairOk (B : List Nat) (t : Array Value) : Prop := ∀ i j, i ∈ B → j ∈ B → i ≠ j → Nw.contains i = true → Nw.contains j = true → ApartV (t.getD (D.getD i 0) undef) (t.getD (D.getD j 0) undef)
def OblP (l : List Oper) (w0 : World) (t0 : Array Value) (o : Oper) (i : Nat) (B : List Nat) : Prop :=
 ∀ w, G w0 w → Given F D w t0 B fun t => PairOk D Nw B t → TurnP P G F D ds Nw l w o i t
def OblsP (l : List Oper) (w0 : World) (t0 : Array Value) : List Oper → Nat → List (List Nat) → Prop
 | o :: r, i, B :: Bs => OblP P G F D ds Nw l w0 t0 o i B ∧ OblsP l w0 t0 r (i + 1) Bs
 | _, _, _ => True
end
section
variable {P : Program} {G : World → World → Prop} {F : Nat → Value → World → Prop} {D : List Tmp} {ds : List Deferred} {Nw : List Nat} {l : List Oper} {w0 : World} {t0 : Array Value}
theorem OblsP.get {Bs : List (List Nat)} : ∀ {r : List Oper} {k : Nat} {B : List (List Nat)}, OblsP P G F D ds Nw l w0 t0 r k B → B.length = r.length → ∀ i o, r[i]? = some o → OblP P G F D ds Nw l w0 t0 o (k + i) (B.getD i [])
 | [], _, _, _, _, i, o, h => by simp at h
 | o :: r, k, [], h, hl, _, _, _ => by simp at hl
 | o :: r, k, B :: Bs', h, hl, 0, o', h' => by
  simp at h'
  subst h'
  exact h.1
 | o :: r, k, B :: Bs', h, hl, i + 1, o', h' => by
  have := OblsP.get (Bs := Bs) h.2 (by simpa using hl) i o' (by simpa using h')
  rw [show k + (i + 1) = k + 1 + i from by omega]
  simpa using this
/-- Each operation's way tells that its block is there. -/
def LtAll (F : Nat → Value → World → Prop) : List Nat → Prop
 | [] => True
 | j :: r => (∀ v w, F j v w → ∀ b, blkOf v = some b → b < w.heap.size) ∧ LtAll F r
theorem LtAll.all : ∀ {Nw : List Nat}, LtAll F Nw → ∀ j v w, Nw.contains j = true → F j v w → ∀ b, blkOf v = some b → b < w.heap.size
 | [], _, j, _, _, h, _, _, _ => by simp at h
 | k :: r, hl, j, v, w, h, hf, b, hb => by
  rw [List.contains_cons, Bool.or_eq_true] at h
  rcases h with h | h
  ·obtain rfl : j = k := by simpa using h
   exact hl.1 v w hf b hb
  ·exact hl.2.all j v w h hf b hb
end
set_option linter.unusedSimpArgs false
theorem IterG.tn {P : Program} {T k e : TypeId} {κ ν : Type} {M : MapK P T k e κ ν} {Q : Nat → Prop} {w w' : World} {b r : Nat} {D L : List (κ × ν)} (h : IterG M w b r D L) (t : Tn Q w w') (hb : ¬ Q b) (hr : ¬ Q r) : IterG M w' b r D L := by
 have l1 := h.map.lt
 have l2 := h.lt
 obtain ⟨es, clock, since, seen, c0, h1, h2, h3, h4, h5⟩ := h.all
 exact ⟨es, clock, since, seen, c0, (t.block b l1 hb).trans h1, h2, h3, (t.block r l2 hr).trans h4, h5⟩
section
variable {No : Nat → Prop} {h : McH} {st : Mc} {w : World}
end
end Go.Proofs.YtnbjodoajfkekaaGreat
