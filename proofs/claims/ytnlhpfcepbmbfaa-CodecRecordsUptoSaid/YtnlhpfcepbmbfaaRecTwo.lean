/- Two readers that go side by side: the program's and the reference's. -/
import Derived.Test.YtnlhpfcepbmbfaaRRdB
import Derived.Test.YtnlhpfcepbmbfaaItemsFew
import Derived.Test.YtnlhpfcepbmbfaaStr
namespace Go.Proofs.Ytnlhpfcepbmbfaa
open Go.RowKit
theorem typed_ne {w : World} {a : Option Addr} {n c : Nat} {l : List Int} {h : Nat} {x0 : Option Addr} {x1 x2 : Nat} {e : Int} {T : TypeId} (r : RdAt .u8 w a n c l) (row : w.heap[h]? = some (.cells #[.slice x0 x1 x2, .int .i64 e] T (0, 0))) : ∀ q, a = some q → 0 < n → q.block ≠ h := by
  intro q hq hn hb
  obtain ⟨b, o, e1, hc⟩ := r.cell 0 hn
  rw [hq] at e1
  injection e1 with e1
  subst e1
  replace hb : b = h := hb
  subst hb
  rw [cell_of_row w _ _ _ _ _ row] at hc
  rcases o with _ | _ | o
  · cases hc
  · cases hc
  · cases hc
theorem RRIn.row {w : World} {h : Nat} {l : List Int} {e : Int} (r : RRIn w h l e) : ∃ x0 x1 x2 e1 T, w.heap[h]? = some (.cells #[.slice x0 x1 x2, .int .i64 e1] T (0, 0)) := by
  obtain ⟨a, n, c, r⟩ := r
  exact ⟨_, _, _, _, _, r.row⟩
theorem RIn.row {B : Nat} {w : World} {h : Nat} {l : List Int} {e : Int} (r : RIn B w h l e) : ∃ x0 x1 x2 e1 T, w.heap[h]? = some (.cells #[.slice x0 x1 x2, .int .i64 e1] T (0, 0)) := by
  obtain ⟨a, n, c, r⟩ := r
  exact ⟨_, _, _, _, _, r.row⟩
/-- Block h holds a reader. -/
def RdrRow (w : World) (h : Nat) : Prop := ∃ x0 x1 x2 e1 T, w.heap[h]? = some (.cells #[.slice x0 x1 x2, .int .i64 e1] T (0, 0))
/-- A reader's way to turn the world. -/
def RGo (h : Nat) (w w' : World) : Prop := w.grownBy w' (some h) ∧ RdrRow w h
theorem RRIn.off {w w' : World} {h k : Nat} {l : List Int} {e : Int} (r : RRIn w h l e) (g : RGo k w w') (hk : h ≠ k) : RRIn w' h l e := by
  obtain ⟨a, n, c, r⟩ := r
  obtain ⟨hg, x0, x1, x2, e1, T, row⟩ := g
  exact ⟨a, n, c, r.apart hg hk (typed_ne r.rd row)⟩
theorem RIn.off {B : Nat} {w w' : World} {h k : Nat} {l : List Int} {e : Int} (r : RIn B w h l e) (g : RGo k w w') (hk : h < k) : RIn B w' h l e :=
  r.grown g.1 (fun q hq => by injection hq with hq; omega)
theorem RdAt.off {w w' : World} {a : Option Addr} {n c k : Nat} {l : List Int} (r : RdAt .u8 w a n c l) (g : RGo k w w') : RdAt .u8 w' a n c l := by
  obtain ⟨hg, x0, x1, x2, e1, T, row⟩ := g
  exact r.far hg (typed_ne r row)
theorem isBytes.off {w w' : World} {k : Nat} {l : List Int} {v : Value} (r : isBytes l v w) (g : RGo k w w') : isBytes l v w' := by
  obtain ⟨a, n, c, rfl, r⟩ := r
  exact ⟨a, n, c, rfl, r.off g⟩
theorem isBytes.below {w w' : World} {l : List Int} {v : Value} (r : isBytes l v w) (hb : Below w.heap.size w w') : isBytes l v w' := by
  obtain ⟨a, n, c, rfl, r⟩ := r
  exact ⟨a, n, c, rfl, r.below hb⟩
theorem below_rgo {w0 w w' : World} {k : Nat} (b : Below w0.heap.size w0 w) (g : RGo k w w') (hk : w0.heap.size ≤ k) : Below w0.heap.size w0 w' :=
  b.grown g.1 b.size (fun q hq => by injection hq with hq; omega)
theorem rdBytes_le (most : Int) (l : List Int) : (rdBytes most l).l.length ≤ l.length := by
  have h := btw_len 0 0 most l
  rw [rdFrom_ok] at h
  unfold rdBytes
  split
  · exact h
  · split
    · exact h
    · exact Nat.le_trans (by rw [List.length_drop]; omega) h
theorem rdInts_le : ∀ (k : Nat) (l : List Int), (rdInts k l).l.length ≤ l.length
  | 0, l => Nat.le_refl _
  | k + 1, l => by
    have h1 := rdInt_le l
    have h2 := rdInts_le k (rdInt l).l
    rw [rdInts]
    split
    · exact h1
    · split
      · exact Nat.le_trans h2 h1
      · exact Nat.le_trans h2 h1
theorem rdList_le (most : Int) (l : List Int) : (rdList most l).l.length ≤ l.length := by
  have h := btw_len 0 0 most l
  rw [rdFrom_ok] at h
  unfold rdList
  split
  · exact h
  · exact Nat.le_trans (rdInts_le _ _) h
theorem rdFrom_le {α : Type} (e0 : Int) (z : α) {l : List Int} {T : Rd α} (h : T.l.length ≤ l.length) : (rdFrom e0 z l T).l.length ≤ l.length := by
  unfold rdFrom
  split
  · exact Nat.le_refl _
  · exact h
theorem ItemsAt.below' {w w' : World} {a : Option Addr} {n : Nat} {L : List ItemP} (h : ItemsAt w a n L) (hb : Below w.heap.size w w') : ItemsAt w' a n L := by
  refine ⟨h.len, fun i A hA => ?_⟩
  obtain ⟨b, o, e, ⟨a2, n2, c2, a3, n3, c3, e0, e1, e2, e3, e4, e5, r2, r3⟩, hwf⟩ := h.at_ i A hA
  have k : ∀ (j : Nat) (v : Value), w.cell? ⟨b, j, none⟩ = some v → w'.cell? ⟨b, j, none⟩ = some v := fun j v hv => by
    rw [← hv]; exact World.cell?_of_block (a := ⟨b, j, none⟩) (hb.block b (block_lt_of_cell hv))
  exact ⟨b, o, e, ⟨a2, n2, c2, a3, n3, c3, k _ _ e0, k _ _ e1, k _ _ e2, k _ _ e3, k _ _ e4, k _ _ e5, r2.below hb, r3.below hb⟩, hwf⟩
/-- Both readers have the same bytes left, and the same error. -/
structure RTwo (B : Nat) (w0 w : World) (h1 h2 : Nat) (l : List Int) (e : Int) : Prop where
  p : RIn B w h1 l e
  q : RRIn w h2 l e
  below : Below w0.heap.size w0 w
  lo : w0.heap.size ≤ h1
  lt : h1 < h2
section
variable {B : Nat} {w0 w w1 w2 : World} {h1 h2 : Nat} {l l1 : List Int} {e e1 : Int}
theorem RTwo.kept (t : RTwo B w0 w h1 h2 l e) (hb : Below w.heap.size w w1) : RTwo B w0 w1 h1 h2 l e :=
  ⟨t.p.below hb, t.q.below hb, Below.call t.below hb, t.lo, t.lt⟩
theorem RTwo.goP (t : RTwo B w0 w h1 h2 l e) (g : w.grownBy w1 (some h1)) : RGo h1 w w1 := ⟨g, t.p.row⟩
theorem RTwo.midQ (t : RTwo B w0 w h1 h2 l e) (g : w.grownBy w1 (some h1)) : RRIn w1 h2 l e := t.q.off (t.goP g) (by have := t.lt; omega)
theorem RTwo.next (t : RTwo B w0 w h1 h2 l e) (g : w.grownBy w1 (some h1)) (p : RIn B w1 h1 l1 e1) (g2 : w1.grownBy w2 (some h2)) (q : RRIn w2 h2 l1 e1) : RTwo B w0 w2 h1 h2 l1 e1 :=
  ⟨p.off ⟨g2, (t.midQ g).row⟩ t.lt, q, below_rgo (below_rgo t.below (t.goP g) t.lo) ⟨g2, (t.midQ g).row⟩ (by have := t.lo; have := t.lt; omega), t.lo, t.lt⟩
end
end Go.Proofs.Ytnlhpfcepbmbfaa
