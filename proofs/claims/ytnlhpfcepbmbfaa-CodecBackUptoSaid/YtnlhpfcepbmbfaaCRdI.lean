/- codec's Reader: how what is tried ends; int so. -/
import Derived.Test.YtnlhpfcepbmbfaaCRdr
namespace Go.Proofs.Ytnlhpfcepbmbfaa
open Go.RowKit
theorem grown_trans {a b c : World} {k : Option Nat} (h : a.grownBy b k) (g : b.grownBy c k) : a.grownBy c k := World.grownBy.trans h g
theorem below_grown {w w' : World} {h : Nat} (hb : Below w.heap.size w w') (_ : h < w.heap.size) : w.grownBy w' (some h) := ⟨hb.os, hb.tape, hb.output, hb.size, fun k hk _ => hb.block k hk⟩
theorem below_row {w w' : World} {k : Nat} {o : Obj} (ho : w.heap[k]? = some o) (hb : Below w.heap.size w w') : w'.heap[k]? = some o := by
  rw [hb.block k (Array.getElem?_eq_some_iff.1 ho).1]; exact ho
theorem grown_more {w w2 w3 : World} {h : Nat} {row : Option Nat} (hG : w.grownBy w2 (some h)) (hg : w2.grownBy w3 row) (hr : ∀ g, row = some g → w.heap.size ≤ g) : w.grownBy w3 (some h) :=
  ⟨hg.os.trans hG.os, hg.tape.trans hG.tape, hg.output.trans hG.output, Nat.le_trans hG.size hg.size, fun b hb hne => by
    rw [hg.block b (Nat.lt_of_lt_of_le hb hG.size) (fun e => by have := hr b e.symm; omega), hG.block b hb hne]⟩
theorem grown_drew {w w' : World} {r : Option Nat} (h : w.grownBy w' r) : w.grownBy w'.drew r := ⟨h.os, h.tape, h.output, h.size, h.block⟩
theorem crdr_drew {B : Nat} {w : World} {h : Nat} {a : Option Addr} {n c : Nat} {l : List Int} {e : Int} (r : CRdr B w h a n c l e) : CRdr B w.drew h a n c l e :=
  ⟨r.row, ⟨r.rd.len, r.rd.cap, r.rd.max, r.rd.cell, r.rd.wf, r.rd.void⟩, r.lo, r.sp, r.hi⟩
def isI (_ : Nat) (x : Int) (v : Value) (_ : World) : Prop := v = .int .i64 x
def isB (base : Nat) (l : List Int) (v : Value) (w : World) : Prop := Owns .u8 5 w base v l
def isL (base : Nat) (l : List Int) (v : Value) (w : World) : Prop := Owns .i64 3 w base v l
/-- How something that is tried ends: told, or with a panic. -/
def RPost (B : Nat) {α : Type} (val : Nat → α → Value → World → Prop) (h : Nat) (r : Rd α) (w : World) (e : Ending) (w' : World) : Prop :=
  w.grownBy w' (some h) ∧ RIn B w' h r.l 0 ∧ ((r.e = 0 ∧ ∃ v, e = .returned v ∧ val w.heap.size r.v v w') ∨ (r.e ≠ 0 ∧ e = PE r.e))
variable {B : Nat}
theorem int_post (h : Nat) (l : List Int) (w : World) (r : RIn B w h l 0) : Calls Try.prog 43 #[.pointer (some ⟨h, 0, none⟩)] w (RPost B isI h (rdInt l) w) := by
  by_cases he : rvE l l.length = 0
  · refine (int_ok h l w r he).mono ?_
    rintro e w' ⟨rfl, hr, hg⟩
    rw [rdInt_ok he]
    exact ⟨hg, hr, .inl ⟨rfl, _, rfl, rfl⟩⟩
  · refine (int_bad h l w r he).mono ?_
    rintro e w' ⟨rfl, rfl⟩
    rw [rdInt_bad he]
    exact ⟨World.grownBy.refl _ _, r, .inr ⟨he, rfl⟩⟩
theorem RIn.wf {w : World} {h : Nat} {l : List Int} {e : Int} (r : RIn B w h l e) : ∀ y ∈ l, (Lit.int .u8 y).wf = true := by obtain ⟨a, n, c, r⟩ := r; exact r.rd.wf
theorem rdInt_bd {l : List Int} (h : ∀ y ∈ l, (Lit.int .u8 y).wf = true) : -9223372036854775808 ≤ (rdInt l).v ∧ (rdInt l).v ≤ 9223372036854775807 := by
  by_cases he : rvE l l.length = 0
  · rw [rdInt_ok he]
    exact zagI_bd _ (rdV_bd _ _) (rdV_lt _ _ (rd_nth_pos l h 9))
  · rw [rdInt_bad he]
    exact ⟨(show (-9223372036854775808 : Int) ≤ 0 by decide), (show (0 : Int) ≤ 9223372036854775807 by decide)⟩
theorem heap_kept {w w' : World} {h k : Nat} {o : Obj} (ho : w.heap[k]? = some o) (hg : w.grownBy w' (some h)) (hk : k ≠ h) : w'.heap[k]? = some o := by
  rw [hg.block k (Array.getElem?_eq_some_iff.1 ho).1 (fun e => hk (Option.some.inj e))]; exact ho
theorem one_cell {w : World} {k T : Nat} {v : Value} (ho : w.heap[k]? = some (.cells #[v] T (0, 0))) : w.cell? ⟨k, 0, none⟩ = some v := by rw [cell_of_row w _ _ _ _ _ ho]; rfl
end Go.Proofs.Ytnlhpfcepbmbfaa
