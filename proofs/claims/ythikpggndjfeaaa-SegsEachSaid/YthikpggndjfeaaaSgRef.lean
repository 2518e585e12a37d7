/- segs: the document's table, in memory. -/
import Derived.Test.YthikpggndjfeaaaSgMem
import Derived.Test.YthikpggndjfeaaaApp
import Derived.IntWalk
namespace Go.Proofs.Ythikpggndjfeaaa
open Go.RowKit
/-- A segment's cells: its state, its epoch, what is used. -/
def Ent.rc (e : Ent) : List Value := [.int .i64 e.st, .int .i64 e.ep, .int .i64 e.us]
theorem rc_len : ∀ L : List Ent, (L.flatMap Ent.rc).length = L.length * 3
  | [] => rfl
  | e :: r => by rw [List.flatMap_cons, List.length_append, rc_len r, List.length_cons]; show 3 + _ = _; omega
theorem rc_at : ∀ (L : List Ent) (i j : Nat) (e : Ent), L[i]? = some e → j < 3 → (L.flatMap Ent.rc)[i * 3 + j]? = e.rc[j]?
  | [], i, j, e, h, _ => by cases h
  | x :: r, 0, j, e, h, hj => by
    injection h with h
    subst h
    rw [List.flatMap_cons, Nat.zero_mul, Nat.zero_add, List.getElem?_append_left (by show j < 3; exact hj)]
  | x :: r, i + 1, j, e, h, hj => by
    rw [List.getElem?_cons_succ] at h
    rw [List.flatMap_cons, List.getElem?_append_right (by show 3 ≤ _; omega)]
    rw [show (i + 1) * 3 + j - x.rc.length = i * 3 + j by show (i + 1) * 3 + j - 3 = _; omega]
    exact rc_at r i j e h hj
theorem rc_set : ∀ (L : List Ent) (i j : Nat) (e e' : Ent) (v : Value), L[i]? = some e → j < 3 → e'.rc = e.rc.set j v → (L.flatMap Ent.rc).set (i * 3 + j) v = (L.set i e').flatMap Ent.rc
  | [], i, j, e, e', v, h, _, _ => by cases h
  | x :: r, 0, j, e, e', v, h, hj, he => by
    injection h with h
    subst h
    rw [List.flatMap_cons, Nat.zero_mul, Nat.zero_add, List.set_append_left _ _ (by show j < 3; exact hj), List.set_cons_zero, List.flatMap_cons, he]
  | x :: r, i + 1, j, e, e', v, h, hj, he => by
    rw [List.getElem?_cons_succ] at h
    rw [List.flatMap_cons, List.set_append_right _ _ (by show 3 ≤ _; omega), List.set_cons_succ, List.flatMap_cons]
    rw [show (i + 1) * 3 + j - x.rc.length = i * 3 + j by show (i + 1) * 3 + j - 3 = _; omega]
    rw [rc_set r i j e e' v h hj he]
/-- The document's table: its row in block d, its segments in block g. -/
structure RtIn (w : World) (d g : Nat) (L : List Ent) : Prop where
  row : w.heap[d]? = some (.cells #[.slice (some ⟨g, 0, none⟩) L.length L.length] 53 (0, 0))
  seg : w.heap[g]? = some (.cells (L.flatMap Ent.rc).toArray 55 (0, 0))
  ok : LOk L
  ne : d ≠ g
section
variable {w w' : World} {d g : Nat} {L : List Ent}
theorem RtIn.lt (h : RtIn w d g L) : d < w.heap.size := (Array.getElem?_eq_some_iff.1 h.row).1
theorem RtIn.lt2 (h : RtIn w d g L) : g < w.heap.size := (Array.getElem?_eq_some_iff.1 h.seg).1
theorem RtIn.grown {row : Option Nat} (h : RtIn w d g L) (hg : w.grownBy w' row) (hd : some d ≠ row) (hm : some g ≠ row) : RtIn w' d g L :=
  ⟨(hg.block d h.lt hd).trans h.row, (hg.block g h.lt2 hm).trans h.seg, h.ok, h.ne⟩
theorem RtIn.below (h : RtIn w d g L) (hb : Below w.heap.size w w') : RtIn w' d g L :=
  ⟨(hb.block d h.lt).trans h.row, (hb.block g h.lt2).trans h.seg, h.ok, h.ne⟩
theorem RtIn.c0 (h : RtIn w d g L) : w.cell? ⟨d, 0, none⟩ = some (.slice (some ⟨g, 0, none⟩) L.length L.length) := by simp [World.cell?, h.row]
theorem RtIn.get (h : RtIn w d g L) (k : Nat) (hk : k < L.length) : w.cell? ⟨g, k * 3, none⟩ = some (.int .i64 (getE L k).st) ∧ w.cell? ⟨g, k * 3 + 1, none⟩ = some (.int .i64 (getE L k).ep) ∧ w.cell? ⟨g, k * 3 + 2, none⟩ = some (.int .i64 (getE L k).us) := by
  have e : L[k]? = some (L[k]) := List.getElem?_eq_getElem hk
  have eg : getE L k = L[k] := by rw [getE_nat, e]; rfl
  rw [eg]
  have a0 : (L.flatMap Ent.rc)[k * 3 + 0]? = some (.int .i64 (L[k]).st) := rc_at L k 0 _ e (by omega)
  have a1 : (L.flatMap Ent.rc)[k * 3 + 1]? = some (.int .i64 (L[k]).ep) := rc_at L k 1 _ e (by omega)
  have a2 : (L.flatMap Ent.rc)[k * 3 + 2]? = some (.int .i64 (L[k]).us) := rc_at L k 2 _ e (by omega)
  refine ⟨?_, ?_, ?_⟩
  · rw [cell_of_row w g (k * 3) _ _ _ h.seg]
    simpa using a0
  · rw [cell_of_row w g (k * 3 + 1) _ _ _ h.seg]
    simpa using a1
  · rw [cell_of_row w g (k * 3 + 2) _ _ _ h.seg]
    simpa using a2
theorem RtIn.frz (h : RtIn w d g L) (i : Nat) : w.frozen? ⟨g, i, none⟩ = false := frozen_of_row w g i _ _ h.seg
/-- One cell of segment k is stored. -/
theorem RtIn.set (h : RtIn w d g L) (k j : Nat) (e' : Ent) (v : Value) (hk : k < L.length) (hj : j < 3) (he : e'.rc = (getE L k).rc.set j v) (hok : LOk (setE L k e')) :
    RtIn (w.setCell ⟨g, k * 3 + j, none⟩ v) d g (setE L k e') ∧ w.grownBy (w.setCell ⟨g, k * 3 + j, none⟩ v) (some g) := by
  have e : L[k]? = some (L[k]) := List.getElem?_eq_getElem hk
  have eg : getE L k = L[k] := by rw [getE_nat, e]; rfl
  rw [eg] at he
  have hg := cell_grown1 w g (k * 3 + j) v
  refine ⟨⟨?_, ?_, hok, h.ne⟩, hg⟩
  · rw [hg.block d h.lt (fun q => h.ne (by injection q)), h.row, set_len]
  · rw [heap_setCell_same w g (k * 3 + j) _ _ _ h.seg]
    unfold setE
    rw [Int.toNat_natCast, ← rc_set L k j _ e' v e hj he]
    simp
end
end Go.Proofs.Ythikpggndjfeaaa
