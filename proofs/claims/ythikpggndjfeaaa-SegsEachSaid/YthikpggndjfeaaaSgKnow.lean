/- segs: the chapter's example. -/
import Derived.Test.YthikpggndjfeaaaSgRel
namespace Go.Proofs.Ythikpggndjfeaaa
open Go.RowKit
/-- A table that was made behind w. -/
structure SgW (w wr : World) (d mb : Nat) (L : List Ent) : Prop where
  t : TbIn wr d mb L
  b : Below w.heap.size w wr
  d0 : w.heap.size ≤ d
  m0 : w.heap.size ≤ mb
theorem SgW.step {w wr w' : World} {d mb : Nat} {L L' : List Ent} (h : SgW w wr d mb L) (ht : TbIn w' d mb L') (hg : wr.grownBy w' (some mb)) : SgW w w' d mb L' :=
  ⟨ht, Below.grown h.b hg h.b.size (fun k e => by injection e with e; have := h.m0; omega), h.d0, h.m0⟩
theorem SgW.more {w wr w' : World} {d mb : Nat} {L : List Ent} (h : SgW w wr d mb L) (hb : Below wr.heap.size wr w') : SgW w w' d mb L :=
  ⟨h.t.below hb, Below.call h.b hb, h.d0, h.m0⟩
theorem SgW.made {w w0 w1 : World} {n : Nat} (hb0 : Below w.heap.size w w0) (ht : TbIn w1 (w0.heap.size + 1) w0.heap.size (List.replicate n ent0)) (hb : Below w0.heap.size w0 w1) : SgW w w1 (w0.heap.size + 1) w0.heap.size (List.replicate n ent0) :=
  ⟨ht, Below.call hb0 hb, by have := hb0.size; omega, hb0.size⟩
def KA : Ent := ⟨1, 0, 0⟩
def KF : Ent := ⟨2, 0, 0⟩
def KH : Ent := ⟨3, 0, 5⟩
theorem k1 : takeR (List.replicate 3 ent0) = 0 ∧ takeX (List.replicate 3 ent0) = 0 ∧ takeS (List.replicate 3 ent0) = [KA, ent0, ent0] := by decide
theorem k2 : takeR [KA, ent0, ent0] = 1 ∧ takeX [KA, ent0, ent0] = 0 ∧ takeS [KA, ent0, ent0] = [KA, KA, ent0] := by decide
theorem k3 : fillX [KA, KA, ent0] 0 = 0 ∧ fillS [KA, KA, ent0] 0 = [KF, KA, ent0] := by decide
theorem k4 : holdX [KF, KA, ent0] 0 = 0 ∧ holdS [KF, KA, ent0] 0 5 = [KH, KA, ent0] := by decide
theorem k5 : relL [KH, KA, ent0] 4 = [] ∧ relS [KH, KA, ent0] 4 = [KH, KA, ent0] := by decide
theorem k6 : relL [KH, KA, ent0] 5 = [0] ∧ relS [KH, KA, ent0] 5 = [ent0, KA, ent0] := by decide
theorem k7 : takeR [ent0, KA, ent0] = 0 ∧ takeX [ent0, KA, ent0] = 0 ∧ takeS [ent0, KA, ent0] = [KA, KA, ent0] := by decide
set_option linter.unusedSimpArgs false in
set_option linter.unusedVariables false in
set_option maxRecDepth 100000 in
set_option maxHeartbeats 2000000 in
theorem known7 (w : World) : Calls Try.prog 7 #[] w fun e w' => e = .returned (.bool true) ∧ Below w.heap.size w w' := by
  go_enter Try.func7, Try.ntmps7
  go_wp2_with fail
  refine (new_any 3 w (by decide) (by decide)).mono ?_
  rintro e w1 ⟨rfl, ht, hb⟩
  have S1 := Lib.hid (SgW.made (Below.refl w.heap.size w) ht hb)
  clear ht hb
  obtain ⟨d, hd⟩ : ∃ d, w.heap.size + 1 = d := ⟨_, rfl⟩
  obtain ⟨mb, hmb⟩ : ∃ mb, w.heap.size = mb := ⟨_, rfl⟩
  have S1' : Hid (SgW w w1 d mb (List.replicate 3 ent0)) := by
    have := S1.out
    rw [hd] at this
    rw [show SgW w w1 d mb (List.replicate 3 ent0) = SgW w w1 d w.heap.size (List.replicate 3 ent0) by rw [hmb]]
    exact this
  clear S1
  rw [hd]
  clear hd hmb
  go_wp2_with fail
  refine (take_any d mb _ w1 S1'.out.t).mono ?_
  rintro e w2 ⟨rfl, ht, hg⟩
  rw [k1.1, k1.2.1]
  rw [k1.2.2] at ht
  have S2 := Lib.hid (S1'.out.step ht hg)
  clear ht hg S1'
  go_wp2_with fail
  refine (take_any d mb _ w2 S2.out.t).mono ?_
  rintro e w3 ⟨rfl, ht, hg⟩
  rw [k2.1, k2.2.1]
  rw [k2.2.2] at ht
  have S3 := Lib.hid (S2.out.step ht hg)
  clear ht hg S2
  go_wp2_with fail
  refine (fill_any d mb _ 0 w3 S3.out.t).mono ?_
  rintro e w4 ⟨rfl, ht, hg⟩
  rw [k3.1]
  rw [k3.2] at ht
  have S4 := Lib.hid (S3.out.step ht hg)
  clear ht hg S3
  go_wp2_with fail
  refine (hold_any d mb _ 0 5 w4 S4.out.t).mono ?_
  rintro e w5 ⟨rfl, ht, hg⟩
  rw [k4.1]
  rw [k4.2] at ht
  have S5 := Lib.hid (S4.out.step ht hg)
  clear ht hg S4
  go_wp2_with fail
  refine (release_any d mb _ 4 w5 S5.out.t).mono ?_
  rintro e w6 ⟨v6, rfl, ho, ht, hg⟩
  rw [k5.1] at ho
  rw [k5.2] at ht
  obtain ⟨a6, c6, rfl⟩ := ho.shape
  have S6 := Lib.hid (S5.out.step ht hg)
  clear ht hg S5 ho
  go_wp2_with fail
  refine (release_any d mb _ 5 w6 S6.out.t).mono ?_
  rintro e w7 ⟨v7, rfl, ho, ht, hg⟩
  rw [k6.1] at ho
  rw [k6.2] at ht
  obtain ⟨a7, c7, rfl⟩ := ho.shape
  have hlow := S6.out.t.map.lt
  obtain ⟨g, o, ea, hc⟩ := ho.rd.cell 0 (by decide)
  subst ea
  have hgm : g ≠ mb := fun e => by
    have hcap : 1 ≤ c7 := ho.rd.cap
    have h1 := ho.at_base g (show (if c7 = 0 then none else some g) = some g by rw [if_neg (by omega)])
    omega
  have hcl : w7.cell? ⟨g, o, none⟩ = some (.int .i64 0) := hc
  have S7 := Lib.hid (S6.out.step ht hg)
  have HC := Lib.hid hcl
  have HGM := Lib.hid hgm
  clear ht hg S6 ho hc hcl hgm hlow
  go_wp2_with fail
  refine (take_any d mb _ w7 S7.out.t).mono ?_
  rintro e w8 ⟨rfl, ht, hg⟩
  rw [k7.1, k7.2.1]
  have hcl : w8.cell? ⟨g, o, none⟩ = some (.int .i64 0) := by rw [World.cell?_of_block (a := ⟨g, o, none⟩) (hg.block g (block_lt_of_cell HC.out) (fun e => HGM.out (by injection e)))]; exact HC.out
  have S8 := Lib.hid (S7.out.step ht hg)
  clear ht hg S7
  go_wp2_with fail
  go_ret
  exact ⟨rfl, S8.out.b⟩
end Go.Proofs.Ythikpggndjfeaaa
