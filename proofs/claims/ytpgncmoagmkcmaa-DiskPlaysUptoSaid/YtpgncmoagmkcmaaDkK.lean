/- disk: the chapter's example. -/
import Derived.Test.YtpgncmoagmkcmaaDkE
namespace Go.Proofs.Ytpgncmoagmkcmaa
open Go.RowKit
/-- A disk that is made behind w0. -/
structure DkB (w0 w : World) (d : Nat) (Z : Nat → Prop) (st : Dk) : Prop where
  din : DkIn w Z d st
  base : ∀ k, Z k → w0.heap.size ≤ k
  below : Below w0.heap.size w0 w
theorem DkB.more {w0 w w' : World} {d : Nat} {Z : Nat → Prop} {st : Dk} (h : DkB w0 w d Z st) (b : Below w.heap.size w w') : DkB w0 w' d Z st := ⟨h.din.below b, h.base, Below.call h.below b⟩
theorem DkB.turn {w0 w w' : World} {d : Nat} {Z Z' : Nat → Prop} {st st' : Dk} (h : DkB w0 w d Z st) (i : DkIn w' Z' d st') (t : Tnd Z Z' w w') : DkB w0 w' d Z' st' :=
  ⟨i, t.base h.base h.below.size, h.below.trans (t.below h.base h.below.size)⟩
/-- A buffer of bytes in a block of its own. -/
def BufAt (w : World) (b : Nat) (l : List Int) : Prop := w.heap[b]? = some (.cells (l.map (Value.int .u8)).toArray 5 (0, 0)) ∧ (∀ x ∈ l, (Lit.int .u8 x).wf = true) ∧ l.length ≤ 1000000
theorem BufAt.rd {w : World} {b : Nat} {l : List Int} (h : BufAt w b l) : RdAt .u8 w (some ⟨b, 0, none⟩) l.length l.length l :=
  ⟨rfl, Nat.le_refl _, by have := h.2.2; unfold maxLen; omega, fun i hi => ⟨b, 0, rfl, by rw [cell_of_row w _ _ _ _ _ h.1]; simp [nth_eq hi, hi]⟩, h.2.1, fun h => by cases h⟩
theorem BufAt.cell {w : World} {b : Nat} {l : List Int} (h : BufAt w b l) {i : Nat} (hi : i < l.length) : w.cell? ⟨b, i, none⟩ = some (.int .u8 (nth l i)) := by
  rw [cell_of_row w _ _ _ _ _ h.1]; simp [nth_eq hi, hi]
theorem BufAt.free {w : World} {b : Nat} {l : List Int} (h : BufAt w b l) (i : Nat) : w.frozen? ⟨b, i, none⟩ = false := frozen_of_row w _ i _ _ h.1
theorem BufAt.put {w : World} {b : Nat} {l : List Int} (h : BufAt w b l) (i : Nat) (x : Int) (hx : (Lit.int .u8 x).wf = true) : BufAt (w.setCell ⟨b, i, none⟩ (.int .u8 x)) b (l.set i x) := by
  refine ⟨by rw [heap_setCell_same w b i _ _ _ h.1]; simp, fun y hy => ?_, by rw [List.length_set]; exact h.2.2⟩
  rcases List.mem_or_eq_of_mem_set hy with h1 | h1
  · exact h.2.1 y h1
  · rw [h1]; exact hx
theorem BufAt.lt {w : World} {b : Nat} {l : List Int} (h : BufAt w b l) : b < w.heap.size := (Array.getElem?_eq_some_iff.1 h.1).1
theorem BufAt.below {w w' : World} {b : Nat} {l : List Int} (h : BufAt w b l) (hb : Below w.heap.size w w') : BufAt w' b l := ⟨row_keep h.1 hb, h.2⟩
theorem BufAt.tnd {Z Z' : Nat → Prop} {w w' : World} {b : Nat} {l : List Int} (h : BufAt w b l) (t : Tnd Z Z' w w') (hz : ¬ Z b) : BufAt w' b l := ⟨by rw [t.block b h.lt hz]; exact h.1, h.2⟩
theorem mk64 (w : World) : ∃ w', (Instr.makeSlice 22 (.int .i64 64) (.int .i64 64)).run Try.prog w = .ok (.slice (some ⟨w.heap.size, 0, none⟩) 64 64) w' ∧ BufAt w' w.heap.size (List.replicate 64 0) ∧ Below w.heap.size w w' :=
  ⟨_, mk_bytes 64 (by omega) w, ⟨by rw [List.map_replicate]; exact heap_alloc_new _ _, fun x hx => by rw [List.eq_of_mem_replicate hx]; rfl, by simp⟩, (Below.refl _ _).alloc (Nat.le_refl _) _⟩
theorem put_below (w : World) (B b i : Nat) (x : Value) (h : B ≤ b) : Below B w (w.setCell ⟨b, i, none⟩ x) :=
  ⟨rfl, rfl, rfl, by simp, fun k hk => heap_setCell_other w ⟨b, i, none⟩ k x (by show k ≠ b; omega)⟩
def A1 : List Int := (List.replicate 64 0).set 0 1
def A2 : List Int := (List.replicate 64 0).set 0 2
def S0 : Dk := dk0 2 64
def S1 : Dk := wrS S0 0 A1
def S2 : Dk := wrS S1 0 A2
def S3 : Dk := rdS S2 0
def S4 : Dk := cutS S3 [true]
def S5 : Dk := rdS S4 0
def S6 : Dk := { S5 with off := false }
def S7 : Dk := rdS S6 0
theorem k2 : rdV S2 0 = A2 := by kernel_rfl
theorem k4 : rdE S4 0 = 8 := by kernel_rfl
theorem k6 : rdV S6 0 = A1 := by kernel_rfl
theorem lenA1 : A1.length = 64 := by kernel_rfl
theorem lenA2 : A2.length = 64 := by kernel_rfl
theorem nthA1 : nth A1 0 = 1 := by kernel_rfl
theorem nthA2 : nth A2 0 = 2 := by kernel_rfl
theorem k60 : rdE S6 0 = 0 := by kernel_rfl
theorem kb0 : S0.pend.length + 1 ≤ 1000000 ∧ S0.writes + 1 ≤ 4611686018427387904 := of_decide_eq_true (by kernel_rfl)
theorem kb1 : S1.pend.length + 1 ≤ 1000000 ∧ S1.writes + 1 ≤ 4611686018427387904 := of_decide_eq_true (by kernel_rfl)
theorem kb2 : S2.reads + 1 ≤ 4611686018427387904 ∧ S4.reads + 1 ≤ 4611686018427387904 ∧ S6.reads + 1 ≤ 4611686018427387904 := of_decide_eq_true (by kernel_rfl)
theorem r264 : rightB 2 64 = true := by decide
set_option linter.unusedSimpArgs false in
set_option linter.unusedVariables false in
set_option maxRecDepth 100000 in
set_option maxHeartbeats 2000000 in
theorem known_any (w : World) : Calls Try.prog 8 #[] w fun e w' => e = .returned (.bool true) ∧ Below w.heap.size w w' := by
  go_enter Try.func8, Try.ntmps8
  go_wp2_with fail
  refine (new_any 2 64 w r264).mono ?_
  rintro e w1 ⟨d, Z, rfl, hd1, hz1, hb1⟩
  have D1 := Lib.hid (DkB.mk hd1 hz1 hb1)
  clear hd1 hz1 hb1
  go_wp2_with fail
  obtain ⟨w2, hr2, hu2, hb2⟩ := mk64 w1
  rw [hr2]
  obtain ⟨b1, hb1⟩ : ∃ b1, w1.heap.size = b1 := ⟨_, rfl⟩
  rw [hb1] at hu2 ⊢
  have c0 := hu2.cell (i := 0) (by simp)
  have f0 := hu2.free 0
  have HU2 := Lib.hid hu2
  have HB2 := Lib.hid hb2
  clear hr2 hu2 hb2
  go_wp2_with fail
  obtain ⟨w3, hw3⟩ : ∃ w3, w2.setCell ⟨b1, 0, none⟩ (.int .u8 1) = w3 := ⟨_, rfl⟩
  have U3 := Lib.hid (show BufAt w3 b1 A1 by rw [← hw3]; exact HU2.out.put 0 1 (by rfl))
  have hb3 : Below w1.heap.size w1 w3 := by rw [← hw3]; exact HB2.out.trans (put_below _ _ _ _ _ (by omega))
  rw [hw3]
  clear hw3 c0 f0 HU2 HB2
  have hz3 : ¬ Z b1 := fun h => by have := D1.out.din.1 b1 h; omega
  have D3 := Lib.hid (D1.out.more hb3)
  clear D1 hb3
  obtain ⟨w4, hr4, hu4, hb4⟩ := mk64 w3
  rw [hr4]
  obtain ⟨b2, hb2⟩ : ∃ b2, w3.heap.size = b2 := ⟨_, rfl⟩
  rw [hb2] at hu4 ⊢
  have c0 := hu4.cell (i := 0) (by simp)
  have f0 := hu4.free 0
  have HU4 := Lib.hid hu4
  have HB4 := Lib.hid hb4
  clear hr4 hu4 hb4
  go_wp2_with fail
  obtain ⟨w5, hw5⟩ : ∃ w5, w4.setCell ⟨b2, 0, none⟩ (.int .u8 2) = w5 := ⟨_, rfl⟩
  have U5 := Lib.hid (show BufAt w5 b2 A2 by rw [← hw5]; exact HU4.out.put 0 2 (by rfl))
  have hb5 : Below w3.heap.size w3 w5 := by rw [← hw5]; exact HB4.out.trans (put_below _ _ _ _ _ (by omega))
  rw [hw5]
  clear hw5 c0 f0 HU4 HB4
  have hz5 : ¬ Z b2 := fun h => by have := D3.out.din.1 b2 h; omega
  have U35 := Lib.hid (U3.out.below hb5)
  have D5 := Lib.hid (D3.out.more hb5)
  clear D3 hb5 U3
  refine (write_any Z d S0 0 (some ⟨b1, 0, none⟩) 64 64 A1 w5 D5.out.din U35.out.rd (fun x hx => by injection hx with hx; subst hx; exact hz3) (by omega) (by omega) kb0.1 kb0.2).mono ?_
  rintro e w6 ⟨rfl, Z6, hd6, ht6⟩
  have U6 := Lib.hid (U5.out.tnd ht6 hz5)
  have hz6 : ¬ Z6 b2 := fun h => by
    rcases ht6.sub b2 h with h | h
    · exact hz5 h
    · have := U5.out.lt; omega
  have D6 := Lib.hid (D5.out.turn hd6 ht6)
  clear U35 U5 D5 hd6 ht6
  go_wp2_with fail
  refine (write_any Z6 d S1 0 (some ⟨b2, 0, none⟩) 64 64 A2 w6 D6.out.din U6.out.rd (fun x hx => by injection hx with hx; subst hx; exact hz6) (by omega) (by omega) kb1.1 kb1.2).mono ?_
  rintro e w7 ⟨rfl, Z7, hd7, ht7⟩
  have D7 := Lib.hid (D6.out.turn hd7 ht7)
  clear U6 D6 hd7 ht7
  go_wp2_with fail
  refine (read_any Z7 d S2 0 w7 D7.out.din (by omega) (by omega) kb2.1).mono ?_
  rintro e w8 ⟨v8, rfl, ho8, hd8, ht8⟩
  rw [k2] at ho8
  obtain ⟨g8, c8, hv8, hg8, hr8, hB8, hl8⟩ := ho8.slc (by rw [lenA2]; omega)
  rw [lenA2] at hv8 hr8
  subst hv8
  have hz8 : ¬ Z7 g8 := fun h => by have := D7.out.din.1 g8 h; omega
  have D8 := Lib.hid (D7.out.turn hd8 ht8)
  have R8 := Lib.hid hr8
  clear D7 hd8 ht8 ho8 hr8 hg8
  go_wp2_with fail
  have hba : Below w8.heap.size w8 (w8.alloc (.cells #[.bool true] 4)) := (Below.refl _ _).alloc (Nat.le_refl _) _
  have hka : RdB (w8.alloc (.cells #[.bool true] 4)) (some ⟨w8.heap.size, 0, none⟩) 1 1 [true] :=
    ⟨rfl, Nat.le_refl _, by unfold maxLen; omega, fun i hi => ⟨w8.heap.size, 0, rfl, by
      obtain rfl : i = 0 := by omega
      rw [cell_of_row _ _ _ _ _ _ (heap_alloc_new w8 _)]; rfl⟩, fun h => by cases h⟩
  have hsa : (w8.alloc (.cells #[.bool true] 4)).heap.size = w8.heap.size + 1 := by simp
  obtain ⟨w9, hw9⟩ : ∃ w9, w8.alloc (.cells #[.bool true] 4) = w9 := ⟨_, rfl⟩
  rw [hw9] at hba hka hsa ⊢
  have D9 := Lib.hid (D8.out.more hba)
  have R9 := Lib.hid (R8.out.below hba)
  have hzk : ¬ Z7 w8.heap.size := fun h => by have := D8.out.din.1 _ h; omega
  have hl9 : g8 < w9.heap.size := by omega
  clear hw9 R8 hba
  refine (cut_any Z7 d S3 w9 D9.out.din (some ⟨w8.heap.size, 0, none⟩) 1 1 [true] hka (fun x hx _ => by injection hx with hx; subst hx; exact ⟨by show w8.heap.size < w9.heap.size; omega, hzk⟩)).mono ?_
  rintro e w10 ⟨rfl, hd10, ht10⟩
  have D10 := Lib.hid (D9.out.turn hd10 ht10)
  have R10 := Lib.hid (R9.out.tnd ht10 (fun x hx => by injection hx with hx; subst hx; exact hz8))
  clear D8 D9 R9 hd10 ht10 hka
  go_wp2_with fail
  refine (read_any Z7 d S4 0 w10 D10.out.din (by omega) (by omega) kb2.2.1).mono ?_
  rintro e w11 ⟨v11, rfl, ho11, hd11, ht11⟩
  rw [k4]
  have D11 := Lib.hid (D10.out.turn hd11 ht11)
  have R11 := Lib.hid (R10.out.tnd ht11 (fun x hx => by injection hx with hx; subst hx; exact hz8))
  clear D10 hd11 ht11 ho11 R10
  go_wp2_with fail
  refine (on_any Z7 d S5 w11 D11.out.din).mono ?_
  rintro e w12 ⟨rfl, hd12, ht12⟩
  have D12 := Lib.hid (D11.out.turn hd12 ht12)
  have R12 := Lib.hid (R11.out.tnd ht12 (fun x hx => by injection hx with hx; subst hx; exact hz8))
  clear D11 hd12 ht12 R11
  go_wp2_with fail
  refine (read_any Z7 d S6 0 w12 D12.out.din (by omega) (by omega) kb2.2.2).mono ?_
  rintro e w13 ⟨v13, rfl, ho13, hd13, ht13⟩
  rw [k6] at ho13
  obtain ⟨g13, c13, hv13, hg13, hr13, hB13, hl13⟩ := ho13.slc (by rw [lenA1]; omega)
  rw [lenA1] at hv13 hr13
  subst hv13
  have D13 := Lib.hid (D12.out.turn hd13 ht13)
  have R13 := Lib.hid (R12.out.tnd ht13 (fun x hx => by injection hx with hx; subst hx; exact hz8))
  obtain ⟨q1, q2, q3, q4⟩ := R13.out.cell 0 (by omega)
  injection q3 with q3
  injection q3 with q5 q6
  subst q5 q6
  obtain ⟨p1, p2, p3, p4⟩ := hr13.cell 0 (by omega)
  injection p3 with p3
  injection p3 with p5 p6
  subst p5 p6
  rw [nthA2] at q4
  rw [nthA1] at p4
  clear D12 hd13 ht13 R12 ho13 hr13 R13
  go_wp2_with fail
  go_ret
  exact ⟨rfl, D13.out.below⟩
end Go.Proofs.Ytpgncmoagmkcmaa
