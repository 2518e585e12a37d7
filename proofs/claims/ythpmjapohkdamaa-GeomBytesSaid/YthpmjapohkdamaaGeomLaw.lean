/- What a shape's numbers come to, and its nine cells. No program in sight. -/
import Derived.ProofKit
import Derived.WalkKit
namespace Go.Proofs.Ythpmjapohkdamaa
open Go.RowKit

def btw (v lo hi : Int) : Bool := decide (lo ≤ v) && decide (v ≤ hi)
theorem btw_true {v lo hi : Int} (h : btw v lo hi = true) : lo ≤ v ∧ v ≤ hi := by
  unfold btw at h
  simpa using h
theorem btw_of {v lo hi : Int} (h1 : lo ≤ v) (h2 : v ≤ hi) : btw v lo hi = true := by
  unfold btw
  simp [h1, h2]
def plainG (a0 a1 a2 a3 a4 a5 a6 a7 a8 : Int) : Bool :=
  btw a0 1 65536 && btw a1 64 4096 && btw a4 16 4096 && btw a2 4 4096 && btw a3 2 4096 && btw a5 4 4096 && btw a6 1 64 && btw a7 1 32 && btw a8 1 65536
def segN (a0 a2 a3 : Int) : Int := if a0 - 2 - a2 < 0 then 0 else (a0 - 2 - a2) / a3
def blobN (a1 b : Int) : Int := ((if b < 0 then 0 else b) + 40 + a1 - 1) / a1
def fitsG (a0 a1 a2 a3 a4 : Int) : Bool := decide (16 ≤ segN a0 a2 a3) && decide (blobN a1 (a4 + 64) ≤ a3)
def chkB (a0 a1 a2 a3 a4 a5 a6 a7 a8 : Int) : Bool := plainG a0 a1 a2 a3 a4 a5 a6 a7 a8 && fitsG a0 a1 a2 a3 a4
def chkN (a0 a1 a2 a3 a4 a5 a6 a7 a8 : Int) : Int := if chkB a0 a1 a2 a3 a4 a5 a6 a7 a8 then 0 else 1

theorem tdiv_pos {a b : Int} (h : 0 ≤ a) : a.tdiv b = a / b := Int.tdiv_eq_ediv_of_nonneg h
theorem tdiv_neg' {a b : Int} (h : a ≤ 0) (hb : 0 ≤ b) : a.tdiv b ≤ 0 := by
  have h1 : 0 ≤ (-a).tdiv b := Int.tdiv_nonneg (by omega) hb
  rw [Int.neg_tdiv] at h1
  omega
/-- The program's own way to reckon how many segments there are. -/
theorem seg_neg {a0 a2 a3 : Int} (h3 : 1 ≤ a3) (h : (a0 - 2 - a2).tdiv a3 < 0) : segN a0 a2 a3 = 0 := by
  unfold segN
  by_cases hx : a0 - 2 - a2 < 0
  · rw [if_pos hx]
  · have := Int.tdiv_nonneg (a := a0 - 2 - a2) (b := a3) (by omega) (by omega)
    omega
theorem seg_pos {a0 a2 a3 : Int} (h3 : 1 ≤ a3) (h : 0 ≤ (a0 - 2 - a2).tdiv a3) : segN a0 a2 a3 = (a0 - 2 - a2).tdiv a3 := by
  unfold segN
  by_cases hx : a0 - 2 - a2 < 0
  · rw [if_pos hx]
    have := tdiv_neg' (a := a0 - 2 - a2) (b := a3) (by omega) (by omega)
    omega
  · rw [if_neg hx, tdiv_pos (by omega)]
theorem retI {x y : Int} (h : y = x) : Ending.returned (.int .i64 x) = Ending.returned (.int .i64 y) := by rw [h]
theorem retB {x y : Bool} (h : y = x) : Ending.returned (.bool x) = Ending.returned (.bool y) := by rw [h]
theorem btw_low {v lo hi : Int} (h : v < lo) : btw v lo hi = false := by
  unfold btw; rw [decide_eq_false (by omega : ¬ lo ≤ v)]; rfl
theorem btw_high {v lo hi : Int} (h : hi < v) : btw v lo hi = false := by
  unfold btw; rw [decide_eq_false (by omega : ¬ v ≤ hi), Bool.and_false]
theorem seg_low {a0 a2 a3 : Int} (h : a0 - 2 - a2 < 0) : segN a0 a2 a3 = 0 := by unfold segN; rw [if_pos h]
theorem seg_high {a0 a2 a3 : Int} (h : 0 ≤ a0 - 2 - a2) : segN a0 a2 a3 = (a0 - 2 - a2) / a3 := by unfold segN; rw [if_neg (by omega)]
theorem seg_high' {a0 a2 a3 : Int} (h : 0 ≤ a0 - 2 - a2) : segN a0 a2 a3 = (a0 - 2 - a2).tdiv a3 := by rw [seg_high h, tdiv_pos h]
theorem blob_low {s b : Int} (h : b < 0) : blobN s b = (40 + s - 1) / s := by unfold blobN; rw [if_pos h, Int.zero_add]
theorem blob_high {s b : Int} (h : 0 ≤ b) : blobN s b = (b + 40 + s - 1) / s := by unfold blobN; rw [if_neg (by omega)]
theorem segN_nonneg (a0 a2 a3 : Int) (h3 : 1 ≤ a3) : 0 ≤ segN a0 a2 a3 := by
  unfold segN; split
  · omega
  · exact Int.ediv_nonneg (by omega) (by omega)
theorem segN_le (a0 a2 a3 : Int) (h : 0 ≤ a0) (h2 : 0 ≤ a2) : segN a0 a2 a3 ≤ a0 := by
  unfold segN; split
  · omega
  · have := Int.ediv_le_self (a := a0 - 2 - a2) a3 (by omega)
    omega
/-- The program's own way to reckon a blob. -/
theorem blob_go (s b : Int) (hs : 1 ≤ s) : b / s + (b % s + 40 + s - 1) / s = (b + 40 + s - 1) / s := by
  have h := Int.emod_add_mul_ediv b s
  have e : b + 40 + s - 1 = (b % s + 40 + s - 1) + s * (b / s) := by omega
  rw [e, Int.add_mul_ediv_left _ _ (by omega)]
  omega
theorem blobN_bounds (s b : Int) (hs : 1 ≤ s) : 1 ≤ blobN s b ∧ blobN s b ≤ (if b < 0 then 0 else b) + 40 := by
  unfold blobN
  generalize hc : (if b < 0 then 0 else b) = c
  have hc0 : 0 ≤ c := by subst hc; split <;> omega
  constructor
  · exact (Int.le_ediv_iff_mul_le (by omega)).2 (by omega)
  · refine Int.lt_add_one_iff.1 ((Int.ediv_lt_iff_lt_mul (by omega)).2 ?_)
    have : 0 ≤ (c + 40) * (s - 1) := Int.mul_nonneg (by omega) (by omega)
    have e : (c + 40 + 1) * s = (c + 40) * (s - 1) + (c + 40) + s := by
      rw [Int.mul_sub, Int.add_mul, Int.add_mul]; omega
    omega
section
variable {a0 a1 a2 a3 a4 a5 a6 a7 a8 : Int}
theorem chk_tall (h : a3 < blobN a1 (a4 + 64)) : chkN a0 a1 a2 a3 a4 a5 a6 a7 a8 = 1 := by
  unfold chkN chkB fitsG
  rw [decide_eq_false (by omega : ¬ blobN a1 (a4 + 64) ≤ a3), Bool.and_false, Bool.and_false]
  rfl
theorem chk_few (h : segN a0 a2 a3 < 16) : chkN a0 a1 a2 a3 a4 a5 a6 a7 a8 = 1 := by
  unfold chkN chkB fitsG
  rw [decide_eq_false (by omega : ¬ 16 ≤ segN a0 a2 a3), Bool.false_and, Bool.and_false]
  rfl
theorem chk_odd (h : plainG a0 a1 a2 a3 a4 a5 a6 a7 a8 = false) : chkN a0 a1 a2 a3 a4 a5 a6 a7 a8 = 1 := by
  unfold chkN chkB
  rw [h, Bool.false_and]
  rfl
theorem plain_all (h0 : btw a0 1 65536 = true) (h1 : btw a1 64 4096 = true) (h4 : btw a4 16 4096 = true) (h2 : btw a2 4 4096 = true) (h3 : btw a3 2 4096 = true) (h5 : btw a5 4 4096 = true) (h6 : btw a6 1 64 = true) (h7 : btw a7 1 32 = true) (h8 : btw a8 1 65536 = true) : plainG a0 a1 a2 a3 a4 a5 a6 a7 a8 = true := by
  unfold plainG
  rw [h0, h1, h2, h3, h4, h5, h6, h7, h8]
  rfl
theorem of_plain (h : plainG a0 a1 a2 a3 a4 a5 a6 a7 a8 = true) : btw a0 1 65536 = true ∧ btw a1 64 4096 = true ∧ btw a4 16 4096 = true ∧ btw a2 4 4096 = true ∧ btw a3 2 4096 = true ∧ btw a5 4 4096 = true ∧ btw a6 1 64 = true ∧ btw a7 1 32 = true ∧ btw a8 1 65536 = true := by
  unfold plainG at h
  simp only [Bool.and_eq_true] at h
  obtain ⟨⟨⟨⟨⟨⟨⟨⟨x0, x1⟩, x2⟩, x3⟩, x4⟩, x5⟩, x6⟩, x7⟩, x8⟩ := h
  exact ⟨x0, x1, x2, x3, x4, x5, x6, x7, x8⟩
theorem chk_ok (h0 : btw a0 1 65536 = true) (h1 : btw a1 64 4096 = true) (h4 : btw a4 16 4096 = true) (h2 : btw a2 4 4096 = true) (h3 : btw a3 2 4096 = true) (h5 : btw a5 4 4096 = true) (h6 : btw a6 1 64 = true) (h7 : btw a7 1 32 = true) (h8 : btw a8 1 65536 = true) (hs : 16 ≤ segN a0 a2 a3) (h : blobN a1 (a4 + 64) ≤ a3) : chkN a0 a1 a2 a3 a4 a5 a6 a7 a8 = 0 := by
  unfold chkN chkB fitsG
  rw [plain_all h0 h1 h4 h2 h3 h5 h6 h7 h8, decide_eq_true hs, decide_eq_true h]
  rfl
end
theorem wrap_id {x : Int} (h1 : -9223372036854775808 ≤ x) (h2 : x ≤ 9223372036854775807) : wrap64 x = x := by unfold wrap64; omega
theorem blob_low_go {s b : Int} (hs : 1 ≤ s) (h : b < 0) : blobN s b = wrap64 ((40 + s - 1) / s) := by
  have hb := blobN_bounds s b hs
  rw [← blob_low h, wrap_id (by omega)]
  rw [if_pos h] at hb
  omega
theorem blob_high_go {s b : Int} (hs : 1 ≤ s) (hs2 : s ≤ 4096) (h : 0 ≤ b) (hm : b ≤ 1099511627776) : blobN s b = wrap64 (b / s + wrap64 ((wrap64 (wrap64 (wrap64 (b % s + 40) + s) - 1)).tdiv s)) := by
  have hm1 := Int.emod_nonneg b (b := s) (by omega)
  have hm2 := Int.emod_lt_of_pos b (b := s) (by omega)
  have hq1 : 0 ≤ b / s := Int.ediv_nonneg h (by omega)
  have hq2 : 0 ≤ (b % s + 40 + s - 1) / s := Int.ediv_nonneg (by omega) (by omega)
  have hb := blobN_bounds s b hs
  have hg := blob_go s b hs
  rw [← blob_high h] at hg
  rw [if_neg (by omega)] at hb
  rw [wrap_id (x := b % s + 40) (by omega) (by omega), wrap_id (x := b % s + 40 + s) (by omega) (by omega), wrap_id (x := b % s + 40 + s - 1) (by omega) (by omega), tdiv_pos (by omega), wrap_id (x := (b % s + 40 + s - 1) / s) (by omega) (by omega), hg, wrap_id (by omega) (by omega)]
theorem cells9 {w : World} {b T : Nat} {x0 x1 x2 x3 x4 x5 x6 x7 x8 : Value} (h : w.heap[b]? = some (.cells #[x0, x1, x2, x3, x4, x5, x6, x7, x8] T)) : w.cell? ⟨b, 0, none⟩ = some x0 ∧ w.cell? ⟨b, 1, none⟩ = some x1 ∧ w.cell? ⟨b, 2, none⟩ = some x2 ∧ w.cell? ⟨b, 3, none⟩ = some x3 ∧ w.cell? ⟨b, 4, none⟩ = some x4 ∧ w.cell? ⟨b, 5, none⟩ = some x5 ∧ w.cell? ⟨b, 6, none⟩ = some x6 ∧ w.cell? ⟨b, 7, none⟩ = some x7 ∧ w.cell? ⟨b, 8, none⟩ = some x8 := by
  refine ⟨?_, ?_, ?_, ?_, ?_, ?_, ?_, ?_, ?_⟩ <;> simp [World.cell?, h]
end Go.Proofs.Ythpmjapohkdamaa
