/- Where segments lie: the plain law behind GeomApart. No program in sight. -/
import Derived.Test.YthpmjapohkdamaaGeomG
namespace Go.Proofs.Ythpmjapohkdamaa
open Go.RowKit
theorem div_at {a3 k r : Int} (h3 : 1 ≤ a3) (h0 : 0 ≤ r) (h1 : r < a3) : (k * a3 + r) / a3 = k := by
  rw [Int.add_comm, Int.add_mul_ediv_right _ _ (by omega), Int.ediv_eq_zero_of_lt h0 h1, Int.zero_add]
theorem div_iff {a3 k x : Int} (h3 : 1 ≤ a3) (h : x / a3 = k) : k * a3 ≤ x ∧ x < k * a3 + a3 := by
  have h1 := Int.emod_add_mul_ediv x a3
  have h2 := Int.emod_nonneg x (b := a3) (by omega)
  have h4 := Int.emod_lt_of_pos x (b := a3) (by omega)
  rw [h, Int.mul_comm] at h1
  omega
section
variable {a0 a2 a3 k s : Int}
theorem of_at {r : Int} (h3 : 1 ≤ a3) (hk0 : 0 ≤ k) (hk1 : k < segN a0 a2 a3) (h0 : 0 ≤ r) (h1 : r < a3) : ofN a0 a2 a3 (2 + a2 + k * a3 + r) = k := by
  have hm : 0 ≤ k * a3 := Int.mul_nonneg hk0 (by omega)
  have e : 2 + a2 + k * a3 + r - (2 + a2) = k * a3 + r := by omega
  have hd := div_at (k := k) h3 h0 h1
  rw [of_in (by omega) (by rw [e, hd]; exact hk1), e, hd]
theorem of_before (h3 : 1 ≤ a3) (hk0 : 0 < k) (hk1 : k < segN a0 a2 a3) : ofN a0 a2 a3 (2 + a2 + k * a3 - 1) = k - 1 := by
  have h := of_at (a0 := a0) (a2 := a2) (a3 := a3) (k := k - 1) (r := a3 - 1) h3 (by omega) (by omega) (by omega) (by omega)
  rw [← h]
  congr 1
  rw [Int.sub_mul]
  omega
theorem of_is (h3 : 1 ≤ a3) (hk0 : 0 ≤ k) (hk1 : k < segN a0 a2 a3) : (ofN a0 a2 a3 s = k) ↔ (2 + a2 + k * a3 ≤ s ∧ s < 2 + a2 + k * a3 + a3) := by
  constructor
  · intro h
    unfold ofN at h
    split at h
    · omega
    · split at h
      · omega
      · have := div_iff h3 h
        omega
  · intro ⟨h4, h5⟩
    have e : s = 2 + a2 + k * a3 + (s - (2 + a2 + k * a3)) := by omega
    rw [e]
    exact of_at h3 hk0 hk1 (by omega) (by omega)
theorem seg_fits (h3 : 1 ≤ a3) (hk1 : k < segN a0 a2 a3) (hk0 : 0 ≤ k) : 2 + a2 + k * a3 + a3 ≤ a0 := by
  unfold segN at hk1
  split at hk1
  · omega
  · have h1 : (k + 1) * a3 ≤ a0 - 2 - a2 := (Int.le_ediv_iff_mul_le (by omega)).1 (by omega)
    rw [Int.add_mul] at h1
    omega
end
end Go.Proofs.Ythpmjapohkdamaa
