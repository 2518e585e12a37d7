/- More sectors, no fewer segments: the plain law behind GeomGrows. No program in sight. -/
import Derived.Test.YthpmjapohkdamaaApartLaw
namespace Go.Proofs.Ythpmjapohkdamaa
open Go.RowKit
section
variable {a0 a1 a2 a3 a4 a5 a6 a7 a8 m : Int}
theorem seg_more (h : 0 ≤ a0 - 2 - a2) (h3 : 1 ≤ a3) (hm : 0 ≤ m) : segN (a0 + m) a2 a3 = segN a0 a2 a3 + (m + (a0 - 2 - a2) % a3) / a3 := by
  rw [seg_high h, seg_high (by omega)]
  have e := Int.emod_add_mul_ediv (a0 - 2 - a2) a3
  have e2 : a0 + m - 2 - a2 = (m + (a0 - 2 - a2) % a3) + a3 * ((a0 - 2 - a2) / a3) := by omega
  rw [e2, Int.add_mul_ediv_left _ _ (by omega)]
  omega
theorem seg_room (h16 : 16 ≤ segN a0 a2 a3) : 0 ≤ a0 - 2 - a2 := by
  unfold segN at h16
  split at h16 <;> omega
theorem seg_mono (h : 0 ≤ a0 - 2 - a2) (h3 : 1 ≤ a3) (hm : 0 ≤ m) : segN a0 a2 a3 ≤ segN (a0 + m) a2 a3 := by
  rw [seg_more h h3 hm]
  have h1 := Int.emod_nonneg (a0 - 2 - a2) (b := a3) (by omega)
  have : 0 ≤ (m + (a0 - 2 - a2) % a3) / a3 := Int.ediv_nonneg (by omega) (by omega)
  omega
theorem chk_more (hp : chkB a0 a1 a2 a3 a4 a5 a6 a7 a8 = true) (hm : 0 ≤ m) (hm2 : m ≤ 65536 - a0) : chkB (a0 + m) a1 a2 a3 a4 a5 a6 a7 a8 = true := by
  obtain ⟨b0, b1, b2, b3, b4, hs, hb4, hc⟩ := of_chk hp
  have hr := seg_room hs
  have hge := seg_mono (m := m) hr (by omega : 1 ≤ a3) hm
  unfold chkB at hp ⊢
  rw [Bool.and_eq_true] at hp
  obtain ⟨x0, x1, x2, x3, x4, x5, x6, x7, x8⟩ := of_plain hp.1
  have hf := hp.2
  unfold fitsG at hf ⊢
  simp only [Bool.and_eq_true, decide_eq_true_eq] at hf
  rw [plain_all (btw_of (by omega) (by omega)) x1 x2 x3 x4 x5 x6 x7 x8, decide_eq_true (by omega : 16 ≤ segN (a0 + m) a2 a3), decide_eq_true hf.2]
  rfl
theorem k_more (hp : chkB a0 a1 a2 a3 a4 a5 a6 a7 a8 = true) (hm : 0 ≤ m) : kN a0 a1 a2 a3 a4 ≤ kN (a0 + m) a1 a2 a3 a4 := by
  obtain ⟨b0, b1, b2, b3, b4, hs, hb4, hc⟩ := of_chk hp
  have hge := seg_mono (m := m) (seg_room hs) (by omega : 1 ≤ a3) hm
  have hbl := blobN_bounds a1 (a4 + 64) (by omega)
  have hh := holds_bounds b3 hbl.1
  unfold kN
  have := Int.mul_le_mul_of_nonneg_right (show segN a0 a2 a3 - 8 ≤ segN (a0 + m) a2 a3 - 8 by omega) hh.1
  exact Int.ediv_le_ediv (by omega) this
end
end Go.Proofs.Ythpmjapohkdamaa
