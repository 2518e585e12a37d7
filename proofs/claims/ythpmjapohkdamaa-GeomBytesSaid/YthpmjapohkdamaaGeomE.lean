/- The contracts of Segment where the shape may be; traces for Of, K, Holds. -/
import Derived.Test.YthpmjapohkdamaaGeomD
namespace Go.Proofs.Ythpmjapohkdamaa
open Go.RowKit
theorem of_chk {a0 a1 a2 a3 a4 a5 a6 a7 a8 : Int} (h : chkB a0 a1 a2 a3 a4 a5 a6 a7 a8 = true) : (1 ≤ a0 ∧ a0 ≤ 65536) ∧ (64 ≤ a1 ∧ a1 ≤ 4096) ∧ (4 ≤ a2 ∧ a2 ≤ 4096) ∧ (2 ≤ a3 ∧ a3 ≤ 4096) ∧ (16 ≤ a4 ∧ a4 ≤ 4096) ∧ 16 ≤ segN a0 a2 a3 ∧ blobN a1 (a4 + 64) ≤ a3 ∧ chkN a0 a1 a2 a3 a4 a5 a6 a7 a8 = 0 := by
  have hc : chkN a0 a1 a2 a3 a4 a5 a6 a7 a8 = 0 := by unfold chkN; rw [h]; rfl
  unfold chkB at h
  rw [Bool.and_eq_true] at h
  obtain ⟨h0, h1, h4, h2, h3, _⟩ := of_plain h.1
  have hf := h.2
  unfold fitsG at hf
  rw [Bool.and_eq_true] at hf
  exact ⟨btw_true h0, btw_true h1, btw_true h2, btw_true h3, btw_true h4, of_decide_eq_true hf.1, of_decide_eq_true hf.2, hc⟩
theorem mul_room {k a3 n : Int} (h0 : 0 ≤ k) (h1 : k < n) (h2 : n ≤ 65536) (h3 : 0 ≤ a3) (h4 : a3 ≤ 4096) : 0 ≤ k * a3 ∧ k * a3 ≤ 268435456 := by
  refine ⟨Int.mul_nonneg h0 h3, ?_⟩
  have := Int.mul_le_mul (show k ≤ 65536 by omega) h4 h3 (by omega)
  omega
set_option maxHeartbeats 1000000 in
theorem segment_ok (a0 a1 a2 a3 a4 a5 a6 a7 a8 k : Int) (w : World) (hp : chkB a0 a1 a2 a3 a4 a5 a6 a7 a8 = true) (hk0 : 0 ≤ k) (hk1 : k < segN a0 a2 a3) :
    Calls Try.prog 11 #[.agg #[.int .i64 a0, .int .i64 a1, .int .i64 a2, .int .i64 a3, .int .i64 a4, .int .i64 a5, .int .i64 a6, .int .i64 a7, .int .i64 a8], .int .i64 k] w fun e w' => e = .returned (.tuple #[.int .i64 (2 + a2 + k * a3), .int .i64 a3, .int .i64 0]) ∧ Below w.heap.size w w' := by
  obtain ⟨b0, b1, b2, b3, b4, hs, hb4, hc⟩ := of_chk hp
  have hm := mul_room hk0 hk1 (Int.le_trans (segN_le a0 a2 a3 (by omega) (by omega)) b0.2) (by omega) b3.2
  clear hb4 b4 b1
  go_enter Try.func11, Try.ntmps11
  go_wp2_with (first | (go_at_call 8; refine (check_any _ _ _ _ _ _ _ _ _ _).mono ?_; rintro e w1 ⟨rfl, hb⟩; have hB := ((Below.refl w.heap.size w).alloc (Nat.le_refl _) (.cells #[.int .i64 a0, .int .i64 a1, .int .i64 a2, .int .i64 a3, .int .i64 a4, .int .i64 a5, .int .i64 a6, .int .i64 a7, .int .i64 a8] 23)).trans (hb.mono (by simp)); obtain ⟨c0, c1, c2, c3, c4, c5, c6, c7, c8⟩ := cells9 ((hb.block w.heap.size (by simp)).trans (heap_alloc_new w _))) | (go_at_call 9; refine (segments_any _ _ _ _ _ _ _ _ _ _ b0 b2 b3).mono ?_; rintro e w2 ⟨rfl, hb2⟩; have hB2 := hB.trans (hb2.mono hB.size); obtain ⟨d0, d1, d2, d3, d4, d5, d6, d7, d8⟩ := cells9 ((hb2.block w.heap.size (Nat.lt_of_lt_of_le (by simp) hb.size)).trans ((hb.block w.heap.size (by simp)).trans (heap_alloc_new w _)))))
  go_region
  go_wp2
  go_ret3
  exact ⟨rfl, hB2.drew⟩
set_option maxHeartbeats 1000000 in
theorem refsegment_ok (a0 a1 a2 a3 a4 a5 a6 a7 a8 k : Int) (w : World) (hp : chkB a0 a1 a2 a3 a4 a5 a6 a7 a8 = true) (hk0 : 0 ≤ k) (hk1 : k < segN a0 a2 a3) :
    Calls Try.prog 12 #[.agg #[.int .i64 a0, .int .i64 a1, .int .i64 a2, .int .i64 a3, .int .i64 a4, .int .i64 a5, .int .i64 a6, .int .i64 a7, .int .i64 a8], .int .i64 k] w fun e w' => e = .returned (.tuple #[.int .i64 (2 + a2 + k * a3), .int .i64 a3, .int .i64 0]) ∧ Below w.heap.size w w' := by
  obtain ⟨b0, b1, b2, b3, b4, hs, hb4, hc⟩ := of_chk hp
  have hm := mul_room hk0 hk1 (Int.le_trans (segN_le a0 a2 a3 (by omega) (by omega)) b0.2) (by omega) b3.2
  clear hb4 b4 b1
  go_enter Try.func12, Try.ntmps12
  go_wp2_with (first | (go_at_call 13; refine (refcheck_any _ _ _ _ _ _ _ _ _ _).mono ?_; rintro e w1 ⟨rfl, hb⟩; have hB := ((Below.refl w.heap.size w).alloc (Nat.le_refl _) (.cells #[.int .i64 a0, .int .i64 a1, .int .i64 a2, .int .i64 a3, .int .i64 a4, .int .i64 a5, .int .i64 a6, .int .i64 a7, .int .i64 a8] 23)).trans (hb.mono (by simp)); obtain ⟨c0, c1, c2, c3, c4, c5, c6, c7, c8⟩ := cells9 ((hb.block w.heap.size (by simp)).trans (heap_alloc_new w _))) | (go_at_call 28; refine (refsegs_any _ _ _ _ _ _ _ _ _ _ b0 b2 b3).mono ?_; rintro e w2 ⟨rfl, hb2⟩; have hB2 := hB.trans (hb2.mono hB.size); obtain ⟨d0, d1, d2, d3, d4, d5, d6, d7, d8⟩ := cells9 ((hb2.block w.heap.size (Nat.lt_of_lt_of_le (by simp) hb.size)).trans ((hb.block w.heap.size (by simp)).trans (heap_alloc_new w _)))))
  go_region
  go_wp2
  go_ret3
  exact ⟨rfl, hB2.drew⟩
end Go.Proofs.Ythpmjapohkdamaa
