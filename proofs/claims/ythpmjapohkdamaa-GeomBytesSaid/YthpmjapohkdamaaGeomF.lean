/- The contracts of Segment where no segment has the number. -/
import Derived.Test.YthpmjapohkdamaaGeomE
namespace Go.Proofs.Ythpmjapohkdamaa
open Go.RowKit
set_option maxHeartbeats 1000000 in
theorem segment_off (a0 a1 a2 a3 a4 a5 a6 a7 a8 k : Int) (w : World) (hp : chkB a0 a1 a2 a3 a4 a5 a6 a7 a8 = true) (hk : k < 0 ∨ segN a0 a2 a3 ≤ k) :
    Calls Try.prog 11 #[.agg #[.int .i64 a0, .int .i64 a1, .int .i64 a2, .int .i64 a3, .int .i64 a4, .int .i64 a5, .int .i64 a6, .int .i64 a7, .int .i64 a8], .int .i64 k] w fun e w' => e = .returned (.tuple #[.int .i64 0, .int .i64 0, .int .i64 1]) ∧ Below w.heap.size w w' := by
  obtain ⟨b0, b1, b2, b3, b4, hs, hb4, hc⟩ := of_chk hp
  clear hb4 b4 b1
  by_cases hk0 : k < 0
  all_goals
    go_enter Try.func11, Try.ntmps11
    go_wp2_with (first | (go_at_call 8; refine (check_any _ _ _ _ _ _ _ _ _ _).mono ?_; rintro e w1 ⟨rfl, hb⟩; have hB := ((Below.refl w.heap.size w).alloc (Nat.le_refl _) (.cells #[.int .i64 a0, .int .i64 a1, .int .i64 a2, .int .i64 a3, .int .i64 a4, .int .i64 a5, .int .i64 a6, .int .i64 a7, .int .i64 a8] 23)).trans (hb.mono (by simp)); obtain ⟨c0, c1, c2, c3, c4, c5, c6, c7, c8⟩ := cells9 ((hb.block w.heap.size (by simp)).trans (heap_alloc_new w _))) | (go_at_call 9; refine (segments_any _ _ _ _ _ _ _ _ _ _ b0 b2 b3).mono ?_; rintro e w2 ⟨rfl, hb2⟩; have hB := hB.trans (hb2.mono hB.size)))
    go_ret3
    exact ⟨rfl, hB⟩
set_option maxHeartbeats 1000000 in
theorem refsegment_off (a0 a1 a2 a3 a4 a5 a6 a7 a8 k : Int) (w : World) (hp : chkB a0 a1 a2 a3 a4 a5 a6 a7 a8 = true) (hk : k < 0 ∨ segN a0 a2 a3 ≤ k) :
    Calls Try.prog 12 #[.agg #[.int .i64 a0, .int .i64 a1, .int .i64 a2, .int .i64 a3, .int .i64 a4, .int .i64 a5, .int .i64 a6, .int .i64 a7, .int .i64 a8], .int .i64 k] w fun e w' => e = .returned (.tuple #[.int .i64 0, .int .i64 0, .int .i64 1]) ∧ Below w.heap.size w w' := by
  obtain ⟨b0, b1, b2, b3, b4, hs, hb4, hc⟩ := of_chk hp
  clear hb4 b4 b1
  by_cases hk0 : k < 0
  all_goals
    go_enter Try.func12, Try.ntmps12
    go_wp2_with (first | (go_at_call 13; refine (refcheck_any _ _ _ _ _ _ _ _ _ _).mono ?_; rintro e w1 ⟨rfl, hb⟩; have hB := ((Below.refl w.heap.size w).alloc (Nat.le_refl _) (.cells #[.int .i64 a0, .int .i64 a1, .int .i64 a2, .int .i64 a3, .int .i64 a4, .int .i64 a5, .int .i64 a6, .int .i64 a7, .int .i64 a8] 23)).trans (hb.mono (by simp)); obtain ⟨c0, c1, c2, c3, c4, c5, c6, c7, c8⟩ := cells9 ((hb.block w.heap.size (by simp)).trans (heap_alloc_new w _))) | (go_at_call 28; refine (refsegs_any _ _ _ _ _ _ _ _ _ _ b0 b2 b3).mono ?_; rintro e w2 ⟨rfl, hb2⟩; have hB := hB.trans (hb2.mono hB.size)))
    go_ret3
    exact ⟨rfl, hB⟩
end Go.Proofs.Ythpmjapohkdamaa
