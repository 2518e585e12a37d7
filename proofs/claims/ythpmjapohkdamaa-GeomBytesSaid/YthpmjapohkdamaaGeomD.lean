/- The contracts of Journal, Segments and Segment, the program's and the document's. -/
import Derived.Test.YthpmjapohkdamaaGeomB
import Derived.Test.YthpmjapohkdamaaGeomC
namespace Go.Proofs.Ythpmjapohkdamaa
open Go.RowKit
theorem journal_any (a0 a1 a2 a3 a4 a5 a6 a7 a8 : Int) (w : World) :
    Calls Try.prog 15 #[.agg #[.int .i64 a0, .int .i64 a1, .int .i64 a2, .int .i64 a3, .int .i64 a4, .int .i64 a5, .int .i64 a6, .int .i64 a7, .int .i64 a8]] w fun e w' => e = .returned (.tuple #[.int .i64 2, .int .i64 a2]) ∧ Below w.heap.size w w' := by
  go_enter Try.func15, Try.ntmps15
  go_wp2_with fail
  go_region
  go_wp2
  go_ret2
  exact ⟨rfl, ((Below.refl _ _).alloc (Nat.le_refl _) _).drew⟩
theorem refjournal_any (a0 a1 a2 a3 a4 a5 a6 a7 a8 : Int) (w : World) :
    Calls Try.prog 16 #[.agg #[.int .i64 a0, .int .i64 a1, .int .i64 a2, .int .i64 a3, .int .i64 a4, .int .i64 a5, .int .i64 a6, .int .i64 a7, .int .i64 a8]] w fun e w' => e = .returned (.tuple #[.int .i64 2, .int .i64 a2]) ∧ Below w.heap.size w w' := by
  go_enter Try.func16, Try.ntmps16
  go_wp2_with fail
  go_region
  go_wp2
  go_ret2
  exact ⟨rfl, ((Below.refl _ _).alloc (Nat.le_refl _) _).drew⟩
theorem refsegments_any (a0 a1 a2 a3 a4 a5 a6 a7 a8 : Int) (w : World) (b0 : 1 ≤ a0 ∧ a0 ≤ 65536) (b2 : 4 ≤ a2 ∧ a2 ≤ 4096) (b3 : 2 ≤ a3 ∧ a3 ≤ 4096) :
    Calls Try.prog 17 #[.agg #[.int .i64 a0, .int .i64 a1, .int .i64 a2, .int .i64 a3, .int .i64 a4, .int .i64 a5, .int .i64 a6, .int .i64 a7, .int .i64 a8]] w fun e w' => e = .returned (.int .i64 (segN a0 a2 a3)) ∧ Below w.heap.size w w' := by
  go_enter Try.func17, Try.ntmps17
  go_wp2_with (go_at_call 28; refine (refsegs_any _ _ _ _ _ _ _ _ _ _ b0 b2 b3).mono ?_; rintro e w1 ⟨rfl, hb⟩)
  go_ret
  exact ⟨rfl, ((Below.refl _ _).alloc (Nat.le_refl _) _).trans (hb.mono (by simp))⟩
theorem segment_no (a0 a1 a2 a3 a4 a5 a6 a7 a8 k : Int) (w : World) (hp : chkB a0 a1 a2 a3 a4 a5 a6 a7 a8 = false) :
    Calls Try.prog 11 #[.agg #[.int .i64 a0, .int .i64 a1, .int .i64 a2, .int .i64 a3, .int .i64 a4, .int .i64 a5, .int .i64 a6, .int .i64 a7, .int .i64 a8], .int .i64 k] w fun e w' => e = .returned (.tuple #[.int .i64 0, .int .i64 0, .int .i64 1]) ∧ Below w.heap.size w w' := by
  have hc : chkN a0 a1 a2 a3 a4 a5 a6 a7 a8 = 1 := by unfold chkN; rw [hp]; rfl
  go_enter Try.func11, Try.ntmps11
  go_wp2_with (go_at_call 8; refine (check_any _ _ _ _ _ _ _ _ _ _).mono ?_; rintro e w1 ⟨rfl, hb⟩)
  go_ret3
  exact ⟨rfl, ((Below.refl _ _).alloc (Nat.le_refl _) _).trans (hb.mono (by simp))⟩
theorem refsegment_no (a0 a1 a2 a3 a4 a5 a6 a7 a8 k : Int) (w : World) (hp : chkB a0 a1 a2 a3 a4 a5 a6 a7 a8 = false) :
    Calls Try.prog 12 #[.agg #[.int .i64 a0, .int .i64 a1, .int .i64 a2, .int .i64 a3, .int .i64 a4, .int .i64 a5, .int .i64 a6, .int .i64 a7, .int .i64 a8], .int .i64 k] w fun e w' => e = .returned (.tuple #[.int .i64 0, .int .i64 0, .int .i64 1]) ∧ Below w.heap.size w w' := by
  have hc : chkN a0 a1 a2 a3 a4 a5 a6 a7 a8 = 1 := by unfold chkN; rw [hp]; rfl
  go_enter Try.func12, Try.ntmps12
  go_wp2_with (go_at_call 13; refine (refcheck_any _ _ _ _ _ _ _ _ _ _).mono ?_; rintro e w1 ⟨rfl, hb⟩)
  go_ret3
  exact ⟨rfl, ((Below.refl _ _).alloc (Nat.le_refl _) _).trans (hb.mono (by simp))⟩
end Go.Proofs.Ythpmjapohkdamaa
