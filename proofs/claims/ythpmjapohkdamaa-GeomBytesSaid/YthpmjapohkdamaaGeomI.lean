/- K where the shape may not be, and the chapter's example. -/
import Derived.Test.YthpmjapohkdamaaGeomH
namespace Go.Proofs.Ythpmjapohkdamaa
open Go.RowKit
theorem kept_row {w w' : World} {b : Nat} {o : Obj} (h : w.heap[b]? = some o) (hb : Below w.heap.size w w') : w'.heap[b]? = some o :=
  (hb.block b (Array.getElem?_eq_some_iff.1 h).1).trans h
theorem k_no (a0 a1 a2 a3 a4 a5 a6 a7 a8 : Int) (w : World) (hp : chkB a0 a1 a2 a3 a4 a5 a6 a7 a8 = false) :
    Calls Try.prog 10 #[.agg #[.int .i64 a0, .int .i64 a1, .int .i64 a2, .int .i64 a3, .int .i64 a4, .int .i64 a5, .int .i64 a6, .int .i64 a7, .int .i64 a8]] w fun e w' => e = .returned (.int .i64 0) ∧ Below w.heap.size w w' := by
  have hc : chkN a0 a1 a2 a3 a4 a5 a6 a7 a8 = 1 := by unfold chkN; rw [hp]; rfl
  go_enter Try.func10, Try.ntmps10
  go_wp2_with (go_at_call 8; refine (check_any _ _ _ _ _ _ _ _ _ _).mono ?_; rintro e w1 ⟨rfl, hb⟩)
  go_ret
  exact ⟨rfl, ((Below.refl _ _).alloc (Nat.le_refl _) _).trans (hb.mono (by simp))⟩
theorem refk_no (a0 a1 a2 a3 a4 a5 a6 a7 a8 : Int) (w : World) (hp : chkB a0 a1 a2 a3 a4 a5 a6 a7 a8 = false) :
    Calls Try.prog 14 #[.agg #[.int .i64 a0, .int .i64 a1, .int .i64 a2, .int .i64 a3, .int .i64 a4, .int .i64 a5, .int .i64 a6, .int .i64 a7, .int .i64 a8]] w fun e w' => e = .returned (.int .i64 0) ∧ Below w.heap.size w w' := by
  have hc : chkN a0 a1 a2 a3 a4 a5 a6 a7 a8 = 1 := by unfold chkN; rw [hp]; rfl
  go_enter Try.func14, Try.ntmps14
  go_wp2_with (go_at_call 13; refine (refcheck_any _ _ _ _ _ _ _ _ _ _).mono ?_; rintro e w1 ⟨rfl, hb⟩)
  go_ret
  exact ⟨rfl, ((Below.refl _ _).alloc (Nat.le_refl _) _).trans (hb.mono (by simp))⟩
theorem kn_chkB : chkB 1000 512 8 30 512 8 4 4 100 = true := by decide
theorem kn_chk : chkN 1000 512 8 30 512 8 4 4 100 = 0 := by decide
theorem kn_seg : segN 1000 8 30 = 33 := by decide
theorem kn_blob : blobN 512 576 = 2 := by decide
theorem kn_k : kN 1000 512 8 30 512 = 15 := by decide
set_option maxHeartbeats 1000000 in
theorem known6 (w : World) : Calls Try.prog 7 #[] w fun e w' => e = .returned (.bool true) ∧ Below w.heap.size w w' := by
  have q0 := kn_chk
  have q1 := kn_seg
  have q2 := kn_blob
  have q3 := kn_k
  go_enter Try.func7, Try.ntmps7
  go_wp2_with (first
    | (go_at_call 8; refine (check_any _ _ _ _ _ _ _ _ _ _).mono ?_; rintro e w1 ⟨rfl, hb1⟩; have hh := kept_row (heap_alloc_new w _) hb1; have hB := ((Below.refl w.heap.size w).alloc (Nat.le_refl _) (.cells #[.int .i64 1000, .int .i64 512, .int .i64 8, .int .i64 30, .int .i64 512, .int .i64 8, .int .i64 4, .int .i64 4, .int .i64 100] 23)).trans (hb1.mono (by simp)); obtain ⟨c0, c1, c2, c3, c4, c5, c6, c7, c8⟩ := cells9 hh)
    | (go_at_call 9; refine (segments_any _ _ _ _ _ _ _ _ _ _ (by omega) (by omega) (by omega)).mono ?_; rintro e w2 ⟨rfl, hb2⟩; replace hh := kept_row hh hb2; replace hB := hB.trans (hb2.mono hB.size); clear c0 c1 c2 c3 c4 c5 c6 c7 c8; obtain ⟨c0, c1, c2, c3, c4, c5, c6, c7, c8⟩ := cells9 hh)
    | (go_at_call 20; refine (blob_any _ _ _ _ _ _ _ _ _ _ _ (by omega) (by omega)).mono ?_; rintro e w3 ⟨rfl, hb3⟩; replace hh := kept_row hh hb3; replace hB := hB.trans (hb3.mono hB.size); clear c0 c1 c2 c3 c4 c5 c6 c7 c8; obtain ⟨c0, c1, c2, c3, c4, c5, c6, c7, c8⟩ := cells9 hh)
    | (go_at_call 10; refine (k_any _ _ _ _ _ _ _ _ _ _ kn_chkB).mono ?_; rintro e w4 ⟨rfl, hb4⟩; replace hB := hB.trans (hb4.mono hB.size)))
  go_ret
  exact ⟨rfl, hB⟩
end Go.Proofs.Ythpmjapohkdamaa
