/- The contracts of geom's and the document's smaller functions. -/
import Derived.Test.YthpmjapohkdamaaProg
import Derived.Test.YthpmjapohkdamaaGeomLaw
import Derived.Test.YthpmjapohkdamaaFree
import Derived.Below
import Derived.WalkKit
namespace Go.Proofs.Ythpmjapohkdamaa
open Go.RowKit

theorem between_any (v lo hi : Int) (w : World) : Calls Try.prog 26 #[.int .i64 v, .int .i64 lo, .int .i64 hi] w fun e w' => e = .returned (.bool (btw v lo hi)) ∧ w = w' := by
  by_cases h1 : lo ≤ v
  · by_cases h2 : v ≤ hi
    · go_enter Try.func26, Try.ntmps26
      go_wp2
      go_ret
      exact ⟨retB (btw_of h1 h2), rfl⟩
    · go_enter Try.func26, Try.ntmps26
      go_wp2
      go_ret
      exact ⟨retB (btw_high (by omega)), rfl⟩
  · go_enter Try.func26, Try.ntmps26
    go_wp2
    go_ret
    exact ⟨retB (btw_low (by omega)), rfl⟩
theorem segments_any (a0 a1 a2 a3 a4 a5 a6 a7 a8 : Int) (w : World) (b0 : 1 ≤ a0 ∧ a0 ≤ 65536) (b2 : 4 ≤ a2 ∧ a2 ≤ 4096) (b3 : 2 ≤ a3 ∧ a3 ≤ 4096) :
    Calls Try.prog 9 #[.agg #[.int .i64 a0, .int .i64 a1, .int .i64 a2, .int .i64 a3, .int .i64 a4, .int .i64 a5, .int .i64 a6, .int .i64 a7, .int .i64 a8]] w fun e w' => e = .returned (.int .i64 (segN a0 a2 a3)) ∧ Below w.heap.size w w' := by
  go_enter Try.func9, Try.ntmps9
  go_wp2
  · go_ret
    exact ⟨retI (seg_neg (by omega) (by assumption)), (Below.refl _ _).alloc (Nat.le_refl _) _⟩
  · go_ret
    exact ⟨retI (seg_pos (by omega) (by assumption)), (Below.refl _ _).alloc (Nat.le_refl _) _⟩
theorem in_any (v lo hi : Int) (w : World) : Calls Try.prog 43 #[.int .i64 v, .int .i64 lo, .int .i64 hi] w fun e w' => e = .returned (.bool (btw v lo hi)) ∧ w = w' := by
  by_cases h1 : lo ≤ v
  · by_cases h2 : v ≤ hi
    · go_enter Try.func43, Try.ntmps43
      go_wp2
      go_ret
      exact ⟨retB (btw_of h1 h2), rfl⟩
    · go_enter Try.func43, Try.ntmps43
      go_wp2
      go_ret
      exact ⟨retB (btw_high (by omega)), rfl⟩
  · go_enter Try.func43, Try.ntmps43
    go_wp2
    go_ret
    exact ⟨retB (btw_low (by omega)), rfl⟩
theorem refsegs_any (a0 a1 a2 a3 a4 a5 a6 a7 a8 : Int) (w : World) (b0 : 1 ≤ a0 ∧ a0 ≤ 65536) (b2 : 4 ≤ a2 ∧ a2 ≤ 4096) (b3 : 2 ≤ a3 ∧ a3 ≤ 4096) :
    Calls Try.prog 28 #[.agg #[.int .i64 a0, .int .i64 a1, .int .i64 a2, .int .i64 a3, .int .i64 a4, .int .i64 a5, .int .i64 a6, .int .i64 a7, .int .i64 a8]] w fun e w' => e = .returned (.int .i64 (segN a0 a2 a3)) ∧ Below w.heap.size w w' := by
  have h0 : ¬ a3 = 0 := by omega
  by_cases hx : a0 - 2 - a2 < 0
  · go_enter Try.func28, Try.ntmps28
    go_wp2
    go_ret
    exact ⟨retI (seg_low (by omega)), (Below.refl _ _).alloc (Nat.le_refl _) _⟩
  · go_enter Try.func28, Try.ntmps28
    go_wp2
    go_ret
    exact ⟨retI (seg_high (by omega)), (Below.refl _ _).alloc (Nat.le_refl _) _⟩
theorem up_any (a b : Int) (w : World) (ha : 0 ≤ a ∧ a ≤ 2199023255552) (hb : 1 ≤ b ∧ b ≤ 4096) :
    Calls Try.prog 30 #[.int .i64 a, .int .i64 b] w fun e w' => e = .returned (.int .i64 ((a + b - 1) / b)) ∧ w = w' := by
  have h0 : ¬ b = 0 := by omega
  go_enter Try.func30, Try.ntmps30
  go_wp2
  go_ret
  exact ⟨rfl, rfl⟩
theorem refblob_any (a0 a1 a2 a3 a4 a5 a6 a7 a8 b : Int) (w : World) (b1 : 1 ≤ a1 ∧ a1 ≤ 4096) (hb : b ≤ 1099511627776) :
    Calls Try.prog 21 #[.agg #[.int .i64 a0, .int .i64 a1, .int .i64 a2, .int .i64 a3, .int .i64 a4, .int .i64 a5, .int .i64 a6, .int .i64 a7, .int .i64 a8], .int .i64 b] w fun e w' => e = .returned (.int .i64 (blobN a1 b)) ∧ Below w.heap.size w w' := by
  by_cases hx : b < 0
  · go_enter Try.func21, Try.ntmps21
    go_wp2_with (go_at_call 30; refine (up_any _ _ _ (by omega) (by omega)).mono ?_; rintro e w1 ⟨rfl, rfl⟩)
    go_ret
    exact ⟨retI (blob_low (by omega)), (Below.refl _ _).alloc (Nat.le_refl _) _⟩
  · go_enter Try.func21, Try.ntmps21
    go_wp2_with (go_at_call 30; refine (up_any _ _ _ (by omega) (by omega)).mono ?_; rintro e w1 ⟨rfl, rfl⟩)
    go_ret
    exact ⟨retI (blob_high (by omega)), (Below.refl _ _).alloc (Nat.le_refl _) _⟩
theorem blob_any (a0 a1 a2 a3 a4 a5 a6 a7 a8 b : Int) (w : World) (b1 : 1 ≤ a1 ∧ a1 ≤ 4096) (hb : b ≤ 1099511627776) :
    Calls Try.prog 20 #[.agg #[.int .i64 a0, .int .i64 a1, .int .i64 a2, .int .i64 a3, .int .i64 a4, .int .i64 a5, .int .i64 a6, .int .i64 a7, .int .i64 a8], .int .i64 b] w fun e w' => e = .returned (.int .i64 (blobN a1 b)) ∧ Below w.heap.size w w' := by
  go_enter Try.func20, Try.ntmps20
  go_wp2_with fail
  all_goals go_region
  all_goals go_wp2
  · go_ret
    exact ⟨retI (blob_low_go (by omega) (by omega)), ((Below.refl _ _).alloc (Nat.le_refl _) _).drew⟩
  · go_ret
    exact ⟨retI (blob_high_go (by omega) (by omega) (by omega) (by omega)), ((Below.refl _ _).alloc (Nat.le_refl _) _).drew⟩
end Go.Proofs.Ythpmjapohkdamaa
