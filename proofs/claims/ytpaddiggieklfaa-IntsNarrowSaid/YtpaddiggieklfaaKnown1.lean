/- almanaclaw1.known answers true. -/
import Derived.Test.YtpaddiggieklfaaUp
import Derived.Test.YtpaddiggieklfaaField
import Derived.Test.YtpaddiggieklfaaVar
import Derived.Test.YtpaddiggieklfaaSigns
namespace Go.Proofs.Ytpaddiggieklfaa
open Go.RowKit

theorem known1 (w : World) : Calls Try.prog 10 #[] w fun e w' => e = .returned (.bool true) ∧ Below w.heap.size w w' := by
  have su : Try.prog.underlying 9 = some .string := Try.underlying9
  have s8 : Try.prog.underlying 5 = some (.int .u8) := Try.underlying5
  have hrd : RdAt .u8 (w.alloc (.cells #[.int .u8 15, .int .u8 240] 5)) (some ⟨w.heap.size, 0, none⟩) 2 2 [15, 240] :=
    ⟨rfl, by omega, by unfold maxLen; omega, fun i hi => ⟨_, _, rfl, by
      rcases (by omega : i = 0 ∨ i = 1) with rfl | rfl <;> simp [nth]⟩, by decide, fun h => by cases h⟩
  have q1 : upVal 5 4 = 8 := by decide
  have q2 : upOk 5 4 = true := by decide
  have q3 : fieldV [15, 240] 2 4 8 = 0 := by decide
  have q4 : fieldOk 2 4 8 = true := by decide
  have q5 : zigI (-1) = 1 := by decide
  have q6 : logF 64 5 = 3 := by decide
  have q7 : [] ++ varF 9 300 = [172, 2] := by decide
  have q8 : (strOfNums [172, 2]).toList = [172, 2] := by decide +kernel
  have Q7 := Lib.hid q7
  clear q7
  go_enter Try.func10, Try.ntmps10
  go_wp2_with (first | (go_at_call 12; refine (up_any _ _ _ (by omega) (by omega)).mono ?_; rintro e w' ⟨rfl, rfl⟩) | (go_at_call 11; refine (field_any _ _ _ _ _ _ _ hrd (by omega) (by omega) (by omega) (by omega) (by omega)).mono ?_; rintro e w' ⟨rfl, rfl⟩) | (go_at_call 19; refine (zig_any _ _ (by omega) (by omega)).mono ?_; rintro e w' ⟨rfl, rfl⟩) | (go_at_call 29; refine (var_any _ _ _ _ _ _ (RdAt.nil _ _) (by omega) (by omega) (by omega)).mono ?_; rintro e w1 ⟨r, rfl, ho, hb⟩; rw [Q7.out] at ho; obtain ⟨ra, rc, rfl⟩ := ho.shapeN 2 rfl; have hcv := conv_rd u8T s8 su ho.rd) | (go_at_call 23; refine (log_any _ _ (by omega) (by omega)).mono ?_; rintro e w' ⟨rfl, rfl⟩))
  go_ret
  exact ⟨rfl, ((Below.refl _ w).alloc (Nat.le_refl _) _).trans (hb.mono (by simp))⟩
end Go.Proofs.Ytpaddiggieklfaa
