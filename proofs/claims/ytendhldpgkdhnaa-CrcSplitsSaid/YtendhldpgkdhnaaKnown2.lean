/- almanaclaw2.known answers true. -/
import Derived.Test.YtendhldpgkdhnaaSum
import Derived.Test.YtendhldpgkdhnaaBytesLaw
import Derived.Lib.SlBytesConst
namespace Go.Proofs.Ytendhldpgkdhnaa
open Go.RowKit

set_option maxRecDepth 100000 in
theorem known2 (w : World) : Calls Try.prog 9 #[] w fun e w' => e = .returned (.bool true) ∧ Below w.heap.size w w' := by
  have kc := fun (w : World) (C : Array Value) (n c : Nat) => Lib.run_convert_bytes_const (P := Try.prog) w 22 5 C n c Try.underlying22 Try.underlying5
  have kc2 := fun (w : World) (O : Obj) (C : Array Value) (n c : Nat) => (show (convert 22 22 (.slice (some ⟨w.heap.size + 1, 0, none⟩) n c)).run Try.prog ((w.alloc O).alloc (.cells C 5)) = .ok (.slice (some ⟨w.heap.size + 1, 0, none⟩) n c) ((w.alloc O).alloc (.cells C 5 (C.size, C.size + 1))) by simpa using kc (w.alloc O) C n c)
  have q1 : rnum (sumB [49, 50, 51, 52, 53, 54, 55, 56, 57]) = 3808858755 := by decide +kernel
  have q2 : rnum (sumB []) = 0 := by decide +kernel
  go_enter Try.func9, Try.ntmps9
  go_wp2_with fail
  have ha := lit_rd w _ [49, 50, 51, 52, 53] 5 (5, 6) (by decide) (by decide) (Below.refl _ _)
  have hb := lit_rd (w.alloc (.cells (([49, 50, 51, 52, 53] : List Int).map (Value.int .u8)).toArray 5 (5, 6))) _ [54, 55, 56, 57] 5 (4, 5) (by decide) (by decide) (Below.refl _ _)
  have hp := PartsAt.two (ha.alloc (.cells (([54, 55, 56, 57] : List Int).map (Value.int .u8)).toArray 5 (4, 5))) hb 22
  simp only [World.size_alloc] at hp
  have hB : Below w.heap.size w (((w.alloc (.cells (([49, 50, 51, 52, 53] : List Int).map (Value.int .u8)).toArray 5 (5, 6))).alloc (.cells (([54, 55, 56, 57] : List Int).map (Value.int .u8)).toArray 5 (4, 5))).alloc (.cells #[.slice (some ⟨w.heap.size, 0, none⟩) 5 5, .slice (some ⟨w.heap.size + 1, 0, none⟩) 4 4] 22)) :=
    ((((Below.refl _ _).alloc (Nat.le_refl _) _).alloc (by simp) _).alloc (by simp; omega) _)
  refine (sum_any _ _ _ _ _ hp (by omega)).mono ?_
  rintro e w1 ⟨he, hb1⟩
  rw [show ([[49, 50, 51, 52, 53], [54, 55, 56, 57]] : List (List Int)).flatten = [49, 50, 51, 52, 53, 54, 55, 56, 57] from rfl, q1] at he
  subst he
  clear hp ha hb
  have hB1 := hB.trans (hb1.mono hB.size)
  go_wp2_with fail
  refine (sum_any _ _ _ _ _ (PartsAt.none _) (by omega)).mono ?_
  rintro e w2 ⟨he, hb2⟩
  rw [show ([] : List (List Int)).flatten = [] from rfl, q2] at he
  subst he
  go_wp2_with fail
  go_ret
  exact ⟨rfl, hB1.trans (hb2.mono hB1.size)⟩
end Go.Proofs.Ytendhldpgkdhnaa
