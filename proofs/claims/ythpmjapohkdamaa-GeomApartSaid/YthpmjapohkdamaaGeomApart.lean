/- GeomApart: the walk where the shape may not be, and all cases as the arguments come. -/
import Derived.Test.YthpmjapohkdamaaApart
import Derived.Test.YthpmjapohkdamaaApartZ
import Derived.Test.YthpmjapohkdamaaApartN
import Derived.OpenShut
namespace Go.Proofs.Ythpmjapohkdamaa
open Go.RowKit
theorem apart_no (a0 a1 a2 a3 a4 a5 a6 a7 a8 k s : Int) (w : World) (hp : chkB a0 a1 a2 a3 a4 a5 a6 a7 a8 = false) :
    Calls Try.prog 5 #[.agg #[.int .i64 a0, .int .i64 a1, .int .i64 a2, .int .i64 a3, .int .i64 a4, .int .i64 a5, .int .i64 a6, .int .i64 a7, .int .i64 a8], .int .i64 k, .int .i64 s] w fun e w' => e = .returned (.bool true) ∧ Below w.heap.size w w' := by
  have hc : chkN a0 a1 a2 a3 a4 a5 a6 a7 a8 = 1 := by unfold chkN; rw [hp]; rfl
  go_enter Try.func5, Try.ntmps5
  go_wp2_with (first | (go_at_call 7; refine (known6 _).mono ?_; rintro e w1 ⟨rfl, hb1⟩; have hh := kept_row (heap_alloc_new w _) hb1; have hB := ((Below.refl w.heap.size w).alloc (Nat.le_refl _) (.cells #[.int .i64 a0, .int .i64 a1, .int .i64 a2, .int .i64 a3, .int .i64 a4, .int .i64 a5, .int .i64 a6, .int .i64 a7, .int .i64 a8] 23)).trans (hb1.mono (by simp)); obtain ⟨c0, c1, c2, c3, c4, c5, c6, c7, c8⟩ := cells9 hh) | (go_at_call 8; refine (check_any _ _ _ _ _ _ _ _ _ _).mono ?_; rintro e w2 ⟨rfl, hb2⟩; replace hh := kept_row hh hb2; replace hB := hB.trans (hb2.mono hB.size); clear c0 c1 c2 c3 c4 c5 c6 c7 c8; obtain ⟨c0, c1, c2, c3, c4, c5, c6, c7, c8⟩ := cells9 hh) | (go_at_call 10; refine (k_no _ _ _ _ _ _ _ _ _ _ hp).mono ?_; rintro e w7 ⟨rfl, hb7⟩; replace hB := hB.trans (hb7.mono hB.size)))
  go_ret
  exact ⟨rfl, hB⟩
theorem apart_said (a0 a1 a2 a3 a4 a5 a6 a7 a8 k s : Int) (w : World) (_ : (Lit.int .i64 k).wf = true) (hs : (Lit.int .i64 s).wf = true) :
    Calls Try.prog 5 #[.agg #[.int .i64 a0, .int .i64 a1, .int .i64 a2, .int .i64 a3, .int .i64 a4, .int .i64 a5, .int .i64 a6, .int .i64 a7, .int .i64 a8], .int .i64 k, .int .i64 s] w fun e w' => e = .returned (.bool true) ∧ Below w.heap.size w w' := by
  have h := bounds_i64 hs
  cases hp : chkB a0 a1 a2 a3 a4 a5 a6 a7 a8 with
  | false => exact apart_no a0 a1 a2 a3 a4 a5 a6 a7 a8 k s w hp
  | true =>
    obtain ⟨b0, b1, b2, b3, b4, hs16, hb4, hc⟩ := of_chk hp
    have hpos : 0 < segN a0 a2 a3 := by omega
    have hlt := Int.tmod_lt_of_pos k hpos
    by_cases h0 : 0 < k.tmod (segN a0 a2 a3)
    · exact apart_up a0 a1 a2 a3 a4 a5 a6 a7 a8 k s w hp _ rfl h0 (by omega) (by omega)
    · by_cases h1 : 0 ≤ k.tmod (segN a0 a2 a3)
      · exact apart_zero a0 a1 a2 a3 a4 a5 a6 a7 a8 k s w hp _ rfl h1 (by omega) (by omega) (by omega)
      · have hgt : -segN a0 a2 a3 < k.tmod (segN a0 a2 a3) := Int.lt_tmod_of_pos k hpos
        exact apart_down a0 a1 a2 a3 a4 a5 a6 a7 a8 k s w hp _ _ rfl (by omega) rfl (by omega) (by omega) (by omega)
end Go.Proofs.Ythpmjapohkdamaa
