/- The walk of GeomApart, where the shape may be. -/
import Derived.Test.YthpmjapohkdamaaGeomJ
import Derived.Test.YthpmjapohkdamaaApartLaw
namespace Go.Proofs.Ythpmjapohkdamaa
open Go.RowKit
set_option linter.unusedSimpArgs false in
set_option linter.unusedVariables false in
set_option maxHeartbeats 2000000 in
theorem apart_down (a0 a1 a2 a3 a4 a5 a6 a7 a8 k s : Int) (w : World) (hp : chkB a0 a1 a2 a3 a4 a5 a6 a7 a8 = true) (q : Int) (m : Int) (hq : k.tmod (segN a0 a2 a3) = m) (hm0 : m < 0) (hsum : m + segN a0 a2 a3 = q) (hk0 : 0 < q) (hs1 : s ≤ 9223372036854775807) (hs2 : -9223372036854775808 ≤ s) :
    Calls Try.prog 5 #[.agg #[.int .i64 a0, .int .i64 a1, .int .i64 a2, .int .i64 a3, .int .i64 a4, .int .i64 a5, .int .i64 a6, .int .i64 a7, .int .i64 a8], .int .i64 k, .int .i64 s] w fun e w' => e = .returned (.bool true) ∧ Below w.heap.size w w' := by
  obtain ⟨b0, b1, b2, b3, b4, hs, hb4, hc⟩ := of_chk hp
  have hk1 : q < segN a0 a2 a3 := by omega
  have hm1 : -65536 ≤ m := by have := segN_le a0 a2 a3 (by omega) (by omega); omega
  have hnz : ¬ segN a0 a2 a3 = 0 := by omega
  have hf0 : 0 ≤ q * a3 := Int.mul_nonneg (by omega) (by omega)
  have hf1 := seg_fits (a2 := a2) (by omega) hk1 (by omega)
  have ho1 : ofN a0 a2 a3 (2 + a2 + q * a3) = q := by have h := of_at (a0 := a0) (a2 := a2) (a3 := a3) (k := q) (r := 0) (by omega) (by omega) hk1 (by omega) (by omega); rwa [Int.add_zero] at h
  have ho2 : ofN a0 a2 a3 (2 + a2 + q * a3 + a3 - 1) = q := by have h := of_at (a0 := a0) (a2 := a2) (a3 := a3) (k := q) (r := a3 - 1) (by omega) (by omega) hk1 (by omega) (by omega); rwa [← Int.add_sub_assoc] at h
  have ho3 : ofN a0 a2 a3 (2 + a2 + q * a3 - 1) = q - 1 := of_before (by omega) hk0 hk1
  replace hk0 : 0 ≤ q := by omega
  have hle := segN_le a0 a2 a3 (by omega) (by omega)
  have hka : 0 ≤ kAll a0 a1 a2 a3 a4 a5 a6 a7 a8 := by
    unfold kAll
    rw [if_pos hp]
    unfold kN
    have hbl := blobN_bounds a1 (a4 + 64) (by omega)
    have hm := Int.mul_nonneg (show 0 ≤ segN a0 a2 a3 - 8 by omega) (holds_bounds b3 hbl.1).1
    omega
  have hi := of_is (s := s) (a0 := a0) (a2 := a2) (a3 := a3) (k := q) (by omega) hk0 hk1
  by_cases hin : 2 + a2 + q * a3 ≤ s ∧ s < 2 + a2 + q * a3 + a3
  · have hbq : (ofN a0 a2 a3 s == q) = true := by rw [beq_iff_eq]; exact hi.2 hin
    have hn1 := hin.1
    have hn2 := hin.2
    clear hi hin
    go_enter Try.func5, Try.ntmps5
    go_wp2_with (first | (go_at_call 7; refine (known6 _).mono ?_; rintro e w1 ⟨rfl, hb1⟩; have hh := kept_row (heap_alloc_new w _) hb1; have hB := ((Below.refl w.heap.size w).alloc (Nat.le_refl _) (.cells #[.int .i64 a0, .int .i64 a1, .int .i64 a2, .int .i64 a3, .int .i64 a4, .int .i64 a5, .int .i64 a6, .int .i64 a7, .int .i64 a8] 23)).trans (hb1.mono (by simp)); obtain ⟨c0, c1, c2, c3, c4, c5, c6, c7, c8⟩ := cells9 hh) | (go_at_call 8; refine (check_any _ _ _ _ _ _ _ _ _ _).mono ?_; rintro e w2 ⟨rfl, hb2⟩; replace hh := kept_row hh hb2; replace hB := hB.trans (hb2.mono hB.size); clear c0 c1 c2 c3 c4 c5 c6 c7 c8; obtain ⟨c0, c1, c2, c3, c4, c5, c6, c7, c8⟩ := cells9 hh) | (go_at_call 9; refine (segments_any _ _ _ _ _ _ _ _ _ _ b0 b2 b3).mono ?_; rintro e w3 ⟨rfl, hb3⟩; replace hh := kept_row hh hb3; replace hB := hB.trans (hb3.mono hB.size); clear c0 c1 c2 c3 c4 c5 c6 c7 c8; obtain ⟨c0, c1, c2, c3, c4, c5, c6, c7, c8⟩ := cells9 hh) | (go_at_call 11; refine (segment_ok _ _ _ _ _ _ _ _ _ _ _ hp hk0 hk1).mono ?_; rintro e w4 ⟨rfl, hb4⟩; replace hh := kept_row hh hb4; replace hB := hB.trans (hb4.mono hB.size); clear c0 c1 c2 c3 c4 c5 c6 c7 c8; obtain ⟨c0, c1, c2, c3, c4, c5, c6, c7, c8⟩ := cells9 hh) | (go_at_call 15; refine (journal_any _ _ _ _ _ _ _ _ _ _).mono ?_; rintro e w5 ⟨rfl, hb5⟩; replace hh := kept_row hh hb5; replace hB := hB.trans (hb5.mono hB.size); clear c0 c1 c2 c3 c4 c5 c6 c7 c8; obtain ⟨c0, c1, c2, c3, c4, c5, c6, c7, c8⟩ := cells9 hh) | (go_at_call 18; refine (of_any _ _ _ _ _ _ _ _ _ _ _ hp (by omega) (by omega)).mono ?_; rintro e w6 ⟨rfl, hb6⟩; replace hh := kept_row hh hb6; replace hB := hB.trans (hb6.mono hB.size); clear c0 c1 c2 c3 c4 c5 c6 c7 c8; obtain ⟨c0, c1, c2, c3, c4, c5, c6, c7, c8⟩ := cells9 hh) | (go_at_call 10; refine (k_all _ _ _ _ _ _ _ _ _ _).mono ?_; rintro e w7 ⟨rfl, hb7⟩; replace hh := kept_row hh hb7; replace hB := hB.trans (hb7.mono hB.size); clear c0 c1 c2 c3 c4 c5 c6 c7 c8; obtain ⟨c0, c1, c2, c3, c4, c5, c6, c7, c8⟩ := cells9 hh))
    all_goals
      go_ret
      exact ⟨rfl, hB⟩
  by_cases hx : s < 2 + a2 + q * a3
  · have hbq : (ofN a0 a2 a3 s == q) = false := by rw [beq_eq_false_iff_ne]; exact fun h => hin (hi.1 h)
    have hno : s < 2 + a2 + q * a3 := by omega
    clear hi hin
    go_enter Try.func5, Try.ntmps5
    go_wp2_with (first | (go_at_call 7; refine (known6 _).mono ?_; rintro e w1 ⟨rfl, hb1⟩; have hh := kept_row (heap_alloc_new w _) hb1; have hB := ((Below.refl w.heap.size w).alloc (Nat.le_refl _) (.cells #[.int .i64 a0, .int .i64 a1, .int .i64 a2, .int .i64 a3, .int .i64 a4, .int .i64 a5, .int .i64 a6, .int .i64 a7, .int .i64 a8] 23)).trans (hb1.mono (by simp)); obtain ⟨c0, c1, c2, c3, c4, c5, c6, c7, c8⟩ := cells9 hh) | (go_at_call 8; refine (check_any _ _ _ _ _ _ _ _ _ _).mono ?_; rintro e w2 ⟨rfl, hb2⟩; replace hh := kept_row hh hb2; replace hB := hB.trans (hb2.mono hB.size); clear c0 c1 c2 c3 c4 c5 c6 c7 c8; obtain ⟨c0, c1, c2, c3, c4, c5, c6, c7, c8⟩ := cells9 hh) | (go_at_call 9; refine (segments_any _ _ _ _ _ _ _ _ _ _ b0 b2 b3).mono ?_; rintro e w3 ⟨rfl, hb3⟩; replace hh := kept_row hh hb3; replace hB := hB.trans (hb3.mono hB.size); clear c0 c1 c2 c3 c4 c5 c6 c7 c8; obtain ⟨c0, c1, c2, c3, c4, c5, c6, c7, c8⟩ := cells9 hh) | (go_at_call 11; refine (segment_ok _ _ _ _ _ _ _ _ _ _ _ hp hk0 hk1).mono ?_; rintro e w4 ⟨rfl, hb4⟩; replace hh := kept_row hh hb4; replace hB := hB.trans (hb4.mono hB.size); clear c0 c1 c2 c3 c4 c5 c6 c7 c8; obtain ⟨c0, c1, c2, c3, c4, c5, c6, c7, c8⟩ := cells9 hh) | (go_at_call 15; refine (journal_any _ _ _ _ _ _ _ _ _ _).mono ?_; rintro e w5 ⟨rfl, hb5⟩; replace hh := kept_row hh hb5; replace hB := hB.trans (hb5.mono hB.size); clear c0 c1 c2 c3 c4 c5 c6 c7 c8; obtain ⟨c0, c1, c2, c3, c4, c5, c6, c7, c8⟩ := cells9 hh) | (go_at_call 18; refine (of_any _ _ _ _ _ _ _ _ _ _ _ hp (by omega) (by omega)).mono ?_; rintro e w6 ⟨rfl, hb6⟩; replace hh := kept_row hh hb6; replace hB := hB.trans (hb6.mono hB.size); clear c0 c1 c2 c3 c4 c5 c6 c7 c8; obtain ⟨c0, c1, c2, c3, c4, c5, c6, c7, c8⟩ := cells9 hh) | (go_at_call 10; refine (k_all _ _ _ _ _ _ _ _ _ _).mono ?_; rintro e w7 ⟨rfl, hb7⟩; replace hh := kept_row hh hb7; replace hB := hB.trans (hb7.mono hB.size); clear c0 c1 c2 c3 c4 c5 c6 c7 c8; obtain ⟨c0, c1, c2, c3, c4, c5, c6, c7, c8⟩ := cells9 hh))
    all_goals
      go_ret
      exact ⟨rfl, hB⟩
  · have hbq : (ofN a0 a2 a3 s == q) = false := by rw [beq_eq_false_iff_ne]; exact fun h => hin (hi.1 h)
    have hno : 2 + a2 + q * a3 + a3 ≤ s := by omega
    have hdd : decide (s < 2 + a2 + q * a3 + a3) = false := decide_eq_false (by omega)
    have hge : 2 + a2 + q * a3 ≤ s := by omega
    clear hi hin
    go_enter Try.func5, Try.ntmps5
    go_wp2_with (first | (go_at_call 7; refine (known6 _).mono ?_; rintro e w1 ⟨rfl, hb1⟩; have hh := kept_row (heap_alloc_new w _) hb1; have hB := ((Below.refl w.heap.size w).alloc (Nat.le_refl _) (.cells #[.int .i64 a0, .int .i64 a1, .int .i64 a2, .int .i64 a3, .int .i64 a4, .int .i64 a5, .int .i64 a6, .int .i64 a7, .int .i64 a8] 23)).trans (hb1.mono (by simp)); obtain ⟨c0, c1, c2, c3, c4, c5, c6, c7, c8⟩ := cells9 hh) | (go_at_call 8; refine (check_any _ _ _ _ _ _ _ _ _ _).mono ?_; rintro e w2 ⟨rfl, hb2⟩; replace hh := kept_row hh hb2; replace hB := hB.trans (hb2.mono hB.size); clear c0 c1 c2 c3 c4 c5 c6 c7 c8; obtain ⟨c0, c1, c2, c3, c4, c5, c6, c7, c8⟩ := cells9 hh) | (go_at_call 9; refine (segments_any _ _ _ _ _ _ _ _ _ _ b0 b2 b3).mono ?_; rintro e w3 ⟨rfl, hb3⟩; replace hh := kept_row hh hb3; replace hB := hB.trans (hb3.mono hB.size); clear c0 c1 c2 c3 c4 c5 c6 c7 c8; obtain ⟨c0, c1, c2, c3, c4, c5, c6, c7, c8⟩ := cells9 hh) | (go_at_call 11; refine (segment_ok _ _ _ _ _ _ _ _ _ _ _ hp hk0 hk1).mono ?_; rintro e w4 ⟨rfl, hb4⟩; replace hh := kept_row hh hb4; replace hB := hB.trans (hb4.mono hB.size); clear c0 c1 c2 c3 c4 c5 c6 c7 c8; obtain ⟨c0, c1, c2, c3, c4, c5, c6, c7, c8⟩ := cells9 hh) | (go_at_call 15; refine (journal_any _ _ _ _ _ _ _ _ _ _).mono ?_; rintro e w5 ⟨rfl, hb5⟩; replace hh := kept_row hh hb5; replace hB := hB.trans (hb5.mono hB.size); clear c0 c1 c2 c3 c4 c5 c6 c7 c8; obtain ⟨c0, c1, c2, c3, c4, c5, c6, c7, c8⟩ := cells9 hh) | (go_at_call 18; refine (of_any _ _ _ _ _ _ _ _ _ _ _ hp (by omega) (by omega)).mono ?_; rintro e w6 ⟨rfl, hb6⟩; replace hh := kept_row hh hb6; replace hB := hB.trans (hb6.mono hB.size); clear c0 c1 c2 c3 c4 c5 c6 c7 c8; obtain ⟨c0, c1, c2, c3, c4, c5, c6, c7, c8⟩ := cells9 hh) | (go_at_call 10; refine (k_all _ _ _ _ _ _ _ _ _ _).mono ?_; rintro e w7 ⟨rfl, hb7⟩; replace hh := kept_row hh hb7; replace hB := hB.trans (hb7.mono hB.size); clear c0 c1 c2 c3 c4 c5 c6 c7 c8; obtain ⟨c0, c1, c2, c3, c4, c5, c6, c7, c8⟩ := cells9 hh))
    all_goals
      go_ret
      exact ⟨rfl, hB⟩

end Go.Proofs.Ythpmjapohkdamaa
