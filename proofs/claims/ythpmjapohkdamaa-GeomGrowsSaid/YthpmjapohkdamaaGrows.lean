/- The walk of GeomGrows. -/
import Derived.Test.YthpmjapohkdamaaGeomJ
import Derived.Test.YthpmjapohkdamaaGrowsLaw
namespace Go.Proofs.Ythpmjapohkdamaa
open Go.RowKit
set_option linter.unusedSimpArgs false in
set_option linter.unusedVariables false in
set_option maxHeartbeats 2000000 in
theorem grows_no (a0 a1 a2 a3 a4 a5 a6 a7 a8 m : Int) (w : World) (hp : chkB a0 a1 a2 a3 a4 a5 a6 a7 a8 = false) :
    Calls Try.prog 3 #[.agg #[.int .i64 a0, .int .i64 a1, .int .i64 a2, .int .i64 a3, .int .i64 a4, .int .i64 a5, .int .i64 a6, .int .i64 a7, .int .i64 a8], .int .i64 m] w fun e w' => e = .returned (.bool true) ∧ Below w.heap.size w w' := by
  have hc : chkN a0 a1 a2 a3 a4 a5 a6 a7 a8 = 1 := by unfold chkN; rw [hp]; rfl
  go_enter Try.func3, Try.ntmps3
  go_wp2_with (first | (go_at_call 7; refine (known6 _).mono ?_; rintro e w1 ⟨rfl, hb1⟩; have hh := kept_row (heap_alloc_new w _) hb1; have hB := ((Below.refl w.heap.size w).alloc (Nat.le_refl _) (.cells #[.int .i64 a0, .int .i64 a1, .int .i64 a2, .int .i64 a3, .int .i64 a4, .int .i64 a5, .int .i64 a6, .int .i64 a7, .int .i64 a8] 23)).trans (hb1.mono (by simp)); obtain ⟨c0, c1, c2, c3, c4, c5, c6, c7, c8⟩ := cells9 hh) | (go_at_call 8; refine (check_any _ _ _ _ _ _ _ _ _ _).mono ?_; rintro e w2 ⟨rfl, hb2⟩; replace hh := kept_row hh hb2; replace hB := hB.trans (hb2.mono hB.size); clear c0 c1 c2 c3 c4 c5 c6 c7 c8; obtain ⟨c0, c1, c2, c3, c4, c5, c6, c7, c8⟩ := cells9 hh; have hlt := (Array.getElem?_eq_some_iff.1 hh).1))
  go_ret
  exact ⟨rfl, hB⟩

set_option linter.unusedSimpArgs false in
set_option linter.unusedVariables false in
set_option maxHeartbeats 2000000 in
theorem grows_neg (a0 a1 a2 a3 a4 a5 a6 a7 a8 m : Int) (w : World) (hp : chkB a0 a1 a2 a3 a4 a5 a6 a7 a8 = true) (hm : m < 0) :
    Calls Try.prog 3 #[.agg #[.int .i64 a0, .int .i64 a1, .int .i64 a2, .int .i64 a3, .int .i64 a4, .int .i64 a5, .int .i64 a6, .int .i64 a7, .int .i64 a8], .int .i64 m] w fun e w' => e = .returned (.bool true) ∧ Below w.heap.size w w' := by
  have hc : chkN a0 a1 a2 a3 a4 a5 a6 a7 a8 = 0 := by unfold chkN; rw [hp]; rfl
  go_enter Try.func3, Try.ntmps3
  go_wp2_with (first | (go_at_call 7; refine (known6 _).mono ?_; rintro e w1 ⟨rfl, hb1⟩; have hh := kept_row (heap_alloc_new w _) hb1; have hB := ((Below.refl w.heap.size w).alloc (Nat.le_refl _) (.cells #[.int .i64 a0, .int .i64 a1, .int .i64 a2, .int .i64 a3, .int .i64 a4, .int .i64 a5, .int .i64 a6, .int .i64 a7, .int .i64 a8] 23)).trans (hb1.mono (by simp)); obtain ⟨c0, c1, c2, c3, c4, c5, c6, c7, c8⟩ := cells9 hh) | (go_at_call 8; refine (check_any _ _ _ _ _ _ _ _ _ _).mono ?_; rintro e w2 ⟨rfl, hb2⟩; replace hh := kept_row hh hb2; replace hB := hB.trans (hb2.mono hB.size); clear c0 c1 c2 c3 c4 c5 c6 c7 c8; obtain ⟨c0, c1, c2, c3, c4, c5, c6, c7, c8⟩ := cells9 hh; have hlt := (Array.getElem?_eq_some_iff.1 hh).1))
  go_ret
  exact ⟨rfl, hB⟩

set_option linter.unusedSimpArgs false in
set_option linter.unusedVariables false in
set_option maxHeartbeats 2000000 in
theorem grows_far (a0 a1 a2 a3 a4 a5 a6 a7 a8 m : Int) (w : World) (hp : chkB a0 a1 a2 a3 a4 a5 a6 a7 a8 = true) (hm0 : 0 ≤ m) (hm : 65536 - a0 < m) :
    Calls Try.prog 3 #[.agg #[.int .i64 a0, .int .i64 a1, .int .i64 a2, .int .i64 a3, .int .i64 a4, .int .i64 a5, .int .i64 a6, .int .i64 a7, .int .i64 a8], .int .i64 m] w fun e w' => e = .returned (.bool true) ∧ Below w.heap.size w w' := by
  have hc : chkN a0 a1 a2 a3 a4 a5 a6 a7 a8 = 0 := by unfold chkN; rw [hp]; rfl
  obtain ⟨b0, b1, b2, b3, b4, hs, hb4, hc'⟩ := of_chk hp
  go_enter Try.func3, Try.ntmps3
  go_wp2_with (first | (go_at_call 7; refine (known6 _).mono ?_; rintro e w1 ⟨rfl, hb1⟩; have hh := kept_row (heap_alloc_new w _) hb1; have hB := ((Below.refl w.heap.size w).alloc (Nat.le_refl _) (.cells #[.int .i64 a0, .int .i64 a1, .int .i64 a2, .int .i64 a3, .int .i64 a4, .int .i64 a5, .int .i64 a6, .int .i64 a7, .int .i64 a8] 23)).trans (hb1.mono (by simp)); obtain ⟨c0, c1, c2, c3, c4, c5, c6, c7, c8⟩ := cells9 hh) | (go_at_call 8; refine (check_any _ _ _ _ _ _ _ _ _ _).mono ?_; rintro e w2 ⟨rfl, hb2⟩; replace hh := kept_row hh hb2; replace hB := hB.trans (hb2.mono hB.size); clear c0 c1 c2 c3 c4 c5 c6 c7 c8; obtain ⟨c0, c1, c2, c3, c4, c5, c6, c7, c8⟩ := cells9 hh; have hlt := (Array.getElem?_eq_some_iff.1 hh).1))
  go_ret
  exact ⟨rfl, hB⟩

set_option maxRecDepth 100000 in
set_option linter.unusedSimpArgs false in
set_option linter.unusedVariables false in
set_option maxHeartbeats 2000000 in
theorem grows_ok (a0 a1 a2 a3 a4 a5 a6 a7 a8 m : Int) (w : World) (hp : chkB a0 a1 a2 a3 a4 a5 a6 a7 a8 = true) (hm0 : 0 ≤ m) (hm : m ≤ 65536 - a0) :
    Calls Try.prog 3 #[.agg #[.int .i64 a0, .int .i64 a1, .int .i64 a2, .int .i64 a3, .int .i64 a4, .int .i64 a5, .int .i64 a6, .int .i64 a7, .int .i64 a8], .int .i64 m] w fun e w' => e = .returned (.bool true) ∧ Below w.heap.size w w' := by
  have hc : chkN a0 a1 a2 a3 a4 a5 a6 a7 a8 = 0 := by unfold chkN; rw [hp]; rfl
  obtain ⟨b0, b1, b2, b3, b4, hs, hb4, hc'⟩ := of_chk hp
  clear hc' hb4
  have hdm : decide (m < 0) = false := decide_eq_false (by omega)
  have hdm2 : decide (65536 - a0 < m) = false := decide_eq_false (by omega)
  go_enter Try.func3, Try.ntmps3
  go_wp2_with (first | (go_at_call 7; refine (known6 _).mono ?_; rintro e w1 ⟨rfl, hb1⟩; have hh := kept_row (heap_alloc_new w _) hb1; have hB := ((Below.refl w.heap.size w).alloc (Nat.le_refl _) (.cells #[.int .i64 a0, .int .i64 a1, .int .i64 a2, .int .i64 a3, .int .i64 a4, .int .i64 a5, .int .i64 a6, .int .i64 a7, .int .i64 a8] 23)).trans (hb1.mono (by simp)); obtain ⟨c0, c1, c2, c3, c4, c5, c6, c7, c8⟩ := cells9 hh) | (go_at_call 8; refine (check_any _ _ _ _ _ _ _ _ _ _).mono ?_; rintro e w2 ⟨rfl, hb2⟩; replace hh := kept_row hh hb2; replace hB := hB.trans (hb2.mono hB.size); clear c0 c1 c2 c3 c4 c5 c6 c7 c8; obtain ⟨c0, c1, c2, c3, c4, c5, c6, c7, c8⟩ := cells9 hh; have hlt := (Array.getElem?_eq_some_iff.1 hh).1))
  have hpd := chk_more hp hm0 hm
  have hcd : chkN (a0 + m) a1 a2 a3 a4 a5 a6 a7 a8 = 0 := by unfold chkN; rw [hpd]; rfl
  have bd : 1 ≤ a0 + m ∧ a0 + m ≤ 65536 := by omega
  have hroom := seg_room hs
  have hge := seg_mono (m := m) hroom (by omega : 1 ≤ a3) hm0
  have hkge := k_more (m := m) hp hm0
  have hmore := seg_more (m := m) hroom (by omega : 1 ≤ a3) hm0
  have hle := segN_le (a0 + m) a2 a3 (by omega) (by omega)
  have hmd0 := Int.emod_nonneg (a0 - 2 - a2) (b := a3) (by omega)
  have hmd1 := Int.emod_lt_of_pos (a0 - 2 - a2) (b := a3) (by omega)
  have hnz : ¬ a3 = 0 := by omega
  have hw1 : IntKind.i64.wrap (a0 - 2) = a0 - 2 := IntWalk.i64_in _ (by omega)
  have hw2 : IntKind.i64.wrap (a0 - 2 - a2) = a0 - 2 - a2 := IntWalk.i64_in _ (by omega)
  have hw3 : (a0 - 2 - a2).tmod a3 = (a0 - 2 - a2) % a3 := Int.tmod_eq_emod_of_nonneg (by omega)
  have hw4 : IntKind.i64.wrap (m + (a0 - 2 - a2) % a3) = m + (a0 - 2 - a2) % a3 := IntWalk.i64_in _ (by omega)
  have hw5 : IntKind.i64.wrap ((m + (a0 - 2 - a2) % a3).tdiv a3) = (m + (a0 - 2 - a2) % a3) / a3 := IntWalk.i64_quo _ _ (by omega)
  have hw6 : IntKind.i64.wrap (segN a0 a2 a3 + (m + (a0 - 2 - a2) % a3) / a3) = segN (a0 + m) a2 a3 := by rw [← hmore]; exact IntWalk.i64_in _ (by omega)
  clear hmore
  have hd1 : decide (segN (a0 + m) a2 a3 < segN a0 a2 a3) = false := decide_eq_false (by omega)
  have hd2 : decide (kN (a0 + m) a1 a2 a3 a4 < kN a0 a1 a2 a3 a4) = false := decide_eq_false (by omega)
  clear c0 c1 c2 c3 c4 c5 c6 c7 c8
  have hd := heap_alloc_new w2 (.cells #[.int .i64 (a0 + m), .int .i64 a1, .int .i64 a2, .int .i64 a3, .int .i64 a4, .int .i64 a5, .int .i64 a6, .int .i64 a7, .int .i64 a8] 23)
  replace hh := (Below.refl w2.heap.size w2).alloc (Nat.le_refl _) (.cells #[.int .i64 (a0 + m), .int .i64 a1, .int .i64 a2, .int .i64 a3, .int .i64 a4, .int .i64 a5, .int .i64 a6, .int .i64 a7, .int .i64 a8] 23) |>.block w.heap.size hlt |>.trans hh
  replace hB := hB.alloc hB.size (.cells #[.int .i64 (a0 + m), .int .i64 a1, .int .i64 a2, .int .i64 a3, .int .i64 a4, .int .i64 a5, .int .i64 a6, .int .i64 a7, .int .i64 a8] 23)
  replace hlt : w.heap.size < (w2.alloc (.cells #[.int .i64 (a0 + m), .int .i64 a1, .int .i64 a2, .int .i64 a3, .int .i64 a4, .int .i64 a5, .int .i64 a6, .int .i64 a7, .int .i64 a8] 23)).heap.size := Nat.lt_of_lt_of_le hlt (by simp)
  refine' reg_free (G := Kept) (pickF [eqV _, eqV _, eqV _, eqV _, eqV _, eqV _, eqV _, eqV _, eqV _, eqV _, eqV _, eqV _, eqV _, eqV _, eqV _, eqV _, eqV _, eqV _, eqV _, eqV _, eqV _, eqV _, eqV _, eqV _, eqV _, eqV _, eqV _, eqV _, eqV _, eqV _, eqV _, eqV _, eqV _, eqV _, eqV _, eqV _, eqV _, eqV _, eqV _]) [33, 34, 35, 36, 37, 38, 39, 40, 41, 42, 43, 44, 45, 46, 47, 48, 49, 50, 51, 52, 53, 54, 55, 56, 57, 58, 59, 60, 61, 62, 63, 64, 65, 66, 67, 68, 69, 70, 71] [[], [0], [1], [2], [3], [3, 4], [3], [3, 6], [3, 5, 7], [3, 8], [9], [10], [10, 11], [10], [10, 13], [10, 12, 14], [10, 15], [16], [17], [17, 18], [17], [17, 20], [17], [17], [17, 23], [17, 24], [17], [17, 26], [17, 25, 27], [17], [17, 29], [17, 28, 30], [17, 22, 31], [17], [17, 33], [17, 32, 34], [17, 21, 35], [17, 19, 36], [17, 37]] [0, 1, 2, 3, 4, 5, 6, 7, 8, 9, 10, 11, 12, 13, 14, 15, 16, 17, 18, 19, 20, 21, 22, 23, 24, 25, 26, 27, 28, 29, 30, 31, 32, 33, 34, 35, 36, 37, 38] (by kernel_rfl) Kept.refl Kept.trans (pick_stays ⟨eqV_stays _, eqV_stays _, eqV_stays _, eqV_stays _, eqV_stays _, eqV_stays _, eqV_stays _, eqV_stays _, eqV_stays _, eqV_stays _, eqV_stays _, eqV_stays _, eqV_stays _, eqV_stays _, eqV_stays _, eqV_stays _, eqV_stays _, eqV_stays _, eqV_stays _, eqV_stays _, eqV_stays _, eqV_stays _, eqV_stays _, eqV_stays _, eqV_stays _, eqV_stays _, eqV_stays _, eqV_stays _, eqV_stays _, eqV_stays _, eqV_stays _, eqV_stays _, eqV_stays _, eqV_stays _, eqV_stays _, eqV_stays _, eqV_stays _, eqV_stays _, eqV_stays _, trivial⟩) 103 rfl (by kernel_rfl) (by kernel_rfl) rfl rfl ?r1obl ?r1fin
  case r1obl =>
    refine And.intro ?r1o0 (And.intro ?r1o1 (And.intro ?r1o2 (And.intro ?r1o3 (And.intro ?r1o4 (And.intro ?r1o5 (And.intro ?r1o6 (And.intro ?r1o7 (And.intro ?r1o8 (And.intro ?r1o9 (And.intro ?r1o10 (And.intro ?r1o11 (And.intro ?r1o12 (And.intro ?r1o13 (And.intro ?r1o14 (And.intro ?r1o15 (And.intro ?r1o16 (And.intro ?r1o17 (And.intro ?r1o18 (And.intro ?r1o19 (And.intro ?r1o20 (And.intro ?r1o21 (And.intro ?r1o22 (And.intro ?r1o23 (And.intro ?r1o24 (And.intro ?r1o25 (And.intro ?r1o26 (And.intro ?r1o27 (And.intro ?r1o28 (And.intro ?r1o29 (And.intro ?r1o30 (And.intro ?r1o31 (And.intro ?r1o32 (And.intro ?r1o33 (And.intro ?r1o34 (And.intro ?r1o35 (And.intro ?r1o36 (And.intro ?r1o37 (And.intro ?r1o38 (True.intro)))))))))))))))))))))))))))))))))))))))
    case r1o0 =>
      intro w1 hG
      refine turn_on (by rfl) ?_
      intro K hK
      obtain ⟨e0, e1, e2, e3, e4, e5, e6, e7, e8⟩ := cells9 ((hG.block w2.heap.size (by simp)).trans hd)
      go_simp
      refine hK _ _ ⟨rfl, Kept.refl _, ?_⟩
      show _ = _
      simp only [List.getD_cons_zero, List.getD_cons_succ, Array.getD_eq_getD_getElem?, List.getElem?_toArray, List.getElem?_cons_zero, List.getElem?_cons_succ, Option.getD_some]
      rfl
    case r1o1 =>
      intro w1 hG
      intro v0 h0
      change _ = _ at h0
      subst h0
      refine turn_on (by rfl) ?_
      intro K hK
      simp only [List.getD_cons_zero, List.getD_cons_succ, List.setIfInBounds_toArray, List.set_cons_zero, List.set_cons_succ]
      go_simp
      refine Calls.mono (check_any _ _ _ _ _ _ _ _ _ _) ?_
      rintro e w2 ⟨rfl, hbx⟩
      refine hK _ _ ⟨rfl, hbx, ?_⟩
      show _ = _
      simp only [List.getD_cons_zero, List.getD_cons_succ, Array.getD_eq_getD_getElem?, List.getElem?_toArray, List.getElem?_cons_zero, List.getElem?_cons_succ, Option.getD_some]
      rfl
    case r1o2 =>
      intro w1 hG
      intro v1 h1
      change _ = _ at h1
      subst h1
      refine turn_on (by rfl) ?_
      intro K hK
      simp only [List.getD_cons_zero, List.getD_cons_succ, List.setIfInBounds_toArray, List.set_cons_zero, List.set_cons_succ]
      go_simp
      refine hK _ _ ⟨rfl, Kept.refl _, ?_⟩
      show _ = _
      simp only [List.getD_cons_zero, List.getD_cons_succ, Array.getD_eq_getD_getElem?, List.getElem?_toArray, List.getElem?_cons_zero, List.getElem?_cons_succ, Option.getD_some]
      rfl
    case r1o3 =>
      intro w1 hG
      intro v2 h2
      change _ = _ at h2
      subst h2
      refine turn_on (by rfl) ?_
      intro K hK
      simp only [List.getD_cons_zero, List.getD_cons_succ, List.setIfInBounds_toArray, List.set_cons_zero, List.set_cons_succ]
      go_simp
      refine hK _ _ ⟨rfl, Kept.refl _, ?_⟩
      show _ = _
      simp only [List.getD_cons_zero, List.getD_cons_succ, Array.getD_eq_getD_getElem?, List.getElem?_toArray, List.getElem?_cons_zero, List.getElem?_cons_succ, Option.getD_some]
      rfl
    case r1o4 =>
      intro w1 hG
      intro v3 h3
      change _ = _ at h3
      subst h3
      refine turn_on (by rfl) ?_
      intro K hK
      simp only [List.getD_cons_zero, List.getD_cons_succ, List.setIfInBounds_toArray, List.set_cons_zero, List.set_cons_succ]
      obtain ⟨e0, e1, e2, e3, e4, e5, e6, e7, e8⟩ := cells9 ((hG.block w2.heap.size (by simp)).trans hd)
      go_simp
      refine hK _ _ ⟨rfl, Kept.refl _, ?_⟩
      show _ = _
      simp only [List.getD_cons_zero, List.getD_cons_succ, Array.getD_eq_getD_getElem?, List.getElem?_toArray, List.getElem?_cons_zero, List.getElem?_cons_succ, Option.getD_some]
      rfl
    case r1o5 =>
      intro w1 hG
      intro v3 h3
      change _ = _ at h3
      subst h3
      intro v4 h4
      change _ = _ at h4
      subst h4
      refine turn_on (by rfl) ?_
      intro K hK
      simp only [List.getD_cons_zero, List.getD_cons_succ, List.setIfInBounds_toArray, List.set_cons_zero, List.set_cons_succ]
      go_simp
      refine Calls.mono (segments_any _ _ _ _ _ _ _ _ _ _ bd b2 b3) ?_
      rintro e w2 ⟨rfl, hbx⟩
      refine hK _ _ ⟨rfl, hbx, ?_⟩
      show _ = _
      simp only [List.getD_cons_zero, List.getD_cons_succ, Array.getD_eq_getD_getElem?, List.getElem?_toArray, List.getElem?_cons_zero, List.getElem?_cons_succ, Option.getD_some]
      rfl
    case r1o6 =>
      intro w1 hG
      intro v3 h3
      change _ = _ at h3
      subst h3
      refine turn_on (by rfl) ?_
      intro K hK
      simp only [List.getD_cons_zero, List.getD_cons_succ, List.setIfInBounds_toArray, List.set_cons_zero, List.set_cons_succ]
      obtain ⟨c0, c1, c2, c3, c4, c5, c6, c7, c8⟩ := cells9 ((hG.block w.heap.size hlt).trans hh)
      go_simp
      refine hK _ _ ⟨rfl, Kept.refl _, ?_⟩
      show _ = _
      simp only [List.getD_cons_zero, List.getD_cons_succ, Array.getD_eq_getD_getElem?, List.getElem?_toArray, List.getElem?_cons_zero, List.getElem?_cons_succ, Option.getD_some]
      rfl
    case r1o7 =>
      intro w1 hG
      intro v3 h3
      change _ = _ at h3
      subst h3
      intro v6 h6
      change _ = _ at h6
      subst h6
      refine turn_on (by rfl) ?_
      intro K hK
      simp only [List.getD_cons_zero, List.getD_cons_succ, List.setIfInBounds_toArray, List.set_cons_zero, List.set_cons_succ]
      go_simp
      refine Calls.mono (segments_any _ _ _ _ _ _ _ _ _ _ b0 b2 b3) ?_
      rintro e w2 ⟨rfl, hbx⟩
      refine hK _ _ ⟨rfl, hbx, ?_⟩
      show _ = _
      simp only [List.getD_cons_zero, List.getD_cons_succ, Array.getD_eq_getD_getElem?, List.getElem?_toArray, List.getElem?_cons_zero, List.getElem?_cons_succ, Option.getD_some]
      rfl
    case r1o8 =>
      intro w1 hG
      intro v3 h3
      change _ = _ at h3
      subst h3
      intro v5 h5
      change _ = _ at h5
      subst h5
      intro v7 h7
      change _ = _ at h7
      subst h7
      refine turn_on (by rfl) ?_
      intro K hK
      simp only [List.getD_cons_zero, List.getD_cons_succ, List.setIfInBounds_toArray, List.set_cons_zero, List.set_cons_succ]
      go_simp
      refine hK _ _ ⟨rfl, Kept.refl _, ?_⟩
      show _ = _
      simp only [List.getD_cons_zero, List.getD_cons_succ, Array.getD_eq_getD_getElem?, List.getElem?_toArray, List.getElem?_cons_zero, List.getElem?_cons_succ, Option.getD_some]
      rfl
    case r1o9 =>
      intro w1 hG
      intro v3 h3
      change _ = _ at h3
      subst h3
      intro v8 h8
      change _ = _ at h8
      subst h8
      refine turn_on (by rfl) ?_
      intro K hK
      simp only [List.getD_cons_zero, List.getD_cons_succ, List.setIfInBounds_toArray, List.set_cons_zero, List.set_cons_succ]
      go_simp
      refine hK _ _ ⟨rfl, Kept.refl _, ?_⟩
      show _ = _
      simp only [List.getD_cons_zero, List.getD_cons_succ, Array.getD_eq_getD_getElem?, List.getElem?_toArray, List.getElem?_cons_zero, List.getElem?_cons_succ, Option.getD_some]
      rfl
    case r1o10 =>
      intro w1 hG
      intro v9 h9
      change _ = _ at h9
      subst h9
      refine turn_on (by rfl) ?_
      intro K hK
      simp only [List.getD_cons_zero, List.getD_cons_succ, List.setIfInBounds_toArray, List.set_cons_zero, List.set_cons_succ]
      go_simp
      refine hK _ _ ⟨rfl, Kept.refl _, ?_⟩
      show _ = _
      simp only [List.getD_cons_zero, List.getD_cons_succ, Array.getD_eq_getD_getElem?, List.getElem?_toArray, List.getElem?_cons_zero, List.getElem?_cons_succ, Option.getD_some]
      rfl
    case r1o11 =>
      intro w1 hG
      intro v10 h10
      change _ = _ at h10
      subst h10
      refine turn_on (by rfl) ?_
      intro K hK
      simp only [List.getD_cons_zero, List.getD_cons_succ, List.setIfInBounds_toArray, List.set_cons_zero, List.set_cons_succ]
      obtain ⟨e0, e1, e2, e3, e4, e5, e6, e7, e8⟩ := cells9 ((hG.block w2.heap.size (by simp)).trans hd)
      go_simp
      refine hK _ _ ⟨rfl, Kept.refl _, ?_⟩
      show _ = _
      simp only [List.getD_cons_zero, List.getD_cons_succ, Array.getD_eq_getD_getElem?, List.getElem?_toArray, List.getElem?_cons_zero, List.getElem?_cons_succ, Option.getD_some]
      rfl
    case r1o12 =>
      intro w1 hG
      intro v10 h10
      change _ = _ at h10
      subst h10
      intro v11 h11
      change _ = _ at h11
      subst h11
      refine turn_on (by rfl) ?_
      intro K hK
      simp only [List.getD_cons_zero, List.getD_cons_succ, List.setIfInBounds_toArray, List.set_cons_zero, List.set_cons_succ]
      go_simp
      refine Calls.mono (k_any _ _ _ _ _ _ _ _ _ _ hpd) ?_
      rintro e w2 ⟨rfl, hbx⟩
      refine hK _ _ ⟨rfl, hbx, ?_⟩
      show _ = _
      simp only [List.getD_cons_zero, List.getD_cons_succ, Array.getD_eq_getD_getElem?, List.getElem?_toArray, List.getElem?_cons_zero, List.getElem?_cons_succ, Option.getD_some]
      rfl
    case r1o13 =>
      intro w1 hG
      intro v10 h10
      change _ = _ at h10
      subst h10
      refine turn_on (by rfl) ?_
      intro K hK
      simp only [List.getD_cons_zero, List.getD_cons_succ, List.setIfInBounds_toArray, List.set_cons_zero, List.set_cons_succ]
      obtain ⟨c0, c1, c2, c3, c4, c5, c6, c7, c8⟩ := cells9 ((hG.block w.heap.size hlt).trans hh)
      go_simp
      refine hK _ _ ⟨rfl, Kept.refl _, ?_⟩
      show _ = _
      simp only [List.getD_cons_zero, List.getD_cons_succ, Array.getD_eq_getD_getElem?, List.getElem?_toArray, List.getElem?_cons_zero, List.getElem?_cons_succ, Option.getD_some]
      rfl
    case r1o14 =>
      intro w1 hG
      intro v10 h10
      change _ = _ at h10
      subst h10
      intro v13 h13
      change _ = _ at h13
      subst h13
      refine turn_on (by rfl) ?_
      intro K hK
      simp only [List.getD_cons_zero, List.getD_cons_succ, List.setIfInBounds_toArray, List.set_cons_zero, List.set_cons_succ]
      go_simp
      refine Calls.mono (k_any _ _ _ _ _ _ _ _ _ _ hp) ?_
      rintro e w2 ⟨rfl, hbx⟩
      refine hK _ _ ⟨rfl, hbx, ?_⟩
      show _ = _
      simp only [List.getD_cons_zero, List.getD_cons_succ, Array.getD_eq_getD_getElem?, List.getElem?_toArray, List.getElem?_cons_zero, List.getElem?_cons_succ, Option.getD_some]
      rfl
    case r1o15 =>
      intro w1 hG
      intro v10 h10
      change _ = _ at h10
      subst h10
      intro v12 h12
      change _ = _ at h12
      subst h12
      intro v14 h14
      change _ = _ at h14
      subst h14
      refine turn_on (by rfl) ?_
      intro K hK
      simp only [List.getD_cons_zero, List.getD_cons_succ, List.setIfInBounds_toArray, List.set_cons_zero, List.set_cons_succ]
      go_simp
      refine hK _ _ ⟨rfl, Kept.refl _, ?_⟩
      show _ = _
      simp only [List.getD_cons_zero, List.getD_cons_succ, Array.getD_eq_getD_getElem?, List.getElem?_toArray, List.getElem?_cons_zero, List.getElem?_cons_succ, Option.getD_some]
      rfl
    case r1o16 =>
      intro w1 hG
      intro v10 h10
      change _ = _ at h10
      subst h10
      intro v15 h15
      change _ = _ at h15
      subst h15
      refine turn_on (by rfl) ?_
      intro K hK
      simp only [List.getD_cons_zero, List.getD_cons_succ, List.setIfInBounds_toArray, List.set_cons_zero, List.set_cons_succ]
      go_simp
      refine hK _ _ ⟨rfl, Kept.refl _, ?_⟩
      show _ = _
      simp only [List.getD_cons_zero, List.getD_cons_succ, Array.getD_eq_getD_getElem?, List.getElem?_toArray, List.getElem?_cons_zero, List.getElem?_cons_succ, Option.getD_some]
      rfl
    case r1o17 =>
      intro w1 hG
      intro v16 h16
      change _ = _ at h16
      subst h16
      refine turn_on (by rfl) ?_
      intro K hK
      simp only [List.getD_cons_zero, List.getD_cons_succ, List.setIfInBounds_toArray, List.set_cons_zero, List.set_cons_succ]
      go_simp
      refine hK _ _ ⟨rfl, Kept.refl _, ?_⟩
      show _ = _
      simp only [List.getD_cons_zero, List.getD_cons_succ, Array.getD_eq_getD_getElem?, List.getElem?_toArray, List.getElem?_cons_zero, List.getElem?_cons_succ, Option.getD_some]
      rfl
    case r1o18 =>
      intro w1 hG
      intro v17 h17
      change _ = _ at h17
      subst h17
      refine turn_on (by rfl) ?_
      intro K hK
      simp only [List.getD_cons_zero, List.getD_cons_succ, List.setIfInBounds_toArray, List.set_cons_zero, List.set_cons_succ]
      obtain ⟨e0, e1, e2, e3, e4, e5, e6, e7, e8⟩ := cells9 ((hG.block w2.heap.size (by simp)).trans hd)
      go_simp
      refine hK _ _ ⟨rfl, Kept.refl _, ?_⟩
      show _ = _
      simp only [List.getD_cons_zero, List.getD_cons_succ, Array.getD_eq_getD_getElem?, List.getElem?_toArray, List.getElem?_cons_zero, List.getElem?_cons_succ, Option.getD_some]
      rfl
    case r1o19 =>
      intro w1 hG
      intro v17 h17
      change _ = _ at h17
      subst h17
      intro v18 h18
      change _ = _ at h18
      subst h18
      refine turn_on (by rfl) ?_
      intro K hK
      simp only [List.getD_cons_zero, List.getD_cons_succ, List.setIfInBounds_toArray, List.set_cons_zero, List.set_cons_succ]
      go_simp
      refine Calls.mono (segments_any _ _ _ _ _ _ _ _ _ _ bd b2 b3) ?_
      rintro e w2 ⟨rfl, hbx⟩
      refine hK _ _ ⟨rfl, hbx, ?_⟩
      show _ = _
      simp only [List.getD_cons_zero, List.getD_cons_succ, Array.getD_eq_getD_getElem?, List.getElem?_toArray, List.getElem?_cons_zero, List.getElem?_cons_succ, Option.getD_some]
      rfl
    case r1o20 =>
      intro w1 hG
      intro v17 h17
      change _ = _ at h17
      subst h17
      refine turn_on (by rfl) ?_
      intro K hK
      simp only [List.getD_cons_zero, List.getD_cons_succ, List.setIfInBounds_toArray, List.set_cons_zero, List.set_cons_succ]
      obtain ⟨c0, c1, c2, c3, c4, c5, c6, c7, c8⟩ := cells9 ((hG.block w.heap.size hlt).trans hh)
      go_simp
      refine hK _ _ ⟨rfl, Kept.refl _, ?_⟩
      show _ = _
      simp only [List.getD_cons_zero, List.getD_cons_succ, Array.getD_eq_getD_getElem?, List.getElem?_toArray, List.getElem?_cons_zero, List.getElem?_cons_succ, Option.getD_some]
      rfl
    case r1o21 =>
      intro w1 hG
      intro v17 h17
      change _ = _ at h17
      subst h17
      intro v20 h20
      change _ = _ at h20
      subst h20
      refine turn_on (by rfl) ?_
      intro K hK
      simp only [List.getD_cons_zero, List.getD_cons_succ, List.setIfInBounds_toArray, List.set_cons_zero, List.set_cons_succ]
      go_simp
      refine Calls.mono (segments_any _ _ _ _ _ _ _ _ _ _ b0 b2 b3) ?_
      rintro e w2 ⟨rfl, hbx⟩
      refine hK _ _ ⟨rfl, hbx, ?_⟩
      show _ = _
      simp only [List.getD_cons_zero, List.getD_cons_succ, Array.getD_eq_getD_getElem?, List.getElem?_toArray, List.getElem?_cons_zero, List.getElem?_cons_succ, Option.getD_some]
      rfl
    case r1o22 =>
      intro w1 hG
      intro v17 h17
      change _ = _ at h17
      subst h17
      refine turn_on (by rfl) ?_
      intro K hK
      simp only [List.getD_cons_zero, List.getD_cons_succ, List.setIfInBounds_toArray, List.set_cons_zero, List.set_cons_succ]
      go_simp
      refine hK _ _ ⟨rfl, Kept.refl _, ?_⟩
      show _ = _
      simp only [List.getD_cons_zero, List.getD_cons_succ, Array.getD_eq_getD_getElem?, List.getElem?_toArray, List.getElem?_cons_zero, List.getElem?_cons_succ, Option.getD_some]
      rfl
    case r1o23 =>
      intro w1 hG
      intro v17 h17
      change _ = _ at h17
      subst h17
      refine turn_on (by rfl) ?_
      intro K hK
      simp only [List.getD_cons_zero, List.getD_cons_succ, List.setIfInBounds_toArray, List.set_cons_zero, List.set_cons_succ]
      go_simp
      refine hK _ _ ⟨rfl, Kept.refl _, ?_⟩
      show _ = _
      simp only [List.getD_cons_zero, List.getD_cons_succ, Array.getD_eq_getD_getElem?, List.getElem?_toArray, List.getElem?_cons_zero, List.getElem?_cons_succ, Option.getD_some]
      rfl
    case r1o24 =>
      intro w1 hG
      intro v17 h17
      change _ = _ at h17
      subst h17
      intro v23 h23
      change _ = _ at h23
      subst h23
      refine turn_on (by rfl) ?_
      intro K hK
      simp only [List.getD_cons_zero, List.getD_cons_succ, List.setIfInBounds_toArray, List.set_cons_zero, List.set_cons_succ]
      obtain ⟨c0, c1, c2, c3, c4, c5, c6, c7, c8⟩ := cells9 ((hG.block w.heap.size hlt).trans hh)
      go_simp
      refine hK _ _ ⟨rfl, Kept.refl _, ?_⟩
      show _ = _
      simp only [List.getD_cons_zero, List.getD_cons_succ, Array.getD_eq_getD_getElem?, List.getElem?_toArray, List.getElem?_cons_zero, List.getElem?_cons_succ, Option.getD_some]
      rfl
    case r1o25 =>
      intro w1 hG
      intro v17 h17
      change _ = _ at h17
      subst h17
      intro v24 h24
      change _ = _ at h24
      subst h24
      refine turn_on (by rfl) ?_
      intro K hK
      simp only [List.getD_cons_zero, List.getD_cons_succ, List.setIfInBounds_toArray, List.set_cons_zero, List.set_cons_succ]
      go_simp
      refine hK _ _ ⟨rfl, Kept.refl _, ?_⟩
      show _ = _
      simp only [List.getD_cons_zero, List.getD_cons_succ, Array.getD_eq_getD_getElem?, List.getElem?_toArray, List.getElem?_cons_zero, List.getElem?_cons_succ, Option.getD_some]
      rfl
    case r1o26 =>
      intro w1 hG
      intro v17 h17
      change _ = _ at h17
      subst h17
      refine turn_on (by rfl) ?_
      intro K hK
      simp only [List.getD_cons_zero, List.getD_cons_succ, List.setIfInBounds_toArray, List.set_cons_zero, List.set_cons_succ]
      go_simp
      refine hK _ _ ⟨rfl, Kept.refl _, ?_⟩
      show _ = _
      simp only [List.getD_cons_zero, List.getD_cons_succ, Array.getD_eq_getD_getElem?, List.getElem?_toArray, List.getElem?_cons_zero, List.getElem?_cons_succ, Option.getD_some]
      rfl
    case r1o27 =>
      intro w1 hG
      intro v17 h17
      change _ = _ at h17
      subst h17
      intro v26 h26
      change _ = _ at h26
      subst h26
      refine turn_on (by rfl) ?_
      intro K hK
      simp only [List.getD_cons_zero, List.getD_cons_succ, List.setIfInBounds_toArray, List.set_cons_zero, List.set_cons_succ]
      obtain ⟨c0, c1, c2, c3, c4, c5, c6, c7, c8⟩ := cells9 ((hG.block w.heap.size hlt).trans hh)
      go_simp
      refine hK _ _ ⟨rfl, Kept.refl _, ?_⟩
      show _ = _
      simp only [List.getD_cons_zero, List.getD_cons_succ, Array.getD_eq_getD_getElem?, List.getElem?_toArray, List.getElem?_cons_zero, List.getElem?_cons_succ, Option.getD_some]
      rfl
    case r1o28 =>
      intro w1 hG
      intro v17 h17
      change _ = _ at h17
      subst h17
      intro v25 h25
      change _ = _ at h25
      subst h25
      intro v27 h27
      change _ = _ at h27
      subst h27
      refine turn_on (by rfl) ?_
      intro K hK
      simp only [List.getD_cons_zero, List.getD_cons_succ, List.setIfInBounds_toArray, List.set_cons_zero, List.set_cons_succ]
      go_simp
      refine hK _ _ ⟨rfl, Kept.refl _, ?_⟩
      show _ = _
      simp only [List.getD_cons_zero, List.getD_cons_succ, Array.getD_eq_getD_getElem?, List.getElem?_toArray, List.getElem?_cons_zero, List.getElem?_cons_succ, Option.getD_some]
      rfl
    case r1o29 =>
      intro w1 hG
      intro v17 h17
      change _ = _ at h17
      subst h17
      refine turn_on (by rfl) ?_
      intro K hK
      simp only [List.getD_cons_zero, List.getD_cons_succ, List.setIfInBounds_toArray, List.set_cons_zero, List.set_cons_succ]
      go_simp
      refine hK _ _ ⟨rfl, Kept.refl _, ?_⟩
      show _ = _
      simp only [List.getD_cons_zero, List.getD_cons_succ, Array.getD_eq_getD_getElem?, List.getElem?_toArray, List.getElem?_cons_zero, List.getElem?_cons_succ, Option.getD_some]
      rfl
    case r1o30 =>
      intro w1 hG
      intro v17 h17
      change _ = _ at h17
      subst h17
      intro v29 h29
      change _ = _ at h29
      subst h29
      refine turn_on (by rfl) ?_
      intro K hK
      simp only [List.getD_cons_zero, List.getD_cons_succ, List.setIfInBounds_toArray, List.set_cons_zero, List.set_cons_succ]
      obtain ⟨c0, c1, c2, c3, c4, c5, c6, c7, c8⟩ := cells9 ((hG.block w.heap.size hlt).trans hh)
      go_simp
      refine hK _ _ ⟨rfl, Kept.refl _, ?_⟩
      show _ = _
      simp only [List.getD_cons_zero, List.getD_cons_succ, Array.getD_eq_getD_getElem?, List.getElem?_toArray, List.getElem?_cons_zero, List.getElem?_cons_succ, Option.getD_some]
      rfl
    case r1o31 =>
      intro w1 hG
      intro v17 h17
      change _ = _ at h17
      subst h17
      intro v28 h28
      change _ = _ at h28
      subst h28
      intro v30 h30
      change _ = _ at h30
      subst h30
      refine turn_on (by rfl) ?_
      intro K hK
      simp only [List.getD_cons_zero, List.getD_cons_succ, List.setIfInBounds_toArray, List.set_cons_zero, List.set_cons_succ]
      go_simp
      refine hK _ _ ⟨rfl, Kept.refl _, ?_⟩
      show _ = _
      simp only [List.getD_cons_zero, List.getD_cons_succ, Array.getD_eq_getD_getElem?, List.getElem?_toArray, List.getElem?_cons_zero, List.getElem?_cons_succ, Option.getD_some]
      rfl
    case r1o32 =>
      intro w1 hG
      intro v17 h17
      change _ = _ at h17
      subst h17
      intro v22 h22
      change _ = _ at h22
      subst h22
      intro v31 h31
      change _ = _ at h31
      subst h31
      refine turn_on (by rfl) ?_
      intro K hK
      simp only [List.getD_cons_zero, List.getD_cons_succ, List.setIfInBounds_toArray, List.set_cons_zero, List.set_cons_succ]
      go_simp
      refine hK _ _ ⟨rfl, Kept.refl _, ?_⟩
      show _ = _
      simp only [List.getD_cons_zero, List.getD_cons_succ, Array.getD_eq_getD_getElem?, List.getElem?_toArray, List.getElem?_cons_zero, List.getElem?_cons_succ, Option.getD_some]
      rfl
    case r1o33 =>
      intro w1 hG
      intro v17 h17
      change _ = _ at h17
      subst h17
      refine turn_on (by rfl) ?_
      intro K hK
      simp only [List.getD_cons_zero, List.getD_cons_succ, List.setIfInBounds_toArray, List.set_cons_zero, List.set_cons_succ]
      go_simp
      refine hK _ _ ⟨rfl, Kept.refl _, ?_⟩
      show _ = _
      simp only [List.getD_cons_zero, List.getD_cons_succ, Array.getD_eq_getD_getElem?, List.getElem?_toArray, List.getElem?_cons_zero, List.getElem?_cons_succ, Option.getD_some]
      rfl
    case r1o34 =>
      intro w1 hG
      intro v17 h17
      change _ = _ at h17
      subst h17
      intro v33 h33
      change _ = _ at h33
      subst h33
      refine turn_on (by rfl) ?_
      intro K hK
      simp only [List.getD_cons_zero, List.getD_cons_succ, List.setIfInBounds_toArray, List.set_cons_zero, List.set_cons_succ]
      obtain ⟨c0, c1, c2, c3, c4, c5, c6, c7, c8⟩ := cells9 ((hG.block w.heap.size hlt).trans hh)
      go_simp
      refine hK _ _ ⟨rfl, Kept.refl _, ?_⟩
      show _ = _
      simp only [List.getD_cons_zero, List.getD_cons_succ, Array.getD_eq_getD_getElem?, List.getElem?_toArray, List.getElem?_cons_zero, List.getElem?_cons_succ, Option.getD_some]
      rfl
    case r1o35 =>
      intro w1 hG
      intro v17 h17
      change _ = _ at h17
      subst h17
      intro v32 h32
      change _ = _ at h32
      subst h32
      intro v34 h34
      change _ = _ at h34
      subst h34
      refine turn_on (by rfl) ?_
      intro K hK
      simp only [List.getD_cons_zero, List.getD_cons_succ, List.setIfInBounds_toArray, List.set_cons_zero, List.set_cons_succ]
      go_simp
      refine hK _ _ ⟨rfl, Kept.refl _, ?_⟩
      show _ = _
      simp only [List.getD_cons_zero, List.getD_cons_succ, Array.getD_eq_getD_getElem?, List.getElem?_toArray, List.getElem?_cons_zero, List.getElem?_cons_succ, Option.getD_some]
      rfl
    case r1o36 =>
      intro w1 hG
      intro v17 h17
      change _ = _ at h17
      subst h17
      intro v21 h21
      change _ = _ at h21
      subst h21
      intro v35 h35
      change _ = _ at h35
      subst h35
      refine turn_on (by rfl) ?_
      intro K hK
      simp only [List.getD_cons_zero, List.getD_cons_succ, List.setIfInBounds_toArray, List.set_cons_zero, List.set_cons_succ]
      go_simp
      refine hK _ _ ⟨rfl, Kept.refl _, ?_⟩
      show _ = _
      simp only [List.getD_cons_zero, List.getD_cons_succ, Array.getD_eq_getD_getElem?, List.getElem?_toArray, List.getElem?_cons_zero, List.getElem?_cons_succ, Option.getD_some]
      rfl
    case r1o37 =>
      intro w1 hG
      intro v17 h17
      change _ = _ at h17
      subst h17
      intro v19 h19
      change _ = _ at h19
      subst h19
      intro v36 h36
      change _ = _ at h36
      subst h36
      refine turn_on (by rfl) ?_
      intro K hK
      simp only [List.getD_cons_zero, List.getD_cons_succ, List.setIfInBounds_toArray, List.set_cons_zero, List.set_cons_succ]
      go_simp
      refine hK _ _ ⟨rfl, Kept.refl _, ?_⟩
      show _ = _
      simp only [List.getD_cons_zero, List.getD_cons_succ, Array.getD_eq_getD_getElem?, List.getElem?_toArray, List.getElem?_cons_zero, List.getElem?_cons_succ, Option.getD_some]
      rfl
    case r1o38 =>
      intro w1 hG
      intro v17 h17
      change _ = _ at h17
      subst h17
      intro v37 h37
      change _ = _ at h37
      subst h37
      refine turn_on (by rfl) ?_
      intro K hK
      simp only [List.getD_cons_zero, List.getD_cons_succ, List.setIfInBounds_toArray, List.set_cons_zero, List.set_cons_succ]
      go_simp
      refine hK _ _ ⟨rfl, Kept.refl _, ?_⟩
      show _ = _
      simp only [List.getD_cons_zero, List.getD_cons_succ, Array.getD_eq_getD_getElem?, List.getElem?_toArray, List.getElem?_cons_zero, List.getElem?_cons_succ, Option.getD_some]
      rfl
  intro w1 hG
  intro v0 h0
  change _ = _ at h0
  subst h0
  intro v1 h1
  change _ = _ at h1
  subst h1
  intro v2 h2
  change _ = _ at h2
  subst h2
  intro v3 h3
  change _ = _ at h3
  subst h3
  intro v4 h4
  change _ = _ at h4
  subst h4
  intro v5 h5
  change _ = _ at h5
  subst h5
  intro v6 h6
  change _ = _ at h6
  subst h6
  intro v7 h7
  change _ = _ at h7
  subst h7
  intro v8 h8
  change _ = _ at h8
  subst h8
  intro v9 h9
  change _ = _ at h9
  subst h9
  intro v10 h10
  change _ = _ at h10
  subst h10
  intro v11 h11
  change _ = _ at h11
  subst h11
  intro v12 h12
  change _ = _ at h12
  subst h12
  intro v13 h13
  change _ = _ at h13
  subst h13
  intro v14 h14
  change _ = _ at h14
  subst h14
  intro v15 h15
  change _ = _ at h15
  subst h15
  intro v16 h16
  change _ = _ at h16
  subst h16
  intro v17 h17
  change _ = _ at h17
  subst h17
  intro v18 h18
  change _ = _ at h18
  subst h18
  intro v19 h19
  change _ = _ at h19
  subst h19
  intro v20 h20
  change _ = _ at h20
  subst h20
  intro v21 h21
  change _ = _ at h21
  subst h21
  intro v22 h22
  change _ = _ at h22
  subst h22
  intro v23 h23
  change _ = _ at h23
  subst h23
  intro v24 h24
  change _ = _ at h24
  subst h24
  intro v25 h25
  change _ = _ at h25
  subst h25
  intro v26 h26
  change _ = _ at h26
  subst h26
  intro v27 h27
  change _ = _ at h27
  subst h27
  intro v28 h28
  change _ = _ at h28
  subst h28
  intro v29 h29
  change _ = _ at h29
  subst h29
  intro v30 h30
  change _ = _ at h30
  subst h30
  intro v31 h31
  change _ = _ at h31
  subst h31
  intro v32 h32
  change _ = _ at h32
  subst h32
  intro v33 h33
  change _ = _ at h33
  subst h33
  intro v34 h34
  change _ = _ at h34
  subst h34
  intro v35 h35
  change _ = _ at h35
  subst h35
  intro v36 h36
  change _ = _ at h36
  subst h36
  intro v37 h37
  change _ = _ at h37
  subst h37
  intro v38 h38
  change _ = _ at h38
  subst h38
  simp only [Given, List.getD_cons_zero, List.getD_cons_succ, List.setIfInBounds_toArray, List.set_cons_zero, List.set_cons_succ]
  replace hh := (hG.block w.heap.size hlt).trans hh
  replace hB := hB.drew.trans (Below.mono hG hB.size)
  clear hc hcd hlt hd hG hd1 hd2 hw1 hw2 hw3 hw4 hw5 hw6 hge hkge hmd0 hmd1
  obtain ⟨c0, c1, c2, c3, c4, c5, c6, c7, c8⟩ := cells9 hh
  go_wp2
  clear c0 c1 c2 c3 c4 c5 c6 c7 c8
  go_loopw [6, 7] (fun l i wr => ∃ k : Nat, k ≤ 200 ∧ ((k : Int) ≤ segN a0 a2 a3) ∧ i = .int .i64 k ∧ ((k = 0 ∧ l = .int .i64 0) ∨ (1 ≤ k ∧ l = .int .i64 (2 + a2 + k * a3))) ∧ wr.heap[w.heap.size]? = some (.cells #[.int .i64 a0, .int .i64 a1, .int .i64 a2, .int .i64 a3, .int .i64 a4, .int .i64 a5, .int .i64 a6, .int .i64 a7, .int .i64 a8] 23) ∧ Below w.heap.size w wr) (fun _ i _ => 200 - (intOf i).toNat)
  case atStart => exact ⟨0, by omega, by omega, rfl, .inl ⟨rfl, rfl⟩, hh, hB⟩
  case round =>
    clear hh hB
    obtain ⟨k, hk, hkn, rfl, hl, hh, hB⟩ := hrel
    obtain ⟨c0, c1, c2, c3, c4, c5, c6, c7, c8⟩ := cells9 hh
    by_cases hlt : (k : Int) < segN a0 a2 a3 ∧ k < 200
    · obtain ⟨hlt1, hlt2⟩ := hlt
      have hf0 : 0 ≤ (k : Int) * a3 := Int.mul_nonneg (by omega) (by omega)
      have hf1 := seg_fits (k := k) (by omega) hlt1 (by omega)
      have he : 2 + a2 + (k : Int) * a3 + a3 = 2 + a2 + ((k + 1 : Nat) : Int) * a3 := by rw [Int.natCast_add, Int.add_mul]; omega
      have HE := Lib.hid he
      clear he
      rcases hl with ⟨rfl, rfl⟩ | ⟨h1, rfl⟩
      all_goals
        go_wp2_with (first | (go_at_call 9; refine (segments_any _ _ _ _ _ _ _ _ _ _ b0 b2 b3).mono ?_; rintro e w3 ⟨rfl, hb3⟩; replace hh := kept_row hh hb3; replace hB := hB.trans (hb3.mono hB.size); clear c0 c1 c2 c3 c4 c5 c6 c7 c8; obtain ⟨c0, c1, c2, c3, c4, c5, c6, c7, c8⟩ := cells9 hh) | (go_at_call 11; refine (segment_ok _ _ _ _ _ _ _ _ _ _ _ hp (by omega) (by omega)).mono ?_; rintro e w4 ⟨rfl, hb4⟩; replace hh := kept_row hh hb4; replace hB := hB.trans (hb4.mono hB.size); clear c0 c1 c2 c3 c4 c5 c6 c7 c8; obtain ⟨c0, c1, c2, c3, c4, c5, c6, c7, c8⟩ := cells9 hh))
        go_roundw
        case rel => first | exact ⟨k + 1, by omega, by omega, by go_num, .inr ⟨by omega, by rw [← HE.out]⟩, hh, hB⟩ | exact ⟨1, by omega, by omega, by go_num, .inr ⟨by omega, by rw [← HE.out]; simp⟩, hh, hB⟩
        case measure => simp [intOf] <;> omega
    · have hx : (k : Int) < segN a0 a2 a3 → 200 ≤ k := fun h => by omega
      rcases hl with ⟨rfl, rfl⟩ | ⟨h1, rfl⟩
      · exact absurd ⟨by omega, by omega⟩ hlt
      clear hlt
      by_cases hy : (k : Int) < segN a0 a2 a3
      · have hz := hx hy
        clear hx
        go_wp2_with (first | (go_at_call 9; refine (segments_any _ _ _ _ _ _ _ _ _ _ b0 b2 b3).mono ?_; rintro e w3 ⟨rfl, hb3⟩; replace hh := kept_row hh hb3; replace hB := hB.trans (hb3.mono hB.size); clear c0 c1 c2 c3 c4 c5 c6 c7 c8; obtain ⟨c0, c1, c2, c3, c4, c5, c6, c7, c8⟩ := cells9 hh) | (go_at_call 11; refine (segment_ok _ _ _ _ _ _ _ _ _ _ _ hp (by omega) (by omega)).mono ?_; rintro e w4 ⟨rfl, hb4⟩; replace hh := kept_row hh hb4; replace hB := hB.trans (hb4.mono hB.size); clear c0 c1 c2 c3 c4 c5 c6 c7 c8; obtain ⟨c0, c1, c2, c3, c4, c5, c6, c7, c8⟩ := cells9 hh))
        go_ret
        exact ⟨rfl, hB⟩
      · clear hx
        go_wp2_with (first | (go_at_call 9; refine (segments_any _ _ _ _ _ _ _ _ _ _ b0 b2 b3).mono ?_; rintro e w3 ⟨rfl, hb3⟩; replace hh := kept_row hh hb3; replace hB := hB.trans (hb3.mono hB.size); clear c0 c1 c2 c3 c4 c5 c6 c7 c8; obtain ⟨c0, c1, c2, c3, c4, c5, c6, c7, c8⟩ := cells9 hh) | (go_at_call 11; refine (segment_ok _ _ _ _ _ _ _ _ _ _ _ hp (by omega) (by omega)).mono ?_; rintro e w4 ⟨rfl, hb4⟩; replace hh := kept_row hh hb4; replace hB := hB.trans (hb4.mono hB.size); clear c0 c1 c2 c3 c4 c5 c6 c7 c8; obtain ⟨c0, c1, c2, c3, c4, c5, c6, c7, c8⟩ := cells9 hh))
        go_ret
        exact ⟨rfl, hB⟩

end Go.Proofs.Ythpmjapohkdamaa
