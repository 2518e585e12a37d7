/- The walk of GeomShapes. -/
import Derived.Test.YthpmjapohkdamaaGeomJ
namespace Go.Proofs.Ythpmjapohkdamaa
open Go.RowKit
set_option linter.unusedSimpArgs false in
set_option linter.unusedVariables false in
set_option maxHeartbeats 2000000 in
theorem shapes_no (a0 a1 a2 a3 a4 a5 a6 a7 a8 k s b : Int) (w : World) (hp : chkB a0 a1 a2 a3 a4 a5 a6 a7 a8 = false) :
    Calls Try.prog 4 #[.agg #[.int .i64 a0, .int .i64 a1, .int .i64 a2, .int .i64 a3, .int .i64 a4, .int .i64 a5, .int .i64 a6, .int .i64 a7, .int .i64 a8], .int .i64 k, .int .i64 s, .int .i64 b] w fun e w' => e = .returned (.bool true) ∧ Below w.heap.size w w' := by
  have hc : chkN a0 a1 a2 a3 a4 a5 a6 a7 a8 = 1 := by unfold chkN; rw [hp]; rfl
  go_enter Try.func4, Try.ntmps4
  go_wp2_with (first | (go_at_call 7; refine (known6 _).mono ?_; rintro e w1 ⟨rfl, hb1⟩; have hh := kept_row (heap_alloc_new w _) hb1; have hB := ((Below.refl w.heap.size w).alloc (Nat.le_refl _) (.cells #[.int .i64 a0, .int .i64 a1, .int .i64 a2, .int .i64 a3, .int .i64 a4, .int .i64 a5, .int .i64 a6, .int .i64 a7, .int .i64 a8] 23)).trans (hb1.mono (by simp)); obtain ⟨c0, c1, c2, c3, c4, c5, c6, c7, c8⟩ := cells9 hh) | (go_at_call 11; refine (segment_all _ _ _ _ _ _ _ _ _ _ _).mono ?_; rintro e w2 ⟨rfl, hb2⟩; replace hh := kept_row hh hb2; replace hB := hB.trans (hb2.mono hB.size); clear c0 c1 c2 c3 c4 c5 c6 c7 c8; obtain ⟨c0, c1, c2, c3, c4, c5, c6, c7, c8⟩ := cells9 hh) | (go_at_call 12; refine (refsegment_all _ _ _ _ _ _ _ _ _ _ _).mono ?_; rintro e w3 ⟨rfl, hb3⟩; replace hh := kept_row hh hb3; replace hB := hB.trans (hb3.mono hB.size); clear c0 c1 c2 c3 c4 c5 c6 c7 c8; obtain ⟨c0, c1, c2, c3, c4, c5, c6, c7, c8⟩ := cells9 hh))
  clear c0 c1 c2 c3 c4 c5 c6 c7 c8
  have hlt := (Array.getElem?_eq_some_iff.1 hh).1
  refine' reg_free (G := Kept) (pickF [eqV _, eqV _, eqV _, eqV _, eqV _, eqV _, eqV _, eqV _, eqV _, eqV _, eqV _, eqV _, eqV _, eqV _, eqV _, eqV _, eqV _, eqV _, eqV _, eqV _, eqV _, eqV _, eqV _, eqV _, eqV _, eqV _, eqV _]) [35, 36, 37, 38, 39, 40, 41, 42, 43, 44, 45, 46, 47, 48, 49, 50, 51, 52, 53, 54, 55, 56, 57, 58, 59, 60, 61] [[], [0], [], [2], [1, 3], [4], [5], [5], [5, 6, 7], [5, 8], [9], [10], [10], [10, 11, 12], [10, 13], [14], [15], [15], [15, 16, 17], [15, 18], [19], [20], [20, 21], [20], [20, 23], [20, 22, 24], [20, 25]] [0, 1, 2, 3, 4, 5, 6, 7, 8, 9, 10, 11, 12, 13, 14, 15, 16, 17, 18, 19, 20, 21, 22, 23, 24, 25, 26] (by kernel_rfl) Kept.refl Kept.trans (pick_stays ⟨eqV_stays _, eqV_stays _, eqV_stays _, eqV_stays _, eqV_stays _, eqV_stays _, eqV_stays _, eqV_stays _, eqV_stays _, eqV_stays _, eqV_stays _, eqV_stays _, eqV_stays _, eqV_stays _, eqV_stays _, eqV_stays _, eqV_stays _, eqV_stays _, eqV_stays _, eqV_stays _, eqV_stays _, eqV_stays _, eqV_stays _, eqV_stays _, eqV_stays _, eqV_stays _, eqV_stays _, trivial⟩) 112 rfl (by kernel_rfl) (by kernel_rfl) rfl rfl ?r1obl ?r1fin
  case r1obl =>
    refine And.intro ?r1o0 (And.intro ?r1o1 (And.intro ?r1o2 (And.intro ?r1o3 (And.intro ?r1o4 (And.intro ?r1o5 (And.intro ?r1o6 (And.intro ?r1o7 (And.intro ?r1o8 (And.intro ?r1o9 (And.intro ?r1o10 (And.intro ?r1o11 (And.intro ?r1o12 (And.intro ?r1o13 (And.intro ?r1o14 (And.intro ?r1o15 (And.intro ?r1o16 (And.intro ?r1o17 (And.intro ?r1o18 (And.intro ?r1o19 (And.intro ?r1o20 (And.intro ?r1o21 (And.intro ?r1o22 (And.intro ?r1o23 (And.intro ?r1o24 (And.intro ?r1o25 (And.intro ?r1o26 (True.intro)))))))))))))))))))))))))))
    case r1o0 =>
      intro w1 hG
      refine turn_on (by rfl) ?_
      intro K hK
      obtain ⟨c0, c1, c2, c3, c4, c5, c6, c7, c8⟩ := cells9 ((hG.block w.heap.size hlt).trans hh)
      go_simp
      refine hK _ _ ⟨rfl, Kept.refl _, ?_⟩
      show _ = _
      simp only [List.getD_cons_zero, List.getD_cons_succ, Array.getD_eq_getD_getElem?, List.getElem?_toArray, List.getElem?_cons_zero, List.getElem?_cons_succ, Option.getD_some]
      rfl
    case r1o1 =>
      intro w1 hG
      intro v0 h0
      change _ = _ at h0
      subst h0
      refine turn_on (by rfl) ?_
      intro K hK
      simp only [List.getD_cons_zero, List.getD_cons_succ, List.setIfInBounds_toArray, List.set_cons_zero, List.set_cons_succ]
      go_simp
      refine Calls.mono (check_any _ _ _ _ _ _ _ _ _ _) ?_
      rintro e w2 ⟨rfl, hbx⟩
      refine hK _ _ ⟨rfl, hbx, ?_⟩
      show _ = _
      simp only [List.getD_cons_zero, List.getD_cons_succ, Array.getD_eq_getD_getElem?, List.getElem?_toArray, List.getElem?_cons_zero, List.getElem?_cons_succ, Option.getD_some]
      rfl
    case r1o2 =>
      intro w1 hG
      refine turn_on (by rfl) ?_
      intro K hK
      obtain ⟨c0, c1, c2, c3, c4, c5, c6, c7, c8⟩ := cells9 ((hG.block w.heap.size hlt).trans hh)
      go_simp
      refine hK _ _ ⟨rfl, Kept.refl _, ?_⟩
      show _ = _
      simp only [List.getD_cons_zero, List.getD_cons_succ, Array.getD_eq_getD_getElem?, List.getElem?_toArray, List.getElem?_cons_zero, List.getElem?_cons_succ, Option.getD_some]
      rfl
    case r1o3 =>
      intro w1 hG
      intro v2 h2
      change _ = _ at h2
      subst h2
      refine turn_on (by rfl) ?_
      intro K hK
      simp only [List.getD_cons_zero, List.getD_cons_succ, List.setIfInBounds_toArray, List.set_cons_zero, List.set_cons_succ]
      go_simp
      refine Calls.mono (refcheck_any _ _ _ _ _ _ _ _ _ _) ?_
      rintro e w2 ⟨rfl, hbx⟩
      refine hK _ _ ⟨rfl, hbx, ?_⟩
      show _ = _
      simp only [List.getD_cons_zero, List.getD_cons_succ, Array.getD_eq_getD_getElem?, List.getElem?_toArray, List.getElem?_cons_zero, List.getElem?_cons_succ, Option.getD_some]
      rfl
    case r1o4 =>
      intro w1 hG
      intro v1 h1
      change _ = _ at h1
      subst h1
      intro v3 h3
      change _ = _ at h3
      subst h3
      refine turn_on (by rfl) ?_
      intro K hK
      simp only [List.getD_cons_zero, List.getD_cons_succ, List.setIfInBounds_toArray, List.set_cons_zero, List.set_cons_succ]
      go_simp
      refine hK _ _ ⟨rfl, Kept.refl _, ?_⟩
      show _ = _
      simp only [List.getD_cons_zero, List.getD_cons_succ, Array.getD_eq_getD_getElem?, List.getElem?_toArray, List.getElem?_cons_zero, List.getElem?_cons_succ, Option.getD_some]
      rfl
    case r1o5 =>
      intro w1 hG
      intro v4 h4
      change _ = _ at h4
      subst h4
      refine turn_on (by rfl) ?_
      intro K hK
      simp only [List.getD_cons_zero, List.getD_cons_succ, List.setIfInBounds_toArray, List.set_cons_zero, List.set_cons_succ]
      go_simp
      refine hK _ _ ⟨rfl, Kept.refl _, ?_⟩
      show _ = _
      simp only [List.getD_cons_zero, List.getD_cons_succ, Array.getD_eq_getD_getElem?, List.getElem?_toArray, List.getElem?_cons_zero, List.getElem?_cons_succ, Option.getD_some]
      rfl
    case r1o6 =>
      intro w1 hG
      intro v5 h5
      change _ = _ at h5
      subst h5
      refine turn_on (by rfl) ?_
      intro K hK
      simp only [List.getD_cons_zero, List.getD_cons_succ, List.setIfInBounds_toArray, List.set_cons_zero, List.set_cons_succ]
      go_simp
      refine hK _ _ ⟨rfl, Kept.refl _, ?_⟩
      show _ = _
      simp only [List.getD_cons_zero, List.getD_cons_succ, Array.getD_eq_getD_getElem?, List.getElem?_toArray, List.getElem?_cons_zero, List.getElem?_cons_succ, Option.getD_some]
      rfl
    case r1o7 =>
      intro w1 hG
      intro v5 h5
      change _ = _ at h5
      subst h5
      refine turn_on (by rfl) ?_
      intro K hK
      simp only [List.getD_cons_zero, List.getD_cons_succ, List.setIfInBounds_toArray, List.set_cons_zero, List.set_cons_succ]
      go_simp
      refine hK _ _ ⟨rfl, Kept.refl _, ?_⟩
      show _ = _
      simp only [List.getD_cons_zero, List.getD_cons_succ, Array.getD_eq_getD_getElem?, List.getElem?_toArray, List.getElem?_cons_zero, List.getElem?_cons_succ, Option.getD_some]
      rfl
    case r1o8 =>
      intro w1 hG
      intro v5 h5
      change _ = _ at h5
      subst h5
      intro v6 h6
      change _ = _ at h6
      subst h6
      intro v7 h7
      change _ = _ at h7
      subst h7
      refine turn_on (by rfl) ?_
      intro K hK
      simp only [List.getD_cons_zero, List.getD_cons_succ, List.setIfInBounds_toArray, List.set_cons_zero, List.set_cons_succ]
      go_simp
      refine hK _ _ ⟨rfl, Kept.refl _, ?_⟩
      show _ = _
      simp only [List.getD_cons_zero, List.getD_cons_succ, Array.getD_eq_getD_getElem?, List.getElem?_toArray, List.getElem?_cons_zero, List.getElem?_cons_succ, Option.getD_some]
      rfl
    case r1o9 =>
      intro w1 hG
      intro v5 h5
      change _ = _ at h5
      subst h5
      intro v8 h8
      change _ = _ at h8
      subst h8
      refine turn_on (by rfl) ?_
      intro K hK
      simp only [List.getD_cons_zero, List.getD_cons_succ, List.setIfInBounds_toArray, List.set_cons_zero, List.set_cons_succ]
      go_simp
      refine hK _ _ ⟨rfl, Kept.refl _, ?_⟩
      show _ = _
      simp only [List.getD_cons_zero, List.getD_cons_succ, Array.getD_eq_getD_getElem?, List.getElem?_toArray, List.getElem?_cons_zero, List.getElem?_cons_succ, Option.getD_some]
      rfl
    case r1o10 =>
      intro w1 hG
      intro v9 h9
      change _ = _ at h9
      subst h9
      refine turn_on (by rfl) ?_
      intro K hK
      simp only [List.getD_cons_zero, List.getD_cons_succ, List.setIfInBounds_toArray, List.set_cons_zero, List.set_cons_succ]
      go_simp
      refine hK _ _ ⟨rfl, Kept.refl _, ?_⟩
      show _ = _
      simp only [List.getD_cons_zero, List.getD_cons_succ, Array.getD_eq_getD_getElem?, List.getElem?_toArray, List.getElem?_cons_zero, List.getElem?_cons_succ, Option.getD_some]
      rfl
    case r1o11 =>
      intro w1 hG
      intro v10 h10
      change _ = _ at h10
      subst h10
      refine turn_on (by rfl) ?_
      intro K hK
      simp only [List.getD_cons_zero, List.getD_cons_succ, List.setIfInBounds_toArray, List.set_cons_zero, List.set_cons_succ]
      go_simp
      refine hK _ _ ⟨rfl, Kept.refl _, ?_⟩
      show _ = _
      simp only [List.getD_cons_zero, List.getD_cons_succ, Array.getD_eq_getD_getElem?, List.getElem?_toArray, List.getElem?_cons_zero, List.getElem?_cons_succ, Option.getD_some]
      rfl
    case r1o12 =>
      intro w1 hG
      intro v10 h10
      change _ = _ at h10
      subst h10
      refine turn_on (by rfl) ?_
      intro K hK
      simp only [List.getD_cons_zero, List.getD_cons_succ, List.setIfInBounds_toArray, List.set_cons_zero, List.set_cons_succ]
      go_simp
      refine hK _ _ ⟨rfl, Kept.refl _, ?_⟩
      show _ = _
      simp only [List.getD_cons_zero, List.getD_cons_succ, Array.getD_eq_getD_getElem?, List.getElem?_toArray, List.getElem?_cons_zero, List.getElem?_cons_succ, Option.getD_some]
      rfl
    case r1o13 =>
      intro w1 hG
      intro v10 h10
      change _ = _ at h10
      subst h10
      intro v11 h11
      change _ = _ at h11
      subst h11
      intro v12 h12
      change _ = _ at h12
      subst h12
      refine turn_on (by rfl) ?_
      intro K hK
      simp only [List.getD_cons_zero, List.getD_cons_succ, List.setIfInBounds_toArray, List.set_cons_zero, List.set_cons_succ]
      go_simp
      refine hK _ _ ⟨rfl, Kept.refl _, ?_⟩
      show _ = _
      simp only [List.getD_cons_zero, List.getD_cons_succ, Array.getD_eq_getD_getElem?, List.getElem?_toArray, List.getElem?_cons_zero, List.getElem?_cons_succ, Option.getD_some]
      rfl
    case r1o14 =>
      intro w1 hG
      intro v10 h10
      change _ = _ at h10
      subst h10
      intro v13 h13
      change _ = _ at h13
      subst h13
      refine turn_on (by rfl) ?_
      intro K hK
      simp only [List.getD_cons_zero, List.getD_cons_succ, List.setIfInBounds_toArray, List.set_cons_zero, List.set_cons_succ]
      go_simp
      refine hK _ _ ⟨rfl, Kept.refl _, ?_⟩
      show _ = _
      simp only [List.getD_cons_zero, List.getD_cons_succ, Array.getD_eq_getD_getElem?, List.getElem?_toArray, List.getElem?_cons_zero, List.getElem?_cons_succ, Option.getD_some]
      rfl
    case r1o15 =>
      intro w1 hG
      intro v14 h14
      change _ = _ at h14
      subst h14
      refine turn_on (by rfl) ?_
      intro K hK
      simp only [List.getD_cons_zero, List.getD_cons_succ, List.setIfInBounds_toArray, List.set_cons_zero, List.set_cons_succ]
      go_simp
      refine hK _ _ ⟨rfl, Kept.refl _, ?_⟩
      show _ = _
      simp only [List.getD_cons_zero, List.getD_cons_succ, Array.getD_eq_getD_getElem?, List.getElem?_toArray, List.getElem?_cons_zero, List.getElem?_cons_succ, Option.getD_some]
      rfl
    case r1o16 =>
      intro w1 hG
      intro v15 h15
      change _ = _ at h15
      subst h15
      refine turn_on (by rfl) ?_
      intro K hK
      simp only [List.getD_cons_zero, List.getD_cons_succ, List.setIfInBounds_toArray, List.set_cons_zero, List.set_cons_succ]
      go_simp
      refine hK _ _ ⟨rfl, Kept.refl _, ?_⟩
      show _ = _
      simp only [List.getD_cons_zero, List.getD_cons_succ, Array.getD_eq_getD_getElem?, List.getElem?_toArray, List.getElem?_cons_zero, List.getElem?_cons_succ, Option.getD_some]
      rfl
    case r1o17 =>
      intro w1 hG
      intro v15 h15
      change _ = _ at h15
      subst h15
      refine turn_on (by rfl) ?_
      intro K hK
      simp only [List.getD_cons_zero, List.getD_cons_succ, List.setIfInBounds_toArray, List.set_cons_zero, List.set_cons_succ]
      go_simp
      refine hK _ _ ⟨rfl, Kept.refl _, ?_⟩
      show _ = _
      simp only [List.getD_cons_zero, List.getD_cons_succ, Array.getD_eq_getD_getElem?, List.getElem?_toArray, List.getElem?_cons_zero, List.getElem?_cons_succ, Option.getD_some]
      rfl
    case r1o18 =>
      intro w1 hG
      intro v15 h15
      change _ = _ at h15
      subst h15
      intro v16 h16
      change _ = _ at h16
      subst h16
      intro v17 h17
      change _ = _ at h17
      subst h17
      refine turn_on (by rfl) ?_
      intro K hK
      simp only [List.getD_cons_zero, List.getD_cons_succ, List.setIfInBounds_toArray, List.set_cons_zero, List.set_cons_succ]
      go_simp
      refine hK _ _ ⟨rfl, Kept.refl _, ?_⟩
      show _ = _
      simp only [List.getD_cons_zero, List.getD_cons_succ, Array.getD_eq_getD_getElem?, List.getElem?_toArray, List.getElem?_cons_zero, List.getElem?_cons_succ, Option.getD_some]
      rfl
    case r1o19 =>
      intro w1 hG
      intro v15 h15
      change _ = _ at h15
      subst h15
      intro v18 h18
      change _ = _ at h18
      subst h18
      refine turn_on (by rfl) ?_
      intro K hK
      simp only [List.getD_cons_zero, List.getD_cons_succ, List.setIfInBounds_toArray, List.set_cons_zero, List.set_cons_succ]
      go_simp
      refine hK _ _ ⟨rfl, Kept.refl _, ?_⟩
      show _ = _
      simp only [List.getD_cons_zero, List.getD_cons_succ, Array.getD_eq_getD_getElem?, List.getElem?_toArray, List.getElem?_cons_zero, List.getElem?_cons_succ, Option.getD_some]
      rfl
    case r1o20 =>
      intro w1 hG
      intro v19 h19
      change _ = _ at h19
      subst h19
      refine turn_on (by rfl) ?_
      intro K hK
      simp only [List.getD_cons_zero, List.getD_cons_succ, List.setIfInBounds_toArray, List.set_cons_zero, List.set_cons_succ]
      go_simp
      refine hK _ _ ⟨rfl, Kept.refl _, ?_⟩
      show _ = _
      simp only [List.getD_cons_zero, List.getD_cons_succ, Array.getD_eq_getD_getElem?, List.getElem?_toArray, List.getElem?_cons_zero, List.getElem?_cons_succ, Option.getD_some]
      rfl
    case r1o21 =>
      intro w1 hG
      intro v20 h20
      change _ = _ at h20
      subst h20
      refine turn_on (by rfl) ?_
      intro K hK
      simp only [List.getD_cons_zero, List.getD_cons_succ, List.setIfInBounds_toArray, List.set_cons_zero, List.set_cons_succ]
      obtain ⟨c0, c1, c2, c3, c4, c5, c6, c7, c8⟩ := cells9 ((hG.block w.heap.size hlt).trans hh)
      go_simp
      refine hK _ _ ⟨rfl, Kept.refl _, ?_⟩
      show _ = _
      simp only [List.getD_cons_zero, List.getD_cons_succ, Array.getD_eq_getD_getElem?, List.getElem?_toArray, List.getElem?_cons_zero, List.getElem?_cons_succ, Option.getD_some]
      rfl
    case r1o22 =>
      intro w1 hG
      intro v20 h20
      change _ = _ at h20
      subst h20
      intro v21 h21
      change _ = _ at h21
      subst h21
      refine turn_on (by rfl) ?_
      intro K hK
      simp only [List.getD_cons_zero, List.getD_cons_succ, List.setIfInBounds_toArray, List.set_cons_zero, List.set_cons_succ]
      go_simp
      refine Calls.mono (k_all _ _ _ _ _ _ _ _ _ _) ?_
      rintro e w2 ⟨rfl, hbx⟩
      refine hK _ _ ⟨rfl, hbx, ?_⟩
      show _ = _
      simp only [List.getD_cons_zero, List.getD_cons_succ, Array.getD_eq_getD_getElem?, List.getElem?_toArray, List.getElem?_cons_zero, List.getElem?_cons_succ, Option.getD_some]
      rfl
    case r1o23 =>
      intro w1 hG
      intro v20 h20
      change _ = _ at h20
      subst h20
      refine turn_on (by rfl) ?_
      intro K hK
      simp only [List.getD_cons_zero, List.getD_cons_succ, List.setIfInBounds_toArray, List.set_cons_zero, List.set_cons_succ]
      obtain ⟨c0, c1, c2, c3, c4, c5, c6, c7, c8⟩ := cells9 ((hG.block w.heap.size hlt).trans hh)
      go_simp
      refine hK _ _ ⟨rfl, Kept.refl _, ?_⟩
      show _ = _
      simp only [List.getD_cons_zero, List.getD_cons_succ, Array.getD_eq_getD_getElem?, List.getElem?_toArray, List.getElem?_cons_zero, List.getElem?_cons_succ, Option.getD_some]
      rfl
    case r1o24 =>
      intro w1 hG
      intro v20 h20
      change _ = _ at h20
      subst h20
      intro v23 h23
      change _ = _ at h23
      subst h23
      refine turn_on (by rfl) ?_
      intro K hK
      simp only [List.getD_cons_zero, List.getD_cons_succ, List.setIfInBounds_toArray, List.set_cons_zero, List.set_cons_succ]
      go_simp
      refine Calls.mono (refk_all _ _ _ _ _ _ _ _ _ _) ?_
      rintro e w2 ⟨rfl, hbx⟩
      refine hK _ _ ⟨rfl, hbx, ?_⟩
      show _ = _
      simp only [List.getD_cons_zero, List.getD_cons_succ, Array.getD_eq_getD_getElem?, List.getElem?_toArray, List.getElem?_cons_zero, List.getElem?_cons_succ, Option.getD_some]
      rfl
    case r1o25 =>
      intro w1 hG
      intro v20 h20
      change _ = _ at h20
      subst h20
      intro v22 h22
      change _ = _ at h22
      subst h22
      intro v24 h24
      change _ = _ at h24
      subst h24
      refine turn_on (by rfl) ?_
      intro K hK
      simp only [List.getD_cons_zero, List.getD_cons_succ, List.setIfInBounds_toArray, List.set_cons_zero, List.set_cons_succ]
      go_simp
      refine hK _ _ ⟨rfl, Kept.refl _, ?_⟩
      show _ = _
      simp only [List.getD_cons_zero, List.getD_cons_succ, Array.getD_eq_getD_getElem?, List.getElem?_toArray, List.getElem?_cons_zero, List.getElem?_cons_succ, Option.getD_some]
      rfl
    case r1o26 =>
      intro w1 hG
      intro v20 h20
      change _ = _ at h20
      subst h20
      intro v25 h25
      change _ = _ at h25
      subst h25
      refine turn_on (by rfl) ?_
      intro K hK
      simp only [List.getD_cons_zero, List.getD_cons_succ, List.setIfInBounds_toArray, List.set_cons_zero, List.set_cons_succ]
      go_simp
      refine hK _ _ ⟨rfl, Kept.refl _, ?_⟩
      show _ = _
      simp only [List.getD_cons_zero, List.getD_cons_succ, Array.getD_eq_getD_getElem?, List.getElem?_toArray, List.getElem?_cons_zero, List.getElem?_cons_succ, Option.getD_some]
      rfl
  intro w1 hG
  intro v0 h0
  change _ = _ at h0
  subst h0
  intro v1 h1
  change _ = _ at h1
  subst h1
  intro v2 h2
  change _ = _ at h2
  subst h2
  intro v3 h3
  change _ = _ at h3
  subst h3
  intro v4 h4
  change _ = _ at h4
  subst h4
  intro v5 h5
  change _ = _ at h5
  subst h5
  intro v6 h6
  change _ = _ at h6
  subst h6
  intro v7 h7
  change _ = _ at h7
  subst h7
  intro v8 h8
  change _ = _ at h8
  subst h8
  intro v9 h9
  change _ = _ at h9
  subst h9
  intro v10 h10
  change _ = _ at h10
  subst h10
  intro v11 h11
  change _ = _ at h11
  subst h11
  intro v12 h12
  change _ = _ at h12
  subst h12
  intro v13 h13
  change _ = _ at h13
  subst h13
  intro v14 h14
  change _ = _ at h14
  subst h14
  intro v15 h15
  change _ = _ at h15
  subst h15
  intro v16 h16
  change _ = _ at h16
  subst h16
  intro v17 h17
  change _ = _ at h17
  subst h17
  intro v18 h18
  change _ = _ at h18
  subst h18
  intro v19 h19
  change _ = _ at h19
  subst h19
  intro v20 h20
  change _ = _ at h20
  subst h20
  intro v21 h21
  change _ = _ at h21
  subst h21
  intro v22 h22
  change _ = _ at h22
  subst h22
  intro v23 h23
  change _ = _ at h23
  subst h23
  intro v24 h24
  change _ = _ at h24
  subst h24
  intro v25 h25
  change _ = _ at h25
  subst h25
  intro v26 h26
  change _ = _ at h26
  subst h26
  simp only [Given, List.getD_cons_zero, List.getD_cons_succ, List.setIfInBounds_toArray, List.set_cons_zero, List.set_cons_succ]
  replace hh := (hG.block w.heap.size hlt).trans hh
  replace hB := hB.drew.trans (Below.mono hG hB.size)
  clear hlt
  obtain ⟨c0, c1, c2, c3, c4, c5, c6, c7, c8⟩ := cells9 hh
  go_wp2_with (first | (go_at_call 13; refine (refcheck_any _ _ _ _ _ _ _ _ _ _).mono ?_; rintro e w4 ⟨rfl, hb4⟩; replace hh := kept_row hh hb4; replace hB := hB.trans (hb4.mono hB.size); clear c0 c1 c2 c3 c4 c5 c6 c7 c8; obtain ⟨c0, c1, c2, c3, c4, c5, c6, c7, c8⟩ := cells9 hh) | (go_at_call 15; refine (journal_any _ _ _ _ _ _ _ _ _ _).mono ?_; rintro e w5 ⟨rfl, hb5⟩; replace hh := kept_row hh hb5; replace hB := hB.trans (hb5.mono hB.size); clear c0 c1 c2 c3 c4 c5 c6 c7 c8; obtain ⟨c0, c1, c2, c3, c4, c5, c6, c7, c8⟩ := cells9 hh) | (go_at_call 16; refine (refjournal_any _ _ _ _ _ _ _ _ _ _).mono ?_; rintro e w6 ⟨rfl, hb6⟩; replace hh := kept_row hh hb6; replace hB := hB.trans (hb6.mono hB.size); clear c0 c1 c2 c3 c4 c5 c6 c7 c8; obtain ⟨c0, c1, c2, c3, c4, c5, c6, c7, c8⟩ := cells9 hh))
  go_ret
  exact ⟨rfl, hB⟩

set_option linter.unusedSimpArgs false in
set_option linter.unusedVariables false in
set_option maxHeartbeats 2000000 in
theorem shapes_far (a0 a1 a2 a3 a4 a5 a6 a7 a8 k s b : Int) (w : World) (hp : chkB a0 a1 a2 a3 a4 a5 a6 a7 a8 = true) (hb : 1099511627776 < b) :
    Calls Try.prog 4 #[.agg #[.int .i64 a0, .int .i64 a1, .int .i64 a2, .int .i64 a3, .int .i64 a4, .int .i64 a5, .int .i64 a6, .int .i64 a7, .int .i64 a8], .int .i64 k, .int .i64 s, .int .i64 b] w fun e w' => e = .returned (.bool true) ∧ Below w.heap.size w w' := by
  have hc : chkN a0 a1 a2 a3 a4 a5 a6 a7 a8 = 0 := by unfold chkN; rw [hp]; rfl
  go_enter Try.func4, Try.ntmps4
  go_wp2_with (first | (go_at_call 7; refine (known6 _).mono ?_; rintro e w1 ⟨rfl, hb1⟩; have hh := kept_row (heap_alloc_new w _) hb1; have hB := ((Below.refl w.heap.size w).alloc (Nat.le_refl _) (.cells #[.int .i64 a0, .int .i64 a1, .int .i64 a2, .int .i64 a3, .int .i64 a4, .int .i64 a5, .int .i64 a6, .int .i64 a7, .int .i64 a8] 23)).trans (hb1.mono (by simp)); obtain ⟨c0, c1, c2, c3, c4, c5, c6, c7, c8⟩ := cells9 hh) | (go_at_call 11; refine (segment_all _ _ _ _ _ _ _ _ _ _ _).mono ?_; rintro e w2 ⟨rfl, hb2⟩; replace hh := kept_row hh hb2; replace hB := hB.trans (hb2.mono hB.size); clear c0 c1 c2 c3 c4 c5 c6 c7 c8; obtain ⟨c0, c1, c2, c3, c4, c5, c6, c7, c8⟩ := cells9 hh) | (go_at_call 12; refine (refsegment_all _ _ _ _ _ _ _ _ _ _ _).mono ?_; rintro e w3 ⟨rfl, hb3⟩; replace hh := kept_row hh hb3; replace hB := hB.trans (hb3.mono hB.size); clear c0 c1 c2 c3 c4 c5 c6 c7 c8; obtain ⟨c0, c1, c2, c3, c4, c5, c6, c7, c8⟩ := cells9 hh))
  clear c0 c1 c2 c3 c4 c5 c6 c7 c8
  have hlt := (Array.getElem?_eq_some_iff.1 hh).1
  refine' reg_free (G := Kept) (pickF [eqV _, eqV _, eqV _, eqV _, eqV _, eqV _, eqV _, eqV _, eqV _, eqV _, eqV _, eqV _, eqV _, eqV _, eqV _, eqV _, eqV _, eqV _, eqV _, eqV _, eqV _, eqV _, eqV _, eqV _, eqV _, eqV _, eqV _]) [35, 36, 37, 38, 39, 40, 41, 42, 43, 44, 45, 46, 47, 48, 49, 50, 51, 52, 53, 54, 55, 56, 57, 58, 59, 60, 61] [[], [0], [], [2], [1, 3], [4], [5], [5], [5, 6, 7], [5, 8], [9], [10], [10], [10, 11, 12], [10, 13], [14], [15], [15], [15, 16, 17], [15, 18], [19], [20], [20, 21], [20], [20, 23], [20, 22, 24], [20, 25]] [0, 1, 2, 3, 4, 5, 6, 7, 8, 9, 10, 11, 12, 13, 14, 15, 16, 17, 18, 19, 20, 21, 22, 23, 24, 25, 26] (by kernel_rfl) Kept.refl Kept.trans (pick_stays ⟨eqV_stays _, eqV_stays _, eqV_stays _, eqV_stays _, eqV_stays _, eqV_stays _, eqV_stays _, eqV_stays _, eqV_stays _, eqV_stays _, eqV_stays _, eqV_stays _, eqV_stays _, eqV_stays _, eqV_stays _, eqV_stays _, eqV_stays _, eqV_stays _, eqV_stays _, eqV_stays _, eqV_stays _, eqV_stays _, eqV_stays _, eqV_stays _, eqV_stays _, eqV_stays _, eqV_stays _, trivial⟩) 112 rfl (by kernel_rfl) (by kernel_rfl) rfl rfl ?r1obl ?r1fin
  case r1obl =>
    refine And.intro ?r1o0 (And.intro ?r1o1 (And.intro ?r1o2 (And.intro ?r1o3 (And.intro ?r1o4 (And.intro ?r1o5 (And.intro ?r1o6 (And.intro ?r1o7 (And.intro ?r1o8 (And.intro ?r1o9 (And.intro ?r1o10 (And.intro ?r1o11 (And.intro ?r1o12 (And.intro ?r1o13 (And.intro ?r1o14 (And.intro ?r1o15 (And.intro ?r1o16 (And.intro ?r1o17 (And.intro ?r1o18 (And.intro ?r1o19 (And.intro ?r1o20 (And.intro ?r1o21 (And.intro ?r1o22 (And.intro ?r1o23 (And.intro ?r1o24 (And.intro ?r1o25 (And.intro ?r1o26 (True.intro)))))))))))))))))))))))))))
    case r1o0 =>
      intro w1 hG
      refine turn_on (by rfl) ?_
      intro K hK
      obtain ⟨c0, c1, c2, c3, c4, c5, c6, c7, c8⟩ := cells9 ((hG.block w.heap.size hlt).trans hh)
      go_simp
      refine hK _ _ ⟨rfl, Kept.refl _, ?_⟩
      show _ = _
      simp only [List.getD_cons_zero, List.getD_cons_succ, Array.getD_eq_getD_getElem?, List.getElem?_toArray, List.getElem?_cons_zero, List.getElem?_cons_succ, Option.getD_some]
      rfl
    case r1o1 =>
      intro w1 hG
      intro v0 h0
      change _ = _ at h0
      subst h0
      refine turn_on (by rfl) ?_
      intro K hK
      simp only [List.getD_cons_zero, List.getD_cons_succ, List.setIfInBounds_toArray, List.set_cons_zero, List.set_cons_succ]
      go_simp
      refine Calls.mono (check_any _ _ _ _ _ _ _ _ _ _) ?_
      rintro e w2 ⟨rfl, hbx⟩
      refine hK _ _ ⟨rfl, hbx, ?_⟩
      show _ = _
      simp only [List.getD_cons_zero, List.getD_cons_succ, Array.getD_eq_getD_getElem?, List.getElem?_toArray, List.getElem?_cons_zero, List.getElem?_cons_succ, Option.getD_some]
      rfl
    case r1o2 =>
      intro w1 hG
      refine turn_on (by rfl) ?_
      intro K hK
      obtain ⟨c0, c1, c2, c3, c4, c5, c6, c7, c8⟩ := cells9 ((hG.block w.heap.size hlt).trans hh)
      go_simp
      refine hK _ _ ⟨rfl, Kept.refl _, ?_⟩
      show _ = _
      simp only [List.getD_cons_zero, List.getD_cons_succ, Array.getD_eq_getD_getElem?, List.getElem?_toArray, List.getElem?_cons_zero, List.getElem?_cons_succ, Option.getD_some]
      rfl
    case r1o3 =>
      intro w1 hG
      intro v2 h2
      change _ = _ at h2
      subst h2
      refine turn_on (by rfl) ?_
      intro K hK
      simp only [List.getD_cons_zero, List.getD_cons_succ, List.setIfInBounds_toArray, List.set_cons_zero, List.set_cons_succ]
      go_simp
      refine Calls.mono (refcheck_any _ _ _ _ _ _ _ _ _ _) ?_
      rintro e w2 ⟨rfl, hbx⟩
      refine hK _ _ ⟨rfl, hbx, ?_⟩
      show _ = _
      simp only [List.getD_cons_zero, List.getD_cons_succ, Array.getD_eq_getD_getElem?, List.getElem?_toArray, List.getElem?_cons_zero, List.getElem?_cons_succ, Option.getD_some]
      rfl
    case r1o4 =>
      intro w1 hG
      intro v1 h1
      change _ = _ at h1
      subst h1
      intro v3 h3
      change _ = _ at h3
      subst h3
      refine turn_on (by rfl) ?_
      intro K hK
      simp only [List.getD_cons_zero, List.getD_cons_succ, List.setIfInBounds_toArray, List.set_cons_zero, List.set_cons_succ]
      go_simp
      refine hK _ _ ⟨rfl, Kept.refl _, ?_⟩
      show _ = _
      simp only [List.getD_cons_zero, List.getD_cons_succ, Array.getD_eq_getD_getElem?, List.getElem?_toArray, List.getElem?_cons_zero, List.getElem?_cons_succ, Option.getD_some]
      rfl
    case r1o5 =>
      intro w1 hG
      intro v4 h4
      change _ = _ at h4
      subst h4
      refine turn_on (by rfl) ?_
      intro K hK
      simp only [List.getD_cons_zero, List.getD_cons_succ, List.setIfInBounds_toArray, List.set_cons_zero, List.set_cons_succ]
      go_simp
      refine hK _ _ ⟨rfl, Kept.refl _, ?_⟩
      show _ = _
      simp only [List.getD_cons_zero, List.getD_cons_succ, Array.getD_eq_getD_getElem?, List.getElem?_toArray, List.getElem?_cons_zero, List.getElem?_cons_succ, Option.getD_some]
      rfl
    case r1o6 =>
      intro w1 hG
      intro v5 h5
      change _ = _ at h5
      subst h5
      refine turn_on (by rfl) ?_
      intro K hK
      simp only [List.getD_cons_zero, List.getD_cons_succ, List.setIfInBounds_toArray, List.set_cons_zero, List.set_cons_succ]
      go_simp
      refine hK _ _ ⟨rfl, Kept.refl _, ?_⟩
      show _ = _
      simp only [List.getD_cons_zero, List.getD_cons_succ, Array.getD_eq_getD_getElem?, List.getElem?_toArray, List.getElem?_cons_zero, List.getElem?_cons_succ, Option.getD_some]
      rfl
    case r1o7 =>
      intro w1 hG
      intro v5 h5
      change _ = _ at h5
      subst h5
      refine turn_on (by rfl) ?_
      intro K hK
      simp only [List.getD_cons_zero, List.getD_cons_succ, List.setIfInBounds_toArray, List.set_cons_zero, List.set_cons_succ]
      go_simp
      refine hK _ _ ⟨rfl, Kept.refl _, ?_⟩
      show _ = _
      simp only [List.getD_cons_zero, List.getD_cons_succ, Array.getD_eq_getD_getElem?, List.getElem?_toArray, List.getElem?_cons_zero, List.getElem?_cons_succ, Option.getD_some]
      rfl
    case r1o8 =>
      intro w1 hG
      intro v5 h5
      change _ = _ at h5
      subst h5
      intro v6 h6
      change _ = _ at h6
      subst h6
      intro v7 h7
      change _ = _ at h7
      subst h7
      refine turn_on (by rfl) ?_
      intro K hK
      simp only [List.getD_cons_zero, List.getD_cons_succ, List.setIfInBounds_toArray, List.set_cons_zero, List.set_cons_succ]
      go_simp
      refine hK _ _ ⟨rfl, Kept.refl _, ?_⟩
      show _ = _
      simp only [List.getD_cons_zero, List.getD_cons_succ, Array.getD_eq_getD_getElem?, List.getElem?_toArray, List.getElem?_cons_zero, List.getElem?_cons_succ, Option.getD_some]
      rfl
    case r1o9 =>
      intro w1 hG
      intro v5 h5
      change _ = _ at h5
      subst h5
      intro v8 h8
      change _ = _ at h8
      subst h8
      refine turn_on (by rfl) ?_
      intro K hK
      simp only [List.getD_cons_zero, List.getD_cons_succ, List.setIfInBounds_toArray, List.set_cons_zero, List.set_cons_succ]
      go_simp
      refine hK _ _ ⟨rfl, Kept.refl _, ?_⟩
      show _ = _
      simp only [List.getD_cons_zero, List.getD_cons_succ, Array.getD_eq_getD_getElem?, List.getElem?_toArray, List.getElem?_cons_zero, List.getElem?_cons_succ, Option.getD_some]
      rfl
    case r1o10 =>
      intro w1 hG
      intro v9 h9
      change _ = _ at h9
      subst h9
      refine turn_on (by rfl) ?_
      intro K hK
      simp only [List.getD_cons_zero, List.getD_cons_succ, List.setIfInBounds_toArray, List.set_cons_zero, List.set_cons_succ]
      go_simp
      refine hK _ _ ⟨rfl, Kept.refl _, ?_⟩
      show _ = _
      simp only [List.getD_cons_zero, List.getD_cons_succ, Array.getD_eq_getD_getElem?, List.getElem?_toArray, List.getElem?_cons_zero, List.getElem?_cons_succ, Option.getD_some]
      rfl
    case r1o11 =>
      intro w1 hG
      intro v10 h10
      change _ = _ at h10
      subst h10
      refine turn_on (by rfl) ?_
      intro K hK
      simp only [List.getD_cons_zero, List.getD_cons_succ, List.setIfInBounds_toArray, List.set_cons_zero, List.set_cons_succ]
      go_simp
      refine hK _ _ ⟨rfl, Kept.refl _, ?_⟩
      show _ = _
      simp only [List.getD_cons_zero, List.getD_cons_succ, Array.getD_eq_getD_getElem?, List.getElem?_toArray, List.getElem?_cons_zero, List.getElem?_cons_succ, Option.getD_some]
      rfl
    case r1o12 =>
      intro w1 hG
      intro v10 h10
      change _ = _ at h10
      subst h10
      refine turn_on (by rfl) ?_
      intro K hK
      simp only [List.getD_cons_zero, List.getD_cons_succ, List.setIfInBounds_toArray, List.set_cons_zero, List.set_cons_succ]
      go_simp
      refine hK _ _ ⟨rfl, Kept.refl _, ?_⟩
      show _ = _
      simp only [List.getD_cons_zero, List.getD_cons_succ, Array.getD_eq_getD_getElem?, List.getElem?_toArray, List.getElem?_cons_zero, List.getElem?_cons_succ, Option.getD_some]
      rfl
    case r1o13 =>
      intro w1 hG
      intro v10 h10
      change _ = _ at h10
      subst h10
      intro v11 h11
      change _ = _ at h11
      subst h11
      intro v12 h12
      change _ = _ at h12
      subst h12
      refine turn_on (by rfl) ?_
      intro K hK
      simp only [List.getD_cons_zero, List.getD_cons_succ, List.setIfInBounds_toArray, List.set_cons_zero, List.set_cons_succ]
      go_simp
      refine hK _ _ ⟨rfl, Kept.refl _, ?_⟩
      show _ = _
      simp only [List.getD_cons_zero, List.getD_cons_succ, Array.getD_eq_getD_getElem?, List.getElem?_toArray, List.getElem?_cons_zero, List.getElem?_cons_succ, Option.getD_some]
      rfl
    case r1o14 =>
      intro w1 hG
      intro v10 h10
      change _ = _ at h10
      subst h10
      intro v13 h13
      change _ = _ at h13
      subst h13
      refine turn_on (by rfl) ?_
      intro K hK
      simp only [List.getD_cons_zero, List.getD_cons_succ, List.setIfInBounds_toArray, List.set_cons_zero, List.set_cons_succ]
      go_simp
      refine hK _ _ ⟨rfl, Kept.refl _, ?_⟩
      show _ = _
      simp only [List.getD_cons_zero, List.getD_cons_succ, Array.getD_eq_getD_getElem?, List.getElem?_toArray, List.getElem?_cons_zero, List.getElem?_cons_succ, Option.getD_some]
      rfl
    case r1o15 =>
      intro w1 hG
      intro v14 h14
      change _ = _ at h14
      subst h14
      refine turn_on (by rfl) ?_
      intro K hK
      simp only [List.getD_cons_zero, List.getD_cons_succ, List.setIfInBounds_toArray, List.set_cons_zero, List.set_cons_succ]
      go_simp
      refine hK _ _ ⟨rfl, Kept.refl _, ?_⟩
      show _ = _
      simp only [List.getD_cons_zero, List.getD_cons_succ, Array.getD_eq_getD_getElem?, List.getElem?_toArray, List.getElem?_cons_zero, List.getElem?_cons_succ, Option.getD_some]
      rfl
    case r1o16 =>
      intro w1 hG
      intro v15 h15
      change _ = _ at h15
      subst h15
      refine turn_on (by rfl) ?_
      intro K hK
      simp only [List.getD_cons_zero, List.getD_cons_succ, List.setIfInBounds_toArray, List.set_cons_zero, List.set_cons_succ]
      go_simp
      refine hK _ _ ⟨rfl, Kept.refl _, ?_⟩
      show _ = _
      simp only [List.getD_cons_zero, List.getD_cons_succ, Array.getD_eq_getD_getElem?, List.getElem?_toArray, List.getElem?_cons_zero, List.getElem?_cons_succ, Option.getD_some]
      rfl
    case r1o17 =>
      intro w1 hG
      intro v15 h15
      change _ = _ at h15
      subst h15
      refine turn_on (by rfl) ?_
      intro K hK
      simp only [List.getD_cons_zero, List.getD_cons_succ, List.setIfInBounds_toArray, List.set_cons_zero, List.set_cons_succ]
      go_simp
      refine hK _ _ ⟨rfl, Kept.refl _, ?_⟩
      show _ = _
      simp only [List.getD_cons_zero, List.getD_cons_succ, Array.getD_eq_getD_getElem?, List.getElem?_toArray, List.getElem?_cons_zero, List.getElem?_cons_succ, Option.getD_some]
      rfl
    case r1o18 =>
      intro w1 hG
      intro v15 h15
      change _ = _ at h15
      subst h15
      intro v16 h16
      change _ = _ at h16
      subst h16
      intro v17 h17
      change _ = _ at h17
      subst h17
      refine turn_on (by rfl) ?_
      intro K hK
      simp only [List.getD_cons_zero, List.getD_cons_succ, List.setIfInBounds_toArray, List.set_cons_zero, List.set_cons_succ]
      go_simp
      refine hK _ _ ⟨rfl, Kept.refl _, ?_⟩
      show _ = _
      simp only [List.getD_cons_zero, List.getD_cons_succ, Array.getD_eq_getD_getElem?, List.getElem?_toArray, List.getElem?_cons_zero, List.getElem?_cons_succ, Option.getD_some]
      rfl
    case r1o19 =>
      intro w1 hG
      intro v15 h15
      change _ = _ at h15
      subst h15
      intro v18 h18
      change _ = _ at h18
      subst h18
      refine turn_on (by rfl) ?_
      intro K hK
      simp only [List.getD_cons_zero, List.getD_cons_succ, List.setIfInBounds_toArray, List.set_cons_zero, List.set_cons_succ]
      go_simp
      refine hK _ _ ⟨rfl, Kept.refl _, ?_⟩
      show _ = _
      simp only [List.getD_cons_zero, List.getD_cons_succ, Array.getD_eq_getD_getElem?, List.getElem?_toArray, List.getElem?_cons_zero, List.getElem?_cons_succ, Option.getD_some]
      rfl
    case r1o20 =>
      intro w1 hG
      intro v19 h19
      change _ = _ at h19
      subst h19
      refine turn_on (by rfl) ?_
      intro K hK
      simp only [List.getD_cons_zero, List.getD_cons_succ, List.setIfInBounds_toArray, List.set_cons_zero, List.set_cons_succ]
      go_simp
      refine hK _ _ ⟨rfl, Kept.refl _, ?_⟩
      show _ = _
      simp only [List.getD_cons_zero, List.getD_cons_succ, Array.getD_eq_getD_getElem?, List.getElem?_toArray, List.getElem?_cons_zero, List.getElem?_cons_succ, Option.getD_some]
      rfl
    case r1o21 =>
      intro w1 hG
      intro v20 h20
      change _ = _ at h20
      subst h20
      refine turn_on (by rfl) ?_
      intro K hK
      simp only [List.getD_cons_zero, List.getD_cons_succ, List.setIfInBounds_toArray, List.set_cons_zero, List.set_cons_succ]
      obtain ⟨c0, c1, c2, c3, c4, c5, c6, c7, c8⟩ := cells9 ((hG.block w.heap.size hlt).trans hh)
      go_simp
      refine hK _ _ ⟨rfl, Kept.refl _, ?_⟩
      show _ = _
      simp only [List.getD_cons_zero, List.getD_cons_succ, Array.getD_eq_getD_getElem?, List.getElem?_toArray, List.getElem?_cons_zero, List.getElem?_cons_succ, Option.getD_some]
      rfl
    case r1o22 =>
      intro w1 hG
      intro v20 h20
      change _ = _ at h20
      subst h20
      intro v21 h21
      change _ = _ at h21
      subst h21
      refine turn_on (by rfl) ?_
      intro K hK
      simp only [List.getD_cons_zero, List.getD_cons_succ, List.setIfInBounds_toArray, List.set_cons_zero, List.set_cons_succ]
      go_simp
      refine Calls.mono (k_all _ _ _ _ _ _ _ _ _ _) ?_
      rintro e w2 ⟨rfl, hbx⟩
      refine hK _ _ ⟨rfl, hbx, ?_⟩
      show _ = _
      simp only [List.getD_cons_zero, List.getD_cons_succ, Array.getD_eq_getD_getElem?, List.getElem?_toArray, List.getElem?_cons_zero, List.getElem?_cons_succ, Option.getD_some]
      rfl
    case r1o23 =>
      intro w1 hG
      intro v20 h20
      change _ = _ at h20
      subst h20
      refine turn_on (by rfl) ?_
      intro K hK
      simp only [List.getD_cons_zero, List.getD_cons_succ, List.setIfInBounds_toArray, List.set_cons_zero, List.set_cons_succ]
      obtain ⟨c0, c1, c2, c3, c4, c5, c6, c7, c8⟩ := cells9 ((hG.block w.heap.size hlt).trans hh)
      go_simp
      refine hK _ _ ⟨rfl, Kept.refl _, ?_⟩
      show _ = _
      simp only [List.getD_cons_zero, List.getD_cons_succ, Array.getD_eq_getD_getElem?, List.getElem?_toArray, List.getElem?_cons_zero, List.getElem?_cons_succ, Option.getD_some]
      rfl
    case r1o24 =>
      intro w1 hG
      intro v20 h20
      change _ = _ at h20
      subst h20
      intro v23 h23
      change _ = _ at h23
      subst h23
      refine turn_on (by rfl) ?_
      intro K hK
      simp only [List.getD_cons_zero, List.getD_cons_succ, List.setIfInBounds_toArray, List.set_cons_zero, List.set_cons_succ]
      go_simp
      refine Calls.mono (refk_all _ _ _ _ _ _ _ _ _ _) ?_
      rintro e w2 ⟨rfl, hbx⟩
      refine hK _ _ ⟨rfl, hbx, ?_⟩
      show _ = _
      simp only [List.getD_cons_zero, List.getD_cons_succ, Array.getD_eq_getD_getElem?, List.getElem?_toArray, List.getElem?_cons_zero, List.getElem?_cons_succ, Option.getD_some]
      rfl
    case r1o25 =>
      intro w1 hG
      intro v20 h20
      change _ = _ at h20
      subst h20
      intro v22 h22
      change _ = _ at h22
      subst h22
      intro v24 h24
      change _ = _ at h24
      subst h24
      refine turn_on (by rfl) ?_
      intro K hK
      simp only [List.getD_cons_zero, List.getD_cons_succ, List.setIfInBounds_toArray, List.set_cons_zero, List.set_cons_succ]
      go_simp
      refine hK _ _ ⟨rfl, Kept.refl _, ?_⟩
      show _ = _
      simp only [List.getD_cons_zero, List.getD_cons_succ, Array.getD_eq_getD_getElem?, List.getElem?_toArray, List.getElem?_cons_zero, List.getElem?_cons_succ, Option.getD_some]
      rfl
    case r1o26 =>
      intro w1 hG
      intro v20 h20
      change _ = _ at h20
      subst h20
      intro v25 h25
      change _ = _ at h25
      subst h25
      refine turn_on (by rfl) ?_
      intro K hK
      simp only [List.getD_cons_zero, List.getD_cons_succ, List.setIfInBounds_toArray, List.set_cons_zero, List.set_cons_succ]
      go_simp
      refine hK _ _ ⟨rfl, Kept.refl _, ?_⟩
      show _ = _
      simp only [List.getD_cons_zero, List.getD_cons_succ, Array.getD_eq_getD_getElem?, List.getElem?_toArray, List.getElem?_cons_zero, List.getElem?_cons_succ, Option.getD_some]
      rfl
  intro w1 hG
  intro v0 h0
  change _ = _ at h0
  subst h0
  intro v1 h1
  change _ = _ at h1
  subst h1
  intro v2 h2
  change _ = _ at h2
  subst h2
  intro v3 h3
  change _ = _ at h3
  subst h3
  intro v4 h4
  change _ = _ at h4
  subst h4
  intro v5 h5
  change _ = _ at h5
  subst h5
  intro v6 h6
  change _ = _ at h6
  subst h6
  intro v7 h7
  change _ = _ at h7
  subst h7
  intro v8 h8
  change _ = _ at h8
  subst h8
  intro v9 h9
  change _ = _ at h9
  subst h9
  intro v10 h10
  change _ = _ at h10
  subst h10
  intro v11 h11
  change _ = _ at h11
  subst h11
  intro v12 h12
  change _ = _ at h12
  subst h12
  intro v13 h13
  change _ = _ at h13
  subst h13
  intro v14 h14
  change _ = _ at h14
  subst h14
  intro v15 h15
  change _ = _ at h15
  subst h15
  intro v16 h16
  change _ = _ at h16
  subst h16
  intro v17 h17
  change _ = _ at h17
  subst h17
  intro v18 h18
  change _ = _ at h18
  subst h18
  intro v19 h19
  change _ = _ at h19
  subst h19
  intro v20 h20
  change _ = _ at h20
  subst h20
  intro v21 h21
  change _ = _ at h21
  subst h21
  intro v22 h22
  change _ = _ at h22
  subst h22
  intro v23 h23
  change _ = _ at h23
  subst h23
  intro v24 h24
  change _ = _ at h24
  subst h24
  intro v25 h25
  change _ = _ at h25
  subst h25
  intro v26 h26
  change _ = _ at h26
  subst h26
  simp only [Given, List.getD_cons_zero, List.getD_cons_succ, List.setIfInBounds_toArray, List.set_cons_zero, List.set_cons_succ]
  replace hh := (hG.block w.heap.size hlt).trans hh
  replace hB := hB.drew.trans (Below.mono hG hB.size)
  clear hlt
  obtain ⟨c0, c1, c2, c3, c4, c5, c6, c7, c8⟩ := cells9 hh
  go_wp2_with (first | (go_at_call 13; refine (refcheck_any _ _ _ _ _ _ _ _ _ _).mono ?_; rintro e w4 ⟨rfl, hb4⟩; replace hh := kept_row hh hb4; replace hB := hB.trans (hb4.mono hB.size); clear c0 c1 c2 c3 c4 c5 c6 c7 c8; obtain ⟨c0, c1, c2, c3, c4, c5, c6, c7, c8⟩ := cells9 hh) | (go_at_call 15; refine (journal_any _ _ _ _ _ _ _ _ _ _).mono ?_; rintro e w5 ⟨rfl, hb5⟩; replace hh := kept_row hh hb5; replace hB := hB.trans (hb5.mono hB.size); clear c0 c1 c2 c3 c4 c5 c6 c7 c8; obtain ⟨c0, c1, c2, c3, c4, c5, c6, c7, c8⟩ := cells9 hh) | (go_at_call 16; refine (refjournal_any _ _ _ _ _ _ _ _ _ _).mono ?_; rintro e w6 ⟨rfl, hb6⟩; replace hh := kept_row hh hb6; replace hB := hB.trans (hb6.mono hB.size); clear c0 c1 c2 c3 c4 c5 c6 c7 c8; obtain ⟨c0, c1, c2, c3, c4, c5, c6, c7, c8⟩ := cells9 hh))
  go_ret
  exact ⟨rfl, hB⟩

set_option linter.unusedSimpArgs false in
set_option linter.unusedVariables false in
set_option maxHeartbeats 2000000 in
theorem shapes_ok (a0 a1 a2 a3 a4 a5 a6 a7 a8 k s b : Int) (w : World) (hp : chkB a0 a1 a2 a3 a4 a5 a6 a7 a8 = true) (hb : b ≤ 1099511627776) (hs1 : s ≤ 9223372036854775807) (hs2 : -9223372036854775808 ≤ s) :
    Calls Try.prog 4 #[.agg #[.int .i64 a0, .int .i64 a1, .int .i64 a2, .int .i64 a3, .int .i64 a4, .int .i64 a5, .int .i64 a6, .int .i64 a7, .int .i64 a8], .int .i64 k, .int .i64 s, .int .i64 b] w fun e w' => e = .returned (.bool true) ∧ Below w.heap.size w w' := by
  have hc : chkN a0 a1 a2 a3 a4 a5 a6 a7 a8 = 0 := by unfold chkN; rw [hp]; rfl
  obtain ⟨b0, b1, b2, b3, b4, hs, hb4, hc'⟩ := of_chk hp
  clear hs hb4 hc' b4
  go_enter Try.func4, Try.ntmps4
  go_wp2_with (first | (go_at_call 7; refine (known6 _).mono ?_; rintro e w1 ⟨rfl, hb1⟩; have hh := kept_row (heap_alloc_new w _) hb1; have hB := ((Below.refl w.heap.size w).alloc (Nat.le_refl _) (.cells #[.int .i64 a0, .int .i64 a1, .int .i64 a2, .int .i64 a3, .int .i64 a4, .int .i64 a5, .int .i64 a6, .int .i64 a7, .int .i64 a8] 23)).trans (hb1.mono (by simp)); obtain ⟨c0, c1, c2, c3, c4, c5, c6, c7, c8⟩ := cells9 hh) | (go_at_call 11; refine (segment_all _ _ _ _ _ _ _ _ _ _ _).mono ?_; rintro e w2 ⟨rfl, hb2⟩; replace hh := kept_row hh hb2; replace hB := hB.trans (hb2.mono hB.size); clear c0 c1 c2 c3 c4 c5 c6 c7 c8; obtain ⟨c0, c1, c2, c3, c4, c5, c6, c7, c8⟩ := cells9 hh) | (go_at_call 12; refine (refsegment_all _ _ _ _ _ _ _ _ _ _ _).mono ?_; rintro e w3 ⟨rfl, hb3⟩; replace hh := kept_row hh hb3; replace hB := hB.trans (hb3.mono hB.size); clear c0 c1 c2 c3 c4 c5 c6 c7 c8; obtain ⟨c0, c1, c2, c3, c4, c5, c6, c7, c8⟩ := cells9 hh))
  clear c0 c1 c2 c3 c4 c5 c6 c7 c8
  have hlt := (Array.getElem?_eq_some_iff.1 hh).1
  refine' reg_free (G := Kept) (pickF [eqV _, eqV _, eqV _, eqV _, eqV _, eqV _, eqV _, eqV _, eqV _, eqV _, eqV _, eqV _, eqV _, eqV _, eqV _, eqV _, eqV _, eqV _, eqV _, eqV _, eqV _, eqV _, eqV _, eqV _, eqV _, eqV _, eqV _]) [35, 36, 37, 38, 39, 40, 41, 42, 43, 44, 45, 46, 47, 48, 49, 50, 51, 52, 53, 54, 55, 56, 57, 58, 59, 60, 61] [[], [0], [], [2], [1, 3], [4], [5], [5], [5, 6, 7], [5, 8], [9], [10], [10], [10, 11, 12], [10, 13], [14], [15], [15], [15, 16, 17], [15, 18], [19], [20], [20, 21], [20], [20, 23], [20, 22, 24], [20, 25]] [0, 1, 2, 3, 4, 5, 6, 7, 8, 9, 10, 11, 12, 13, 14, 15, 16, 17, 18, 19, 20, 21, 22, 23, 24, 25, 26] (by kernel_rfl) Kept.refl Kept.trans (pick_stays ⟨eqV_stays _, eqV_stays _, eqV_stays _, eqV_stays _, eqV_stays _, eqV_stays _, eqV_stays _, eqV_stays _, eqV_stays _, eqV_stays _, eqV_stays _, eqV_stays _, eqV_stays _, eqV_stays _, eqV_stays _, eqV_stays _, eqV_stays _, eqV_stays _, eqV_stays _, eqV_stays _, eqV_stays _, eqV_stays _, eqV_stays _, eqV_stays _, eqV_stays _, eqV_stays _, eqV_stays _, trivial⟩) 112 rfl (by kernel_rfl) (by kernel_rfl) rfl rfl ?r1obl ?r1fin
  case r1obl =>
    refine And.intro ?r1o0 (And.intro ?r1o1 (And.intro ?r1o2 (And.intro ?r1o3 (And.intro ?r1o4 (And.intro ?r1o5 (And.intro ?r1o6 (And.intro ?r1o7 (And.intro ?r1o8 (And.intro ?r1o9 (And.intro ?r1o10 (And.intro ?r1o11 (And.intro ?r1o12 (And.intro ?r1o13 (And.intro ?r1o14 (And.intro ?r1o15 (And.intro ?r1o16 (And.intro ?r1o17 (And.intro ?r1o18 (And.intro ?r1o19 (And.intro ?r1o20 (And.intro ?r1o21 (And.intro ?r1o22 (And.intro ?r1o23 (And.intro ?r1o24 (And.intro ?r1o25 (And.intro ?r1o26 (True.intro)))))))))))))))))))))))))))
    case r1o0 =>
      intro w1 hG
      refine turn_on (by rfl) ?_
      intro K hK
      obtain ⟨c0, c1, c2, c3, c4, c5, c6, c7, c8⟩ := cells9 ((hG.block w.heap.size hlt).trans hh)
      go_simp
      refine hK _ _ ⟨rfl, Kept.refl _, ?_⟩
      show _ = _
      simp only [List.getD_cons_zero, List.getD_cons_succ, Array.getD_eq_getD_getElem?, List.getElem?_toArray, List.getElem?_cons_zero, List.getElem?_cons_succ, Option.getD_some]
      rfl
    case r1o1 =>
      intro w1 hG
      intro v0 h0
      change _ = _ at h0
      subst h0
      refine turn_on (by rfl) ?_
      intro K hK
      simp only [List.getD_cons_zero, List.getD_cons_succ, List.setIfInBounds_toArray, List.set_cons_zero, List.set_cons_succ]
      go_simp
      refine Calls.mono (check_any _ _ _ _ _ _ _ _ _ _) ?_
      rintro e w2 ⟨rfl, hbx⟩
      refine hK _ _ ⟨rfl, hbx, ?_⟩
      show _ = _
      simp only [List.getD_cons_zero, List.getD_cons_succ, Array.getD_eq_getD_getElem?, List.getElem?_toArray, List.getElem?_cons_zero, List.getElem?_cons_succ, Option.getD_some]
      rfl
    case r1o2 =>
      intro w1 hG
      refine turn_on (by rfl) ?_
      intro K hK
      obtain ⟨c0, c1, c2, c3, c4, c5, c6, c7, c8⟩ := cells9 ((hG.block w.heap.size hlt).trans hh)
      go_simp
      refine hK _ _ ⟨rfl, Kept.refl _, ?_⟩
      show _ = _
      simp only [List.getD_cons_zero, List.getD_cons_succ, Array.getD_eq_getD_getElem?, List.getElem?_toArray, List.getElem?_cons_zero, List.getElem?_cons_succ, Option.getD_some]
      rfl
    case r1o3 =>
      intro w1 hG
      intro v2 h2
      change _ = _ at h2
      subst h2
      refine turn_on (by rfl) ?_
      intro K hK
      simp only [List.getD_cons_zero, List.getD_cons_succ, List.setIfInBounds_toArray, List.set_cons_zero, List.set_cons_succ]
      go_simp
      refine Calls.mono (refcheck_any _ _ _ _ _ _ _ _ _ _) ?_
      rintro e w2 ⟨rfl, hbx⟩
      refine hK _ _ ⟨rfl, hbx, ?_⟩
      show _ = _
      simp only [List.getD_cons_zero, List.getD_cons_succ, Array.getD_eq_getD_getElem?, List.getElem?_toArray, List.getElem?_cons_zero, List.getElem?_cons_succ, Option.getD_some]
      rfl
    case r1o4 =>
      intro w1 hG
      intro v1 h1
      change _ = _ at h1
      subst h1
      intro v3 h3
      change _ = _ at h3
      subst h3
      refine turn_on (by rfl) ?_
      intro K hK
      simp only [List.getD_cons_zero, List.getD_cons_succ, List.setIfInBounds_toArray, List.set_cons_zero, List.set_cons_succ]
      go_simp
      refine hK _ _ ⟨rfl, Kept.refl _, ?_⟩
      show _ = _
      simp only [List.getD_cons_zero, List.getD_cons_succ, Array.getD_eq_getD_getElem?, List.getElem?_toArray, List.getElem?_cons_zero, List.getElem?_cons_succ, Option.getD_some]
      rfl
    case r1o5 =>
      intro w1 hG
      intro v4 h4
      change _ = _ at h4
      subst h4
      refine turn_on (by rfl) ?_
      intro K hK
      simp only [List.getD_cons_zero, List.getD_cons_succ, List.setIfInBounds_toArray, List.set_cons_zero, List.set_cons_succ]
      go_simp
      refine hK _ _ ⟨rfl, Kept.refl _, ?_⟩
      show _ = _
      simp only [List.getD_cons_zero, List.getD_cons_succ, Array.getD_eq_getD_getElem?, List.getElem?_toArray, List.getElem?_cons_zero, List.getElem?_cons_succ, Option.getD_some]
      rfl
    case r1o6 =>
      intro w1 hG
      intro v5 h5
      change _ = _ at h5
      subst h5
      refine turn_on (by rfl) ?_
      intro K hK
      simp only [List.getD_cons_zero, List.getD_cons_succ, List.setIfInBounds_toArray, List.set_cons_zero, List.set_cons_succ]
      go_simp
      refine hK _ _ ⟨rfl, Kept.refl _, ?_⟩
      show _ = _
      simp only [List.getD_cons_zero, List.getD_cons_succ, Array.getD_eq_getD_getElem?, List.getElem?_toArray, List.getElem?_cons_zero, List.getElem?_cons_succ, Option.getD_some]
      rfl
    case r1o7 =>
      intro w1 hG
      intro v5 h5
      change _ = _ at h5
      subst h5
      refine turn_on (by rfl) ?_
      intro K hK
      simp only [List.getD_cons_zero, List.getD_cons_succ, List.setIfInBounds_toArray, List.set_cons_zero, List.set_cons_succ]
      go_simp
      refine hK _ _ ⟨rfl, Kept.refl _, ?_⟩
      show _ = _
      simp only [List.getD_cons_zero, List.getD_cons_succ, Array.getD_eq_getD_getElem?, List.getElem?_toArray, List.getElem?_cons_zero, List.getElem?_cons_succ, Option.getD_some]
      rfl
    case r1o8 =>
      intro w1 hG
      intro v5 h5
      change _ = _ at h5
      subst h5
      intro v6 h6
      change _ = _ at h6
      subst h6
      intro v7 h7
      change _ = _ at h7
      subst h7
      refine turn_on (by rfl) ?_
      intro K hK
      simp only [List.getD_cons_zero, List.getD_cons_succ, List.setIfInBounds_toArray, List.set_cons_zero, List.set_cons_succ]
      go_simp
      refine hK _ _ ⟨rfl, Kept.refl _, ?_⟩
      show _ = _
      simp only [List.getD_cons_zero, List.getD_cons_succ, Array.getD_eq_getD_getElem?, List.getElem?_toArray, List.getElem?_cons_zero, List.getElem?_cons_succ, Option.getD_some]
      rfl
    case r1o9 =>
      intro w1 hG
      intro v5 h5
      change _ = _ at h5
      subst h5
      intro v8 h8
      change _ = _ at h8
      subst h8
      refine turn_on (by rfl) ?_
      intro K hK
      simp only [List.getD_cons_zero, List.getD_cons_succ, List.setIfInBounds_toArray, List.set_cons_zero, List.set_cons_succ]
      go_simp
      refine hK _ _ ⟨rfl, Kept.refl _, ?_⟩
      show _ = _
      simp only [List.getD_cons_zero, List.getD_cons_succ, Array.getD_eq_getD_getElem?, List.getElem?_toArray, List.getElem?_cons_zero, List.getElem?_cons_succ, Option.getD_some]
      rfl
    case r1o10 =>
      intro w1 hG
      intro v9 h9
      change _ = _ at h9
      subst h9
      refine turn_on (by rfl) ?_
      intro K hK
      simp only [List.getD_cons_zero, List.getD_cons_succ, List.setIfInBounds_toArray, List.set_cons_zero, List.set_cons_succ]
      go_simp
      refine hK _ _ ⟨rfl, Kept.refl _, ?_⟩
      show _ = _
      simp only [List.getD_cons_zero, List.getD_cons_succ, Array.getD_eq_getD_getElem?, List.getElem?_toArray, List.getElem?_cons_zero, List.getElem?_cons_succ, Option.getD_some]
      rfl
    case r1o11 =>
      intro w1 hG
      intro v10 h10
      change _ = _ at h10
      subst h10
      refine turn_on (by rfl) ?_
      intro K hK
      simp only [List.getD_cons_zero, List.getD_cons_succ, List.setIfInBounds_toArray, List.set_cons_zero, List.set_cons_succ]
      go_simp
      refine hK _ _ ⟨rfl, Kept.refl _, ?_⟩
      show _ = _
      simp only [List.getD_cons_zero, List.getD_cons_succ, Array.getD_eq_getD_getElem?, List.getElem?_toArray, List.getElem?_cons_zero, List.getElem?_cons_succ, Option.getD_some]
      rfl
    case r1o12 =>
      intro w1 hG
      intro v10 h10
      change _ = _ at h10
      subst h10
      refine turn_on (by rfl) ?_
      intro K hK
      simp only [List.getD_cons_zero, List.getD_cons_succ, List.setIfInBounds_toArray, List.set_cons_zero, List.set_cons_succ]
      go_simp
      refine hK _ _ ⟨rfl, Kept.refl _, ?_⟩
      show _ = _
      simp only [List.getD_cons_zero, List.getD_cons_succ, Array.getD_eq_getD_getElem?, List.getElem?_toArray, List.getElem?_cons_zero, List.getElem?_cons_succ, Option.getD_some]
      rfl
    case r1o13 =>
      intro w1 hG
      intro v10 h10
      change _ = _ at h10
      subst h10
      intro v11 h11
      change _ = _ at h11
      subst h11
      intro v12 h12
      change _ = _ at h12
      subst h12
      refine turn_on (by rfl) ?_
      intro K hK
      simp only [List.getD_cons_zero, List.getD_cons_succ, List.setIfInBounds_toArray, List.set_cons_zero, List.set_cons_succ]
      go_simp
      refine hK _ _ ⟨rfl, Kept.refl _, ?_⟩
      show _ = _
      simp only [List.getD_cons_zero, List.getD_cons_succ, Array.getD_eq_getD_getElem?, List.getElem?_toArray, List.getElem?_cons_zero, List.getElem?_cons_succ, Option.getD_some]
      rfl
    case r1o14 =>
      intro w1 hG
      intro v10 h10
      change _ = _ at h10
      subst h10
      intro v13 h13
      change _ = _ at h13
      subst h13
      refine turn_on (by rfl) ?_
      intro K hK
      simp only [List.getD_cons_zero, List.getD_cons_succ, List.setIfInBounds_toArray, List.set_cons_zero, List.set_cons_succ]
      go_simp
      refine hK _ _ ⟨rfl, Kept.refl _, ?_⟩
      show _ = _
      simp only [List.getD_cons_zero, List.getD_cons_succ, Array.getD_eq_getD_getElem?, List.getElem?_toArray, List.getElem?_cons_zero, List.getElem?_cons_succ, Option.getD_some]
      rfl
    case r1o15 =>
      intro w1 hG
      intro v14 h14
      change _ = _ at h14
      subst h14
      refine turn_on (by rfl) ?_
      intro K hK
      simp only [List.getD_cons_zero, List.getD_cons_succ, List.setIfInBounds_toArray, List.set_cons_zero, List.set_cons_succ]
      go_simp
      refine hK _ _ ⟨rfl, Kept.refl _, ?_⟩
      show _ = _
      simp only [List.getD_cons_zero, List.getD_cons_succ, Array.getD_eq_getD_getElem?, List.getElem?_toArray, List.getElem?_cons_zero, List.getElem?_cons_succ, Option.getD_some]
      rfl
    case r1o16 =>
      intro w1 hG
      intro v15 h15
      change _ = _ at h15
      subst h15
      refine turn_on (by rfl) ?_
      intro K hK
      simp only [List.getD_cons_zero, List.getD_cons_succ, List.setIfInBounds_toArray, List.set_cons_zero, List.set_cons_succ]
      go_simp
      refine hK _ _ ⟨rfl, Kept.refl _, ?_⟩
      show _ = _
      simp only [List.getD_cons_zero, List.getD_cons_succ, Array.getD_eq_getD_getElem?, List.getElem?_toArray, List.getElem?_cons_zero, List.getElem?_cons_succ, Option.getD_some]
      rfl
    case r1o17 =>
      intro w1 hG
      intro v15 h15
      change _ = _ at h15
      subst h15
      refine turn_on (by rfl) ?_
      intro K hK
      simp only [List.getD_cons_zero, List.getD_cons_succ, List.setIfInBounds_toArray, List.set_cons_zero, List.set_cons_succ]
      go_simp
      refine hK _ _ ⟨rfl, Kept.refl _, ?_⟩
      show _ = _
      simp only [List.getD_cons_zero, List.getD_cons_succ, Array.getD_eq_getD_getElem?, List.getElem?_toArray, List.getElem?_cons_zero, List.getElem?_cons_succ, Option.getD_some]
      rfl
    case r1o18 =>
      intro w1 hG
      intro v15 h15
      change _ = _ at h15
      subst h15
      intro v16 h16
      change _ = _ at h16
      subst h16
      intro v17 h17
      change _ = _ at h17
      subst h17
      refine turn_on (by rfl) ?_
      intro K hK
      simp only [List.getD_cons_zero, List.getD_cons_succ, List.setIfInBounds_toArray, List.set_cons_zero, List.set_cons_succ]
      go_simp
      refine hK _ _ ⟨rfl, Kept.refl _, ?_⟩
      show _ = _
      simp only [List.getD_cons_zero, List.getD_cons_succ, Array.getD_eq_getD_getElem?, List.getElem?_toArray, List.getElem?_cons_zero, List.getElem?_cons_succ, Option.getD_some]
      rfl
    case r1o19 =>
      intro w1 hG
      intro v15 h15
      change _ = _ at h15
      subst h15
      intro v18 h18
      change _ = _ at h18
      subst h18
      refine turn_on (by rfl) ?_
      intro K hK
      simp only [List.getD_cons_zero, List.getD_cons_succ, List.setIfInBounds_toArray, List.set_cons_zero, List.set_cons_succ]
      go_simp
      refine hK _ _ ⟨rfl, Kept.refl _, ?_⟩
      show _ = _
      simp only [List.getD_cons_zero, List.getD_cons_succ, Array.getD_eq_getD_getElem?, List.getElem?_toArray, List.getElem?_cons_zero, List.getElem?_cons_succ, Option.getD_some]
      rfl
    case r1o20 =>
      intro w1 hG
      intro v19 h19
      change _ = _ at h19
      subst h19
      refine turn_on (by rfl) ?_
      intro K hK
      simp only [List.getD_cons_zero, List.getD_cons_succ, List.setIfInBounds_toArray, List.set_cons_zero, List.set_cons_succ]
      go_simp
      refine hK _ _ ⟨rfl, Kept.refl _, ?_⟩
      show _ = _
      simp only [List.getD_cons_zero, List.getD_cons_succ, Array.getD_eq_getD_getElem?, List.getElem?_toArray, List.getElem?_cons_zero, List.getElem?_cons_succ, Option.getD_some]
      rfl
    case r1o21 =>
      intro w1 hG
      intro v20 h20
      change _ = _ at h20
      subst h20
      refine turn_on (by rfl) ?_
      intro K hK
      simp only [List.getD_cons_zero, List.getD_cons_succ, List.setIfInBounds_toArray, List.set_cons_zero, List.set_cons_succ]
      obtain ⟨c0, c1, c2, c3, c4, c5, c6, c7, c8⟩ := cells9 ((hG.block w.heap.size hlt).trans hh)
      go_simp
      refine hK _ _ ⟨rfl, Kept.refl _, ?_⟩
      show _ = _
      simp only [List.getD_cons_zero, List.getD_cons_succ, Array.getD_eq_getD_getElem?, List.getElem?_toArray, List.getElem?_cons_zero, List.getElem?_cons_succ, Option.getD_some]
      rfl
    case r1o22 =>
      intro w1 hG
      intro v20 h20
      change _ = _ at h20
      subst h20
      intro v21 h21
      change _ = _ at h21
      subst h21
      refine turn_on (by rfl) ?_
      intro K hK
      simp only [List.getD_cons_zero, List.getD_cons_succ, List.setIfInBounds_toArray, List.set_cons_zero, List.set_cons_succ]
      go_simp
      refine Calls.mono (k_all _ _ _ _ _ _ _ _ _ _) ?_
      rintro e w2 ⟨rfl, hbx⟩
      refine hK _ _ ⟨rfl, hbx, ?_⟩
      show _ = _
      simp only [List.getD_cons_zero, List.getD_cons_succ, Array.getD_eq_getD_getElem?, List.getElem?_toArray, List.getElem?_cons_zero, List.getElem?_cons_succ, Option.getD_some]
      rfl
    case r1o23 =>
      intro w1 hG
      intro v20 h20
      change _ = _ at h20
      subst h20
      refine turn_on (by rfl) ?_
      intro K hK
      simp only [List.getD_cons_zero, List.getD_cons_succ, List.setIfInBounds_toArray, List.set_cons_zero, List.set_cons_succ]
      obtain ⟨c0, c1, c2, c3, c4, c5, c6, c7, c8⟩ := cells9 ((hG.block w.heap.size hlt).trans hh)
      go_simp
      refine hK _ _ ⟨rfl, Kept.refl _, ?_⟩
      show _ = _
      simp only [List.getD_cons_zero, List.getD_cons_succ, Array.getD_eq_getD_getElem?, List.getElem?_toArray, List.getElem?_cons_zero, List.getElem?_cons_succ, Option.getD_some]
      rfl
    case r1o24 =>
      intro w1 hG
      intro v20 h20
      change _ = _ at h20
      subst h20
      intro v23 h23
      change _ = _ at h23
      subst h23
      refine turn_on (by rfl) ?_
      intro K hK
      simp only [List.getD_cons_zero, List.getD_cons_succ, List.setIfInBounds_toArray, List.set_cons_zero, List.set_cons_succ]
      go_simp
      refine Calls.mono (refk_all _ _ _ _ _ _ _ _ _ _) ?_
      rintro e w2 ⟨rfl, hbx⟩
      refine hK _ _ ⟨rfl, hbx, ?_⟩
      show _ = _
      simp only [List.getD_cons_zero, List.getD_cons_succ, Array.getD_eq_getD_getElem?, List.getElem?_toArray, List.getElem?_cons_zero, List.getElem?_cons_succ, Option.getD_some]
      rfl
    case r1o25 =>
      intro w1 hG
      intro v20 h20
      change _ = _ at h20
      subst h20
      intro v22 h22
      change _ = _ at h22
      subst h22
      intro v24 h24
      change _ = _ at h24
      subst h24
      refine turn_on (by rfl) ?_
      intro K hK
      simp only [List.getD_cons_zero, List.getD_cons_succ, List.setIfInBounds_toArray, List.set_cons_zero, List.set_cons_succ]
      go_simp
      refine hK _ _ ⟨rfl, Kept.refl _, ?_⟩
      show _ = _
      simp only [List.getD_cons_zero, List.getD_cons_succ, Array.getD_eq_getD_getElem?, List.getElem?_toArray, List.getElem?_cons_zero, List.getElem?_cons_succ, Option.getD_some]
      rfl
    case r1o26 =>
      intro w1 hG
      intro v20 h20
      change _ = _ at h20
      subst h20
      intro v25 h25
      change _ = _ at h25
      subst h25
      refine turn_on (by rfl) ?_
      intro K hK
      simp only [List.getD_cons_zero, List.getD_cons_succ, List.setIfInBounds_toArray, List.set_cons_zero, List.set_cons_succ]
      go_simp
      refine hK _ _ ⟨rfl, Kept.refl _, ?_⟩
      show _ = _
      simp only [List.getD_cons_zero, List.getD_cons_succ, Array.getD_eq_getD_getElem?, List.getElem?_toArray, List.getElem?_cons_zero, List.getElem?_cons_succ, Option.getD_some]
      rfl
  intro w1 hG
  intro v0 h0
  change _ = _ at h0
  subst h0
  intro v1 h1
  change _ = _ at h1
  subst h1
  intro v2 h2
  change _ = _ at h2
  subst h2
  intro v3 h3
  change _ = _ at h3
  subst h3
  intro v4 h4
  change _ = _ at h4
  subst h4
  intro v5 h5
  change _ = _ at h5
  subst h5
  intro v6 h6
  change _ = _ at h6
  subst h6
  intro v7 h7
  change _ = _ at h7
  subst h7
  intro v8 h8
  change _ = _ at h8
  subst h8
  intro v9 h9
  change _ = _ at h9
  subst h9
  intro v10 h10
  change _ = _ at h10
  subst h10
  intro v11 h11
  change _ = _ at h11
  subst h11
  intro v12 h12
  change _ = _ at h12
  subst h12
  intro v13 h13
  change _ = _ at h13
  subst h13
  intro v14 h14
  change _ = _ at h14
  subst h14
  intro v15 h15
  change _ = _ at h15
  subst h15
  intro v16 h16
  change _ = _ at h16
  subst h16
  intro v17 h17
  change _ = _ at h17
  subst h17
  intro v18 h18
  change _ = _ at h18
  subst h18
  intro v19 h19
  change _ = _ at h19
  subst h19
  intro v20 h20
  change _ = _ at h20
  subst h20
  intro v21 h21
  change _ = _ at h21
  subst h21
  intro v22 h22
  change _ = _ at h22
  subst h22
  intro v23 h23
  change _ = _ at h23
  subst h23
  intro v24 h24
  change _ = _ at h24
  subst h24
  intro v25 h25
  change _ = _ at h25
  subst h25
  intro v26 h26
  change _ = _ at h26
  subst h26
  simp only [Given, List.getD_cons_zero, List.getD_cons_succ, List.setIfInBounds_toArray, List.set_cons_zero, List.set_cons_succ]
  replace hh := (hG.block w.heap.size hlt).trans hh
  replace hB := hB.drew.trans (Below.mono hG hB.size)
  clear hlt
  obtain ⟨c0, c1, c2, c3, c4, c5, c6, c7, c8⟩ := cells9 hh
  go_wp2_with (first | (go_at_call 13; refine (refcheck_any _ _ _ _ _ _ _ _ _ _).mono ?_; rintro e w4 ⟨rfl, hb4⟩; replace hh := kept_row hh hb4; replace hB := hB.trans (hb4.mono hB.size); clear c0 c1 c2 c3 c4 c5 c6 c7 c8; obtain ⟨c0, c1, c2, c3, c4, c5, c6, c7, c8⟩ := cells9 hh) | (go_at_call 15; refine (journal_any _ _ _ _ _ _ _ _ _ _).mono ?_; rintro e w5 ⟨rfl, hb5⟩; replace hh := kept_row hh hb5; replace hB := hB.trans (hb5.mono hB.size); clear c0 c1 c2 c3 c4 c5 c6 c7 c8; obtain ⟨c0, c1, c2, c3, c4, c5, c6, c7, c8⟩ := cells9 hh) | (go_at_call 16; refine (refjournal_any _ _ _ _ _ _ _ _ _ _).mono ?_; rintro e w6 ⟨rfl, hb6⟩; replace hh := kept_row hh hb6; replace hB := hB.trans (hb6.mono hB.size); clear c0 c1 c2 c3 c4 c5 c6 c7 c8; obtain ⟨c0, c1, c2, c3, c4, c5, c6, c7, c8⟩ := cells9 hh))
  clear c0 c1 c2 c3 c4 c5 c6 c7 c8
  have hlt := (Array.getElem?_eq_some_iff.1 hh).1
  refine' reg_free (G := Kept) (pickF [eqV _, eqV _, eqV _, eqV _, eqV _, eqV _, eqV _, eqV _, eqV _, eqV _, eqV _, eqV _, eqV _, eqV _, eqV _, eqV _, eqV _, eqV _, eqV _, eqV _, eqV _, eqV _, eqV _, eqV _, eqV _, eqV _, eqV _, eqV _, eqV _, eqV _, eqV _, eqV _, eqV _, eqV _]) [79, 80, 81, 82, 83, 84, 85, 86, 87, 88, 89, 90, 91, 92, 93, 94, 95, 96, 97, 98, 99, 100, 101, 102, 103, 104, 105, 106, 107, 108, 109, 110, 111, 8] [[], [], [0, 1], [2], [3], [3], [3, 4, 5], [3, 6], [7], [8], [8, 9], [8], [8, 11], [8, 10, 12], [8, 13], [14], [15], [15], [15, 16, 17], [15], [15], [15, 19, 20], [15, 18, 21], [15, 22], [23], [24], [24], [24, 25, 26], [24], [24], [24, 28, 29], [24, 27, 30], [24, 31], [32]] [0, 1, 2, 3, 4, 5, 6, 7, 8, 9, 10, 11, 12, 13, 14, 15, 16, 17, 18, 19, 20, 21, 22, 23, 24, 25, 26, 27, 28, 29, 30, 31, 32, 33] (by kernel_rfl) Kept.refl Kept.trans (pick_stays ⟨eqV_stays _, eqV_stays _, eqV_stays _, eqV_stays _, eqV_stays _, eqV_stays _, eqV_stays _, eqV_stays _, eqV_stays _, eqV_stays _, eqV_stays _, eqV_stays _, eqV_stays _, eqV_stays _, eqV_stays _, eqV_stays _, eqV_stays _, eqV_stays _, eqV_stays _, eqV_stays _, eqV_stays _, eqV_stays _, eqV_stays _, eqV_stays _, eqV_stays _, eqV_stays _, eqV_stays _, eqV_stays _, eqV_stays _, eqV_stays _, eqV_stays _, eqV_stays _, eqV_stays _, eqV_stays _, trivial⟩) 112 rfl (by kernel_rfl) (by kernel_rfl) rfl rfl ?r2obl ?r2fin
  case r2obl =>
    refine And.intro ?r2o0 (And.intro ?r2o1 (And.intro ?r2o2 (And.intro ?r2o3 (And.intro ?r2o4 (And.intro ?r2o5 (And.intro ?r2o6 (And.intro ?r2o7 (And.intro ?r2o8 (And.intro ?r2o9 (And.intro ?r2o10 (And.intro ?r2o11 (And.intro ?r2o12 (And.intro ?r2o13 (And.intro ?r2o14 (And.intro ?r2o15 (And.intro ?r2o16 (And.intro ?r2o17 (And.intro ?r2o18 (And.intro ?r2o19 (And.intro ?r2o20 (And.intro ?r2o21 (And.intro ?r2o22 (And.intro ?r2o23 (And.intro ?r2o24 (And.intro ?r2o25 (And.intro ?r2o26 (And.intro ?r2o27 (And.intro ?r2o28 (And.intro ?r2o29 (And.intro ?r2o30 (And.intro ?r2o31 (And.intro ?r2o32 (And.intro ?r2o33 (True.intro))))))))))))))))))))))))))))))))))
    case r2o0 =>
      intro w1 hG
      refine turn_on (by rfl) ?_
      intro K hK
      go_simp
      refine hK _ _ ⟨rfl, Kept.refl _, ?_⟩
      show _ = _
      simp only [List.getD_cons_zero, List.getD_cons_succ, Array.getD_eq_getD_getElem?, List.getElem?_toArray, List.getElem?_cons_zero, List.getElem?_cons_succ, Option.getD_some]
      rfl
    case r2o1 =>
      intro w1 hG
      refine turn_on (by rfl) ?_
      intro K hK
      go_simp
      refine hK _ _ ⟨rfl, Kept.refl _, ?_⟩
      show _ = _
      simp only [List.getD_cons_zero, List.getD_cons_succ, Array.getD_eq_getD_getElem?, List.getElem?_toArray, List.getElem?_cons_zero, List.getElem?_cons_succ, Option.getD_some]
      rfl
    case r2o2 =>
      intro w1 hG
      intro v0 h0
      change _ = _ at h0
      subst h0
      intro v1 h1
      change _ = _ at h1
      subst h1
      refine turn_on (by rfl) ?_
      intro K hK
      simp only [List.getD_cons_zero, List.getD_cons_succ, List.setIfInBounds_toArray, List.set_cons_zero, List.set_cons_succ]
      go_simp
      refine hK _ _ ⟨rfl, Kept.refl _, ?_⟩
      show _ = _
      simp only [List.getD_cons_zero, List.getD_cons_succ, Array.getD_eq_getD_getElem?, List.getElem?_toArray, List.getElem?_cons_zero, List.getElem?_cons_succ, Option.getD_some]
      rfl
    case r2o3 =>
      intro w1 hG
      intro v2 h2
      change _ = _ at h2
      subst h2
      refine turn_on (by rfl) ?_
      intro K hK
      simp only [List.getD_cons_zero, List.getD_cons_succ, List.setIfInBounds_toArray, List.set_cons_zero, List.set_cons_succ]
      go_simp
      refine hK _ _ ⟨rfl, Kept.refl _, ?_⟩
      show _ = _
      simp only [List.getD_cons_zero, List.getD_cons_succ, Array.getD_eq_getD_getElem?, List.getElem?_toArray, List.getElem?_cons_zero, List.getElem?_cons_succ, Option.getD_some]
      rfl
    case r2o4 =>
      intro w1 hG
      intro v3 h3
      change _ = _ at h3
      subst h3
      refine turn_on (by rfl) ?_
      intro K hK
      simp only [List.getD_cons_zero, List.getD_cons_succ, List.setIfInBounds_toArray, List.set_cons_zero, List.set_cons_succ]
      go_simp
      refine hK _ _ ⟨rfl, Kept.refl _, ?_⟩
      show _ = _
      simp only [List.getD_cons_zero, List.getD_cons_succ, Array.getD_eq_getD_getElem?, List.getElem?_toArray, List.getElem?_cons_zero, List.getElem?_cons_succ, Option.getD_some]
      rfl
    case r2o5 =>
      intro w1 hG
      intro v3 h3
      change _ = _ at h3
      subst h3
      refine turn_on (by rfl) ?_
      intro K hK
      simp only [List.getD_cons_zero, List.getD_cons_succ, List.setIfInBounds_toArray, List.set_cons_zero, List.set_cons_succ]
      go_simp
      refine hK _ _ ⟨rfl, Kept.refl _, ?_⟩
      show _ = _
      simp only [List.getD_cons_zero, List.getD_cons_succ, Array.getD_eq_getD_getElem?, List.getElem?_toArray, List.getElem?_cons_zero, List.getElem?_cons_succ, Option.getD_some]
      rfl
    case r2o6 =>
      intro w1 hG
      intro v3 h3
      change _ = _ at h3
      subst h3
      intro v4 h4
      change _ = _ at h4
      subst h4
      intro v5 h5
      change _ = _ at h5
      subst h5
      refine turn_on (by rfl) ?_
      intro K hK
      simp only [List.getD_cons_zero, List.getD_cons_succ, List.setIfInBounds_toArray, List.set_cons_zero, List.set_cons_succ]
      go_simp
      refine hK _ _ ⟨rfl, Kept.refl _, ?_⟩
      show _ = _
      simp only [List.getD_cons_zero, List.getD_cons_succ, Array.getD_eq_getD_getElem?, List.getElem?_toArray, List.getElem?_cons_zero, List.getElem?_cons_succ, Option.getD_some]
      rfl
    case r2o7 =>
      intro w1 hG
      intro v3 h3
      change _ = _ at h3
      subst h3
      intro v6 h6
      change _ = _ at h6
      subst h6
      refine turn_on (by rfl) ?_
      intro K hK
      simp only [List.getD_cons_zero, List.getD_cons_succ, List.setIfInBounds_toArray, List.set_cons_zero, List.set_cons_succ]
      go_simp
      refine hK _ _ ⟨rfl, Kept.refl _, ?_⟩
      show _ = _
      simp only [List.getD_cons_zero, List.getD_cons_succ, Array.getD_eq_getD_getElem?, List.getElem?_toArray, List.getElem?_cons_zero, List.getElem?_cons_succ, Option.getD_some]
      rfl
    case r2o8 =>
      intro w1 hG
      intro v7 h7
      change _ = _ at h7
      subst h7
      refine turn_on (by rfl) ?_
      intro K hK
      simp only [List.getD_cons_zero, List.getD_cons_succ, List.setIfInBounds_toArray, List.set_cons_zero, List.set_cons_succ]
      go_simp
      refine hK _ _ ⟨rfl, Kept.refl _, ?_⟩
      show _ = _
      simp only [List.getD_cons_zero, List.getD_cons_succ, Array.getD_eq_getD_getElem?, List.getElem?_toArray, List.getElem?_cons_zero, List.getElem?_cons_succ, Option.getD_some]
      rfl
    case r2o9 =>
      intro w1 hG
      intro v8 h8
      change _ = _ at h8
      subst h8
      refine turn_on (by rfl) ?_
      intro K hK
      simp only [List.getD_cons_zero, List.getD_cons_succ, List.setIfInBounds_toArray, List.set_cons_zero, List.set_cons_succ]
      obtain ⟨c0, c1, c2, c3, c4, c5, c6, c7, c8⟩ := cells9 ((hG.block w.heap.size hlt).trans hh)
      go_simp
      refine hK _ _ ⟨rfl, Kept.refl _, ?_⟩
      show _ = _
      simp only [List.getD_cons_zero, List.getD_cons_succ, Array.getD_eq_getD_getElem?, List.getElem?_toArray, List.getElem?_cons_zero, List.getElem?_cons_succ, Option.getD_some]
      rfl
    case r2o10 =>
      intro w1 hG
      intro v8 h8
      change _ = _ at h8
      subst h8
      intro v9 h9
      change _ = _ at h9
      subst h9
      refine turn_on (by rfl) ?_
      intro K hK
      simp only [List.getD_cons_zero, List.getD_cons_succ, List.setIfInBounds_toArray, List.set_cons_zero, List.set_cons_succ]
      go_simp
      refine Calls.mono (segments_any _ _ _ _ _ _ _ _ _ _ b0 b2 b3) ?_
      rintro e w2 ⟨rfl, hbx⟩
      refine hK _ _ ⟨rfl, hbx, ?_⟩
      show _ = _
      simp only [List.getD_cons_zero, List.getD_cons_succ, Array.getD_eq_getD_getElem?, List.getElem?_toArray, List.getElem?_cons_zero, List.getElem?_cons_succ, Option.getD_some]
      rfl
    case r2o11 =>
      intro w1 hG
      intro v8 h8
      change _ = _ at h8
      subst h8
      refine turn_on (by rfl) ?_
      intro K hK
      simp only [List.getD_cons_zero, List.getD_cons_succ, List.setIfInBounds_toArray, List.set_cons_zero, List.set_cons_succ]
      obtain ⟨c0, c1, c2, c3, c4, c5, c6, c7, c8⟩ := cells9 ((hG.block w.heap.size hlt).trans hh)
      go_simp
      refine hK _ _ ⟨rfl, Kept.refl _, ?_⟩
      show _ = _
      simp only [List.getD_cons_zero, List.getD_cons_succ, Array.getD_eq_getD_getElem?, List.getElem?_toArray, List.getElem?_cons_zero, List.getElem?_cons_succ, Option.getD_some]
      rfl
    case r2o12 =>
      intro w1 hG
      intro v8 h8
      change _ = _ at h8
      subst h8
      intro v11 h11
      change _ = _ at h11
      subst h11
      refine turn_on (by rfl) ?_
      intro K hK
      simp only [List.getD_cons_zero, List.getD_cons_succ, List.setIfInBounds_toArray, List.set_cons_zero, List.set_cons_succ]
      go_simp
      refine Calls.mono (refsegments_any _ _ _ _ _ _ _ _ _ _ b0 b2 b3) ?_
      rintro e w2 ⟨rfl, hbx⟩
      refine hK _ _ ⟨rfl, hbx, ?_⟩
      show _ = _
      simp only [List.getD_cons_zero, List.getD_cons_succ, Array.getD_eq_getD_getElem?, List.getElem?_toArray, List.getElem?_cons_zero, List.getElem?_cons_succ, Option.getD_some]
      rfl
    case r2o13 =>
      intro w1 hG
      intro v8 h8
      change _ = _ at h8
      subst h8
      intro v10 h10
      change _ = _ at h10
      subst h10
      intro v12 h12
      change _ = _ at h12
      subst h12
      refine turn_on (by rfl) ?_
      intro K hK
      simp only [List.getD_cons_zero, List.getD_cons_succ, List.setIfInBounds_toArray, List.set_cons_zero, List.set_cons_succ]
      go_simp
      refine hK _ _ ⟨rfl, Kept.refl _, ?_⟩
      show _ = _
      simp only [List.getD_cons_zero, List.getD_cons_succ, Array.getD_eq_getD_getElem?, List.getElem?_toArray, List.getElem?_cons_zero, List.getElem?_cons_succ, Option.getD_some]
      rfl
    case r2o14 =>
      intro w1 hG
      intro v8 h8
      change _ = _ at h8
      subst h8
      intro v13 h13
      change _ = _ at h13
      subst h13
      refine turn_on (by rfl) ?_
      intro K hK
      simp only [List.getD_cons_zero, List.getD_cons_succ, List.setIfInBounds_toArray, List.set_cons_zero, List.set_cons_succ]
      go_simp
      refine hK _ _ ⟨rfl, Kept.refl _, ?_⟩
      show _ = _
      simp only [List.getD_cons_zero, List.getD_cons_succ, Array.getD_eq_getD_getElem?, List.getElem?_toArray, List.getElem?_cons_zero, List.getElem?_cons_succ, Option.getD_some]
      rfl
    case r2o15 =>
      intro w1 hG
      intro v14 h14
      change _ = _ at h14
      subst h14
      refine turn_on (by rfl) ?_
      intro K hK
      simp only [List.getD_cons_zero, List.getD_cons_succ, List.setIfInBounds_toArray, List.set_cons_zero, List.set_cons_succ]
      go_simp
      refine hK _ _ ⟨rfl, Kept.refl _, ?_⟩
      show _ = _
      simp only [List.getD_cons_zero, List.getD_cons_succ, Array.getD_eq_getD_getElem?, List.getElem?_toArray, List.getElem?_cons_zero, List.getElem?_cons_succ, Option.getD_some]
      rfl
    case r2o16 =>
      intro w1 hG
      intro v15 h15
      change _ = _ at h15
      subst h15
      refine turn_on (by rfl) ?_
      intro K hK
      simp only [List.getD_cons_zero, List.getD_cons_succ, List.setIfInBounds_toArray, List.set_cons_zero, List.set_cons_succ]
      obtain ⟨c0, c1, c2, c3, c4, c5, c6, c7, c8⟩ := cells9 ((hG.block w.heap.size hlt).trans hh)
      go_simp
      refine hK _ _ ⟨rfl, Kept.refl _, ?_⟩
      show _ = _
      simp only [List.getD_cons_zero, List.getD_cons_succ, Array.getD_eq_getD_getElem?, List.getElem?_toArray, List.getElem?_cons_zero, List.getElem?_cons_succ, Option.getD_some]
      rfl
    case r2o17 =>
      intro w1 hG
      intro v15 h15
      change _ = _ at h15
      subst h15
      refine turn_on (by rfl) ?_
      intro K hK
      simp only [List.getD_cons_zero, List.getD_cons_succ, List.setIfInBounds_toArray, List.set_cons_zero, List.set_cons_succ]
      go_simp
      refine hK _ _ ⟨rfl, Kept.refl _, ?_⟩
      show _ = _
      simp only [List.getD_cons_zero, List.getD_cons_succ, Array.getD_eq_getD_getElem?, List.getElem?_toArray, List.getElem?_cons_zero, List.getElem?_cons_succ, Option.getD_some]
      rfl
    case r2o18 =>
      intro w1 hG
      intro v15 h15
      change _ = _ at h15
      subst h15
      intro v16 h16
      change _ = _ at h16
      subst h16
      intro v17 h17
      change _ = _ at h17
      subst h17
      refine turn_on (by rfl) ?_
      intro K hK
      simp only [List.getD_cons_zero, List.getD_cons_succ, List.setIfInBounds_toArray, List.set_cons_zero, List.set_cons_succ]
      go_simp
      refine Calls.mono (of_any _ _ _ _ _ _ _ _ _ _ _ hp hs1 hs2) ?_
      rintro e w2 ⟨rfl, hbx⟩
      refine hK _ _ ⟨rfl, hbx, ?_⟩
      show _ = _
      simp only [List.getD_cons_zero, List.getD_cons_succ, Array.getD_eq_getD_getElem?, List.getElem?_toArray, List.getElem?_cons_zero, List.getElem?_cons_succ, Option.getD_some]
      rfl
    case r2o19 =>
      intro w1 hG
      intro v15 h15
      change _ = _ at h15
      subst h15
      refine turn_on (by rfl) ?_
      intro K hK
      simp only [List.getD_cons_zero, List.getD_cons_succ, List.setIfInBounds_toArray, List.set_cons_zero, List.set_cons_succ]
      obtain ⟨c0, c1, c2, c3, c4, c5, c6, c7, c8⟩ := cells9 ((hG.block w.heap.size hlt).trans hh)
      go_simp
      refine hK _ _ ⟨rfl, Kept.refl _, ?_⟩
      show _ = _
      simp only [List.getD_cons_zero, List.getD_cons_succ, Array.getD_eq_getD_getElem?, List.getElem?_toArray, List.getElem?_cons_zero, List.getElem?_cons_succ, Option.getD_some]
      rfl
    case r2o20 =>
      intro w1 hG
      intro v15 h15
      change _ = _ at h15
      subst h15
      refine turn_on (by rfl) ?_
      intro K hK
      simp only [List.getD_cons_zero, List.getD_cons_succ, List.setIfInBounds_toArray, List.set_cons_zero, List.set_cons_succ]
      go_simp
      refine hK _ _ ⟨rfl, Kept.refl _, ?_⟩
      show _ = _
      simp only [List.getD_cons_zero, List.getD_cons_succ, Array.getD_eq_getD_getElem?, List.getElem?_toArray, List.getElem?_cons_zero, List.getElem?_cons_succ, Option.getD_some]
      rfl
    case r2o21 =>
      intro w1 hG
      intro v15 h15
      change _ = _ at h15
      subst h15
      intro v19 h19
      change _ = _ at h19
      subst h19
      intro v20 h20
      change _ = _ at h20
      subst h20
      refine turn_on (by rfl) ?_
      intro K hK
      simp only [List.getD_cons_zero, List.getD_cons_succ, List.setIfInBounds_toArray, List.set_cons_zero, List.set_cons_succ]
      go_simp
      refine Calls.mono (refof_any _ _ _ _ _ _ _ _ _ _ _ hp hs1 hs2) ?_
      rintro e w2 ⟨rfl, hbx⟩
      refine hK _ _ ⟨rfl, hbx, ?_⟩
      show _ = _
      simp only [List.getD_cons_zero, List.getD_cons_succ, Array.getD_eq_getD_getElem?, List.getElem?_toArray, List.getElem?_cons_zero, List.getElem?_cons_succ, Option.getD_some]
      rfl
    case r2o22 =>
      intro w1 hG
      intro v15 h15
      change _ = _ at h15
      subst h15
      intro v18 h18
      change _ = _ at h18
      subst h18
      intro v21 h21
      change _ = _ at h21
      subst h21
      refine turn_on (by rfl) ?_
      intro K hK
      simp only [List.getD_cons_zero, List.getD_cons_succ, List.setIfInBounds_toArray, List.set_cons_zero, List.set_cons_succ]
      go_simp
      refine hK _ _ ⟨rfl, Kept.refl _, ?_⟩
      show _ = _
      simp only [List.getD_cons_zero, List.getD_cons_succ, Array.getD_eq_getD_getElem?, List.getElem?_toArray, List.getElem?_cons_zero, List.getElem?_cons_succ, Option.getD_some]
      rfl
    case r2o23 =>
      intro w1 hG
      intro v15 h15
      change _ = _ at h15
      subst h15
      intro v22 h22
      change _ = _ at h22
      subst h22
      refine turn_on (by rfl) ?_
      intro K hK
      simp only [List.getD_cons_zero, List.getD_cons_succ, List.setIfInBounds_toArray, List.set_cons_zero, List.set_cons_succ]
      go_simp
      refine hK _ _ ⟨rfl, Kept.refl _, ?_⟩
      show _ = _
      simp only [List.getD_cons_zero, List.getD_cons_succ, Array.getD_eq_getD_getElem?, List.getElem?_toArray, List.getElem?_cons_zero, List.getElem?_cons_succ, Option.getD_some]
      rfl
    case r2o24 =>
      intro w1 hG
      intro v23 h23
      change _ = _ at h23
      subst h23
      refine turn_on (by rfl) ?_
      intro K hK
      simp only [List.getD_cons_zero, List.getD_cons_succ, List.setIfInBounds_toArray, List.set_cons_zero, List.set_cons_succ]
      go_simp
      refine hK _ _ ⟨rfl, Kept.refl _, ?_⟩
      show _ = _
      simp only [List.getD_cons_zero, List.getD_cons_succ, Array.getD_eq_getD_getElem?, List.getElem?_toArray, List.getElem?_cons_zero, List.getElem?_cons_succ, Option.getD_some]
      rfl
    case r2o25 =>
      intro w1 hG
      intro v24 h24
      change _ = _ at h24
      subst h24
      refine turn_on (by rfl) ?_
      intro K hK
      simp only [List.getD_cons_zero, List.getD_cons_succ, List.setIfInBounds_toArray, List.set_cons_zero, List.set_cons_succ]
      obtain ⟨c0, c1, c2, c3, c4, c5, c6, c7, c8⟩ := cells9 ((hG.block w.heap.size hlt).trans hh)
      go_simp
      refine hK _ _ ⟨rfl, Kept.refl _, ?_⟩
      show _ = _
      simp only [List.getD_cons_zero, List.getD_cons_succ, Array.getD_eq_getD_getElem?, List.getElem?_toArray, List.getElem?_cons_zero, List.getElem?_cons_succ, Option.getD_some]
      rfl
    case r2o26 =>
      intro w1 hG
      intro v24 h24
      change _ = _ at h24
      subst h24
      refine turn_on (by rfl) ?_
      intro K hK
      simp only [List.getD_cons_zero, List.getD_cons_succ, List.setIfInBounds_toArray, List.set_cons_zero, List.set_cons_succ]
      go_simp
      refine hK _ _ ⟨rfl, Kept.refl _, ?_⟩
      show _ = _
      simp only [List.getD_cons_zero, List.getD_cons_succ, Array.getD_eq_getD_getElem?, List.getElem?_toArray, List.getElem?_cons_zero, List.getElem?_cons_succ, Option.getD_some]
      rfl
    case r2o27 =>
      intro w1 hG
      intro v24 h24
      change _ = _ at h24
      subst h24
      intro v25 h25
      change _ = _ at h25
      subst h25
      intro v26 h26
      change _ = _ at h26
      subst h26
      refine turn_on (by rfl) ?_
      intro K hK
      simp only [List.getD_cons_zero, List.getD_cons_succ, List.setIfInBounds_toArray, List.set_cons_zero, List.set_cons_succ]
      go_simp
      refine Calls.mono (blob_any _ _ _ _ _ _ _ _ _ _ _ (by omega) hb) ?_
      rintro e w2 ⟨rfl, hbx⟩
      refine hK _ _ ⟨rfl, hbx, ?_⟩
      show _ = _
      simp only [List.getD_cons_zero, List.getD_cons_succ, Array.getD_eq_getD_getElem?, List.getElem?_toArray, List.getElem?_cons_zero, List.getElem?_cons_succ, Option.getD_some]
      rfl
    case r2o28 =>
      intro w1 hG
      intro v24 h24
      change _ = _ at h24
      subst h24
      refine turn_on (by rfl) ?_
      intro K hK
      simp only [List.getD_cons_zero, List.getD_cons_succ, List.setIfInBounds_toArray, List.set_cons_zero, List.set_cons_succ]
      obtain ⟨c0, c1, c2, c3, c4, c5, c6, c7, c8⟩ := cells9 ((hG.block w.heap.size hlt).trans hh)
      go_simp
      refine hK _ _ ⟨rfl, Kept.refl _, ?_⟩
      show _ = _
      simp only [List.getD_cons_zero, List.getD_cons_succ, Array.getD_eq_getD_getElem?, List.getElem?_toArray, List.getElem?_cons_zero, List.getElem?_cons_succ, Option.getD_some]
      rfl
    case r2o29 =>
      intro w1 hG
      intro v24 h24
      change _ = _ at h24
      subst h24
      refine turn_on (by rfl) ?_
      intro K hK
      simp only [List.getD_cons_zero, List.getD_cons_succ, List.setIfInBounds_toArray, List.set_cons_zero, List.set_cons_succ]
      go_simp
      refine hK _ _ ⟨rfl, Kept.refl _, ?_⟩
      show _ = _
      simp only [List.getD_cons_zero, List.getD_cons_succ, Array.getD_eq_getD_getElem?, List.getElem?_toArray, List.getElem?_cons_zero, List.getElem?_cons_succ, Option.getD_some]
      rfl
    case r2o30 =>
      intro w1 hG
      intro v24 h24
      change _ = _ at h24
      subst h24
      intro v28 h28
      change _ = _ at h28
      subst h28
      intro v29 h29
      change _ = _ at h29
      subst h29
      refine turn_on (by rfl) ?_
      intro K hK
      simp only [List.getD_cons_zero, List.getD_cons_succ, List.setIfInBounds_toArray, List.set_cons_zero, List.set_cons_succ]
      go_simp
      refine Calls.mono (refblob_any _ _ _ _ _ _ _ _ _ _ _ (by omega) hb) ?_
      rintro e w2 ⟨rfl, hbx⟩
      refine hK _ _ ⟨rfl, hbx, ?_⟩
      show _ = _
      simp only [List.getD_cons_zero, List.getD_cons_succ, Array.getD_eq_getD_getElem?, List.getElem?_toArray, List.getElem?_cons_zero, List.getElem?_cons_succ, Option.getD_some]
      rfl
    case r2o31 =>
      intro w1 hG
      intro v24 h24
      change _ = _ at h24
      subst h24
      intro v27 h27
      change _ = _ at h27
      subst h27
      intro v30 h30
      change _ = _ at h30
      subst h30
      refine turn_on (by rfl) ?_
      intro K hK
      simp only [List.getD_cons_zero, List.getD_cons_succ, List.setIfInBounds_toArray, List.set_cons_zero, List.set_cons_succ]
      go_simp
      refine hK _ _ ⟨rfl, Kept.refl _, ?_⟩
      show _ = _
      simp only [List.getD_cons_zero, List.getD_cons_succ, Array.getD_eq_getD_getElem?, List.getElem?_toArray, List.getElem?_cons_zero, List.getElem?_cons_succ, Option.getD_some]
      rfl
    case r2o32 =>
      intro w1 hG
      intro v24 h24
      change _ = _ at h24
      subst h24
      intro v31 h31
      change _ = _ at h31
      subst h31
      refine turn_on (by rfl) ?_
      intro K hK
      simp only [List.getD_cons_zero, List.getD_cons_succ, List.setIfInBounds_toArray, List.set_cons_zero, List.set_cons_succ]
      go_simp
      refine hK _ _ ⟨rfl, Kept.refl _, ?_⟩
      show _ = _
      simp only [List.getD_cons_zero, List.getD_cons_succ, Array.getD_eq_getD_getElem?, List.getElem?_toArray, List.getElem?_cons_zero, List.getElem?_cons_succ, Option.getD_some]
      rfl
    case r2o33 =>
      intro w1 hG
      intro v32 h32
      change _ = _ at h32
      subst h32
      refine turn_on (by rfl) ?_
      intro K hK
      simp only [List.getD_cons_zero, List.getD_cons_succ, List.setIfInBounds_toArray, List.set_cons_zero, List.set_cons_succ]
      go_simp
      refine hK _ _ ⟨rfl, Kept.refl _, ?_⟩
      show _ = _
      simp only [List.getD_cons_zero, List.getD_cons_succ, Array.getD_eq_getD_getElem?, List.getElem?_toArray, List.getElem?_cons_zero, List.getElem?_cons_succ, Option.getD_some]
      rfl
  intro w1 hG
  intro v0 h0
  change _ = _ at h0
  subst h0
  intro v1 h1
  change _ = _ at h1
  subst h1
  intro v2 h2
  change _ = _ at h2
  subst h2
  intro v3 h3
  change _ = _ at h3
  subst h3
  intro v4 h4
  change _ = _ at h4
  subst h4
  intro v5 h5
  change _ = _ at h5
  subst h5
  intro v6 h6
  change _ = _ at h6
  subst h6
  intro v7 h7
  change _ = _ at h7
  subst h7
  intro v8 h8
  change _ = _ at h8
  subst h8
  intro v9 h9
  change _ = _ at h9
  subst h9
  intro v10 h10
  change _ = _ at h10
  subst h10
  intro v11 h11
  change _ = _ at h11
  subst h11
  intro v12 h12
  change _ = _ at h12
  subst h12
  intro v13 h13
  change _ = _ at h13
  subst h13
  intro v14 h14
  change _ = _ at h14
  subst h14
  intro v15 h15
  change _ = _ at h15
  subst h15
  intro v16 h16
  change _ = _ at h16
  subst h16
  intro v17 h17
  change _ = _ at h17
  subst h17
  intro v18 h18
  change _ = _ at h18
  subst h18
  intro v19 h19
  change _ = _ at h19
  subst h19
  intro v20 h20
  change _ = _ at h20
  subst h20
  intro v21 h21
  change _ = _ at h21
  subst h21
  intro v22 h22
  change _ = _ at h22
  subst h22
  intro v23 h23
  change _ = _ at h23
  subst h23
  intro v24 h24
  change _ = _ at h24
  subst h24
  intro v25 h25
  change _ = _ at h25
  subst h25
  intro v26 h26
  change _ = _ at h26
  subst h26
  intro v27 h27
  change _ = _ at h27
  subst h27
  intro v28 h28
  change _ = _ at h28
  subst h28
  intro v29 h29
  change _ = _ at h29
  subst h29
  intro v30 h30
  change _ = _ at h30
  subst h30
  intro v31 h31
  change _ = _ at h31
  subst h31
  intro v32 h32
  change _ = _ at h32
  subst h32
  intro v33 h33
  change _ = _ at h33
  subst h33
  simp only [Given, List.getD_cons_zero, List.getD_cons_succ, List.setIfInBounds_toArray, List.set_cons_zero, List.set_cons_succ]
  replace hh := (hG.block w.heap.size hlt).trans hh
  replace hB := hB.drew.trans (Below.mono hG hB.size)
  clear hlt
  obtain ⟨c0, c1, c2, c3, c4, c5, c6, c7, c8⟩ := cells9 hh
  go_wp2
  go_ret
  exact ⟨rfl, hB⟩

theorem geomShapes_walk (a0 a1 a2 a3 a4 a5 a6 a7 a8 k s b : Int) (w : World) (hs1 : s ≤ 9223372036854775807) (hs2 : -9223372036854775808 ≤ s) :
    Calls Try.prog 4 #[.agg #[.int .i64 a0, .int .i64 a1, .int .i64 a2, .int .i64 a3, .int .i64 a4, .int .i64 a5, .int .i64 a6, .int .i64 a7, .int .i64 a8], .int .i64 k, .int .i64 s, .int .i64 b] w fun e w' => e = .returned (.bool true) ∧ Below w.heap.size w w' := by
  cases hp : chkB a0 a1 a2 a3 a4 a5 a6 a7 a8 with
  | false => exact shapes_no a0 a1 a2 a3 a4 a5 a6 a7 a8 k s b w hp
  | true =>
    by_cases hb : b ≤ 1099511627776
    · exact shapes_ok a0 a1 a2 a3 a4 a5 a6 a7 a8 k s b w hp hb hs1 hs2
    · exact shapes_far a0 a1 a2 a3 a4 a5 a6 a7 a8 k s b w hp (by omega)
end Go.Proofs.Ythpmjapohkdamaa
