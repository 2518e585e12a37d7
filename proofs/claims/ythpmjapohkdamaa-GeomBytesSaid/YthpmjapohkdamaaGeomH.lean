/- The contracts of Of. -/
import Derived.Test.YthpmjapohkdamaaGeomG
namespace Go.Proofs.Ythpmjapohkdamaa
open Go.RowKit
set_option linter.unusedSimpArgs false in
set_option linter.unusedVariables false in
set_option maxHeartbeats 2000000 in
theorem of_a (a0 a1 a2 a3 a4 a5 a6 a7 a8 s : Int) (w : World) (hp : chkB a0 a1 a2 a3 a4 a5 a6 a7 a8 = true) (hs1 : s ≤ 9223372036854775807) (hs2 : -9223372036854775808 ≤ s) (hlow : s < 2 + a2) :
    Calls Try.prog 18 #[.agg #[.int .i64 a0, .int .i64 a1, .int .i64 a2, .int .i64 a3, .int .i64 a4, .int .i64 a5, .int .i64 a6, .int .i64 a7, .int .i64 a8], .int .i64 s] w fun e w' => e = .returned (.int .i64 (ofN a0 a2 a3 s)) ∧ Below w.heap.size w w' := by
  obtain ⟨b0, b1, b2, b3, b4, hs, hb4, hc⟩ := of_chk hp
  have hbl := blobN_bounds a1 (a4 + 64) (by omega)
  go_enter Try.func18, Try.ntmps18
  go_wp2_with (fail)
  have hd1 : decide (s < 2 + a2) = true := decide_eq_true hlow
  have hh0 := heap_alloc_new w (.cells #[.int .i64 a0, .int .i64 a1, .int .i64 a2, .int .i64 a3, .int .i64 a4, .int .i64 a5, .int .i64 a6, .int .i64 a7, .int .i64 a8] 23)
  have hB := (Below.refl w.heap.size w).alloc (Nat.le_refl _) (.cells #[.int .i64 a0, .int .i64 a1, .int .i64 a2, .int .i64 a3, .int .i64 a4, .int .i64 a5, .int .i64 a6, .int .i64 a7, .int .i64 a8] 23)
  refine' reg_free (G := Kept) (pickF [eqV _, eqV _, eqV _, eqV _, eqV _, eqV _, eqV _, eqV _, eqV _, eqV _, eqV _, eqV _, eqV _, eqV _, eqV _, eqV _, eqV _, eqV _, eqV _]) [9, 10, 11, 12, 13, 14, 15, 16, 17, 18, 19, 20, 21, 22, 23, 24, 25, 26, 27] [[], [0], [1], [2], [3], [3], [3, 4, 5], [3, 6], [7], [8], [8], [8, 9, 10], [8], [8, 12], [8, 11, 13], [8], [8, 15], [8, 14, 16], [8, 17]] [0, 1, 2, 3, 4, 5, 6, 7, 8, 9, 10, 11, 12, 13, 14, 15, 16, 17, 18] (by kernel_rfl) Kept.refl Kept.trans (pick_stays ⟨eqV_stays _, eqV_stays _, eqV_stays _, eqV_stays _, eqV_stays _, eqV_stays _, eqV_stays _, eqV_stays _, eqV_stays _, eqV_stays _, eqV_stays _, eqV_stays _, eqV_stays _, eqV_stays _, eqV_stays _, eqV_stays _, eqV_stays _, eqV_stays _, eqV_stays _, trivial⟩) 34 rfl (by kernel_rfl) (by kernel_rfl) rfl rfl ?obl ?fin
  case obl =>
    refine And.intro ?o0 (And.intro ?o1 (And.intro ?o2 (And.intro ?o3 (And.intro ?o4 (And.intro ?o5 (And.intro ?o6 (And.intro ?o7 (And.intro ?o8 (And.intro ?o9 (And.intro ?o10 (And.intro ?o11 (And.intro ?o12 (And.intro ?o13 (And.intro ?o14 (And.intro ?o15 (And.intro ?o16 (And.intro ?o17 (And.intro ?o18 (True.intro)))))))))))))))))))
    case o0 =>
      intro w1 hG
      refine turn_on (by rfl) ?_
      intro K hK
      obtain ⟨c0, c1, c2, c3, c4, c5, c6, c7, c8⟩ := cells9 ((hG.block w.heap.size (by simp)).trans hh0)
      go_simp
      refine hK _ _ ⟨rfl, Kept.refl _, ?_⟩
      show _ = _
      simp only [List.getD_cons_zero, List.getD_cons_succ, Array.getD_eq_getD_getElem?, List.getElem?_toArray, List.getElem?_cons_zero, List.getElem?_cons_succ, Option.getD_some]
      rfl
    case o1 =>
      intro w1 hG
      intro v0 h0
      change _ = _ at h0
      subst h0
      refine turn_on (by rfl) ?_
      intro K hK
      simp only [List.getD_cons_zero, List.getD_cons_succ, List.setIfInBounds_toArray, List.set_cons_zero, List.set_cons_succ]
      go_simp
      refine Calls.mono (check_any _ _ _ _ _ _ _ _ _ _) ?_
      rintro e w2 ⟨rfl, hb⟩
      refine hK _ _ ⟨rfl, hb, ?_⟩
      show _ = _
      simp only [List.getD_cons_zero, List.getD_cons_succ, Array.getD_eq_getD_getElem?, List.getElem?_toArray, List.getElem?_cons_zero, List.getElem?_cons_succ, Option.getD_some]
      rfl
    case o2 =>
      intro w1 hG
      intro v1 h1
      change _ = _ at h1
      subst h1
      refine turn_on (by rfl) ?_
      intro K hK
      simp only [List.getD_cons_zero, List.getD_cons_succ, List.setIfInBounds_toArray, List.set_cons_zero, List.set_cons_succ]
      go_simp
      refine hK _ _ ⟨rfl, Kept.refl _, ?_⟩
      show _ = _
      simp only [List.getD_cons_zero, List.getD_cons_succ, Array.getD_eq_getD_getElem?, List.getElem?_toArray, List.getElem?_cons_zero, List.getElem?_cons_succ, Option.getD_some]
      rfl
    case o3 =>
      intro w1 hG
      intro v2 h2
      change _ = _ at h2
      subst h2
      refine turn_on (by rfl) ?_
      intro K hK
      simp only [List.getD_cons_zero, List.getD_cons_succ, List.setIfInBounds_toArray, List.set_cons_zero, List.set_cons_succ]
      go_simp
      refine hK _ _ ⟨rfl, Kept.refl _, ?_⟩
      show _ = _
      simp only [List.getD_cons_zero, List.getD_cons_succ, Array.getD_eq_getD_getElem?, List.getElem?_toArray, List.getElem?_cons_zero, List.getElem?_cons_succ, Option.getD_some]
      rfl
    case o4 =>
      intro w1 hG
      intro v3 h3
      change _ = _ at h3
      subst h3
      refine turn_on (by rfl) ?_
      intro K hK
      simp only [List.getD_cons_zero, List.getD_cons_succ, List.setIfInBounds_toArray, List.set_cons_zero, List.set_cons_succ]
      go_simp
      refine hK _ _ ⟨rfl, Kept.refl _, ?_⟩
      show _ = _
      simp only [List.getD_cons_zero, List.getD_cons_succ, Array.getD_eq_getD_getElem?, List.getElem?_toArray, List.getElem?_cons_zero, List.getElem?_cons_succ, Option.getD_some]
      rfl
    case o5 =>
      intro w1 hG
      intro v3 h3
      change _ = _ at h3
      subst h3
      refine turn_on (by rfl) ?_
      intro K hK
      simp only [List.getD_cons_zero, List.getD_cons_succ, List.setIfInBounds_toArray, List.set_cons_zero, List.set_cons_succ]
      go_simp
      refine hK _ _ ⟨rfl, Kept.refl _, ?_⟩
      show _ = _
      simp only [List.getD_cons_zero, List.getD_cons_succ, Array.getD_eq_getD_getElem?, List.getElem?_toArray, List.getElem?_cons_zero, List.getElem?_cons_succ, Option.getD_some]
      rfl
    case o6 =>
      intro w1 hG
      intro v3 h3
      change _ = _ at h3
      subst h3
      intro v4 h4
      change _ = _ at h4
      subst h4
      intro v5 h5
      change _ = _ at h5
      subst h5
      refine turn_on (by rfl) ?_
      intro K hK
      simp only [List.getD_cons_zero, List.getD_cons_succ, List.setIfInBounds_toArray, List.set_cons_zero, List.set_cons_succ]
      go_simp
      refine hK _ _ ⟨rfl, Kept.refl _, ?_⟩
      show _ = _
      simp only [List.getD_cons_zero, List.getD_cons_succ, Array.getD_eq_getD_getElem?, List.getElem?_toArray, List.getElem?_cons_zero, List.getElem?_cons_succ, Option.getD_some]
      rfl
    case o7 =>
      intro w1 hG
      intro v3 h3
      change _ = _ at h3
      subst h3
      intro v6 h6
      change _ = _ at h6
      subst h6
      refine turn_on (by rfl) ?_
      intro K hK
      simp only [List.getD_cons_zero, List.getD_cons_succ, List.setIfInBounds_toArray, List.set_cons_zero, List.set_cons_succ]
      go_simp
      refine hK _ _ ⟨rfl, Kept.refl _, ?_⟩
      show _ = _
      simp only [List.getD_cons_zero, List.getD_cons_succ, Array.getD_eq_getD_getElem?, List.getElem?_toArray, List.getElem?_cons_zero, List.getElem?_cons_succ, Option.getD_some]
      rfl
    case o8 =>
      intro w1 hG
      intro v7 h7
      change _ = _ at h7
      subst h7
      refine turn_on (by rfl) ?_
      intro K hK
      simp only [List.getD_cons_zero, List.getD_cons_succ, List.setIfInBounds_toArray, List.set_cons_zero, List.set_cons_succ]
      go_simp
      refine hK _ _ ⟨rfl, Kept.refl _, ?_⟩
      show _ = _
      simp only [List.getD_cons_zero, List.getD_cons_succ, Array.getD_eq_getD_getElem?, List.getElem?_toArray, List.getElem?_cons_zero, List.getElem?_cons_succ, Option.getD_some]
      rfl
    case o9 =>
      intro w1 hG
      intro v8 h8
      change _ = _ at h8
      subst h8
      refine turn_off (by rfl) ?_
      show _ = _
      rfl
    case o10 =>
      intro w1 hG
      intro v8 h8
      change _ = _ at h8
      subst h8
      refine turn_off (by rfl) ?_
      show _ = _
      rfl
    case o11 =>
      intro w1 hG
      intro v8 h8
      change _ = _ at h8
      subst h8
      intro v9 h9
      change _ = _ at h9
      subst h9
      intro v10 h10
      change _ = _ at h10
      subst h10
      refine turn_off (by rfl) ?_
      show _ = _
      rfl
    case o12 =>
      intro w1 hG
      intro v8 h8
      change _ = _ at h8
      subst h8
      refine turn_off (by rfl) ?_
      show _ = _
      rfl
    case o13 =>
      intro w1 hG
      intro v8 h8
      change _ = _ at h8
      subst h8
      intro v12 h12
      change _ = _ at h12
      subst h12
      refine turn_off (by rfl) ?_
      show _ = _
      rfl
    case o14 =>
      intro w1 hG
      intro v8 h8
      change _ = _ at h8
      subst h8
      intro v11 h11
      change _ = _ at h11
      subst h11
      intro v13 h13
      change _ = _ at h13
      subst h13
      refine turn_off (by rfl) ?_
      show _ = _
      rfl
    case o15 =>
      intro w1 hG
      intro v8 h8
      change _ = _ at h8
      subst h8
      refine turn_off (by rfl) ?_
      show _ = _
      rfl
    case o16 =>
      intro w1 hG
      intro v8 h8
      change _ = _ at h8
      subst h8
      intro v15 h15
      change _ = _ at h15
      subst h15
      refine turn_off (by rfl) ?_
      show _ = _
      rfl
    case o17 =>
      intro w1 hG
      intro v8 h8
      change _ = _ at h8
      subst h8
      intro v14 h14
      change _ = _ at h14
      subst h14
      intro v16 h16
      change _ = _ at h16
      subst h16
      refine turn_off (by rfl) ?_
      show _ = _
      rfl
    case o18 =>
      intro w1 hG
      intro v8 h8
      change _ = _ at h8
      subst h8
      intro v17 h17
      change _ = _ at h17
      subst h17
      refine turn_on (by rfl) ?_
      intro K hK
      simp only [List.getD_cons_zero, List.getD_cons_succ, List.setIfInBounds_toArray, List.set_cons_zero, List.set_cons_succ]
      go_simp
      refine hK _ _ ⟨rfl, Kept.refl _, ?_⟩
      show _ = _
      simp only [List.getD_cons_zero, List.getD_cons_succ, Array.getD_eq_getD_getElem?, List.getElem?_toArray, List.getElem?_cons_zero, List.getElem?_cons_succ, Option.getD_some]
      rfl
  intro w1 hG
  intro v0 h0
  change _ = _ at h0
  subst h0
  intro v1 h1
  change _ = _ at h1
  subst h1
  intro v2 h2
  change _ = _ at h2
  subst h2
  intro v3 h3
  change _ = _ at h3
  subst h3
  intro v4 h4
  change _ = _ at h4
  subst h4
  intro v5 h5
  change _ = _ at h5
  subst h5
  intro v6 h6
  change _ = _ at h6
  subst h6
  intro v7 h7
  change _ = _ at h7
  subst h7
  intro v8 h8
  change _ = _ at h8
  subst h8
  intro v9 h9
  change _ = _ at h9
  subst h9
  intro v10 h10
  change _ = _ at h10
  subst h10
  intro v11 h11
  change _ = _ at h11
  subst h11
  intro v12 h12
  change _ = _ at h12
  subst h12
  intro v13 h13
  change _ = _ at h13
  subst h13
  intro v14 h14
  change _ = _ at h14
  subst h14
  intro v15 h15
  change _ = _ at h15
  subst h15
  intro v16 h16
  change _ = _ at h16
  subst h16
  intro v17 h17
  change _ = _ at h17
  subst h17
  intro v18 h18
  change _ = _ at h18
  subst h18
  simp only [Given, List.getD_cons_zero, List.getD_cons_succ, List.setIfInBounds_toArray, List.set_cons_zero, List.set_cons_succ]
  have hK := hB.drew.trans (Below.mono hG hB.size)
  go_wp2
  go_ret
  exact ⟨retI (of_low hlow), hK⟩

set_option linter.unusedSimpArgs false in
set_option linter.unusedVariables false in
set_option maxHeartbeats 2000000 in
theorem of_b (a0 a1 a2 a3 a4 a5 a6 a7 a8 s : Int) (w : World) (hp : chkB a0 a1 a2 a3 a4 a5 a6 a7 a8 = true) (hs1 : s ≤ 9223372036854775807) (hs2 : -9223372036854775808 ≤ s) (hlow : 2 + a2 ≤ s) :
    Calls Try.prog 18 #[.agg #[.int .i64 a0, .int .i64 a1, .int .i64 a2, .int .i64 a3, .int .i64 a4, .int .i64 a5, .int .i64 a6, .int .i64 a7, .int .i64 a8], .int .i64 s] w fun e w' => e = .returned (.int .i64 (ofN a0 a2 a3 s)) ∧ Below w.heap.size w w' := by
  obtain ⟨b0, b1, b2, b3, b4, hs, hb4, hc⟩ := of_chk hp
  have hbl := blobN_bounds a1 (a4 + 64) (by omega)
  go_enter Try.func18, Try.ntmps18
  go_wp2_with (fail)
  have hd1 : decide (s < 2 + a2) = false := decide_eq_false (by omega)
  have hw1 : IntKind.i64.wrap (s - (2 + a2)) = s - (2 + a2) := IntWalk.i64_in _ (by omega)
  have hq : IntKind.i64.wrap ((s - (2 + a2)).tdiv a3) = (s - (2 + a2)) / a3 := IntWalk.i64_quo _ _ (by omega)
  have hnz : ¬ a3 = 0 := by omega
  have hh0 := heap_alloc_new w (.cells #[.int .i64 a0, .int .i64 a1, .int .i64 a2, .int .i64 a3, .int .i64 a4, .int .i64 a5, .int .i64 a6, .int .i64 a7, .int .i64 a8] 23)
  have hB := (Below.refl w.heap.size w).alloc (Nat.le_refl _) (.cells #[.int .i64 a0, .int .i64 a1, .int .i64 a2, .int .i64 a3, .int .i64 a4, .int .i64 a5, .int .i64 a6, .int .i64 a7, .int .i64 a8] 23)
  refine' reg_free (G := Kept) (pickF [eqV _, eqV _, eqV _, eqV _, eqV _, eqV _, eqV _, eqV _, eqV _, eqV _, eqV _, eqV _, eqV _, eqV _, eqV _, eqV _, eqV _, eqV _, eqV _]) [9, 10, 11, 12, 13, 14, 15, 16, 17, 18, 19, 20, 21, 22, 23, 24, 25, 26, 27] [[], [0], [1], [2], [3], [3], [3, 4, 5], [3, 6], [7], [8], [8], [8, 9, 10], [8], [8, 12], [8, 11, 13], [8], [8, 15], [8, 14, 16], [8, 17]] [0, 1, 2, 3, 4, 5, 6, 7, 8, 9, 10, 11, 12, 13, 14, 15, 16, 17, 18] (by kernel_rfl) Kept.refl Kept.trans (pick_stays ⟨eqV_stays _, eqV_stays _, eqV_stays _, eqV_stays _, eqV_stays _, eqV_stays _, eqV_stays _, eqV_stays _, eqV_stays _, eqV_stays _, eqV_stays _, eqV_stays _, eqV_stays _, eqV_stays _, eqV_stays _, eqV_stays _, eqV_stays _, eqV_stays _, eqV_stays _, trivial⟩) 34 rfl (by kernel_rfl) (by kernel_rfl) rfl rfl ?obl ?fin
  case obl =>
    refine And.intro ?o0 (And.intro ?o1 (And.intro ?o2 (And.intro ?o3 (And.intro ?o4 (And.intro ?o5 (And.intro ?o6 (And.intro ?o7 (And.intro ?o8 (And.intro ?o9 (And.intro ?o10 (And.intro ?o11 (And.intro ?o12 (And.intro ?o13 (And.intro ?o14 (And.intro ?o15 (And.intro ?o16 (And.intro ?o17 (And.intro ?o18 (True.intro)))))))))))))))))))
    case o0 =>
      intro w1 hG
      refine turn_on (by rfl) ?_
      intro K hK
      obtain ⟨c0, c1, c2, c3, c4, c5, c6, c7, c8⟩ := cells9 ((hG.block w.heap.size (by simp)).trans hh0)
      go_simp
      refine hK _ _ ⟨rfl, Kept.refl _, ?_⟩
      show _ = _
      simp only [List.getD_cons_zero, List.getD_cons_succ, Array.getD_eq_getD_getElem?, List.getElem?_toArray, List.getElem?_cons_zero, List.getElem?_cons_succ, Option.getD_some]
      rfl
    case o1 =>
      intro w1 hG
      intro v0 h0
      change _ = _ at h0
      subst h0
      refine turn_on (by rfl) ?_
      intro K hK
      simp only [List.getD_cons_zero, List.getD_cons_succ, List.setIfInBounds_toArray, List.set_cons_zero, List.set_cons_succ]
      go_simp
      refine Calls.mono (check_any _ _ _ _ _ _ _ _ _ _) ?_
      rintro e w2 ⟨rfl, hb⟩
      refine hK _ _ ⟨rfl, hb, ?_⟩
      show _ = _
      simp only [List.getD_cons_zero, List.getD_cons_succ, Array.getD_eq_getD_getElem?, List.getElem?_toArray, List.getElem?_cons_zero, List.getElem?_cons_succ, Option.getD_some]
      rfl
    case o2 =>
      intro w1 hG
      intro v1 h1
      change _ = _ at h1
      subst h1
      refine turn_on (by rfl) ?_
      intro K hK
      simp only [List.getD_cons_zero, List.getD_cons_succ, List.setIfInBounds_toArray, List.set_cons_zero, List.set_cons_succ]
      go_simp
      refine hK _ _ ⟨rfl, Kept.refl _, ?_⟩
      show _ = _
      simp only [List.getD_cons_zero, List.getD_cons_succ, Array.getD_eq_getD_getElem?, List.getElem?_toArray, List.getElem?_cons_zero, List.getElem?_cons_succ, Option.getD_some]
      rfl
    case o3 =>
      intro w1 hG
      intro v2 h2
      change _ = _ at h2
      subst h2
      refine turn_on (by rfl) ?_
      intro K hK
      simp only [List.getD_cons_zero, List.getD_cons_succ, List.setIfInBounds_toArray, List.set_cons_zero, List.set_cons_succ]
      go_simp
      refine hK _ _ ⟨rfl, Kept.refl _, ?_⟩
      show _ = _
      simp only [List.getD_cons_zero, List.getD_cons_succ, Array.getD_eq_getD_getElem?, List.getElem?_toArray, List.getElem?_cons_zero, List.getElem?_cons_succ, Option.getD_some]
      rfl
    case o4 =>
      intro w1 hG
      intro v3 h3
      change _ = _ at h3
      subst h3
      refine turn_on (by rfl) ?_
      intro K hK
      simp only [List.getD_cons_zero, List.getD_cons_succ, List.setIfInBounds_toArray, List.set_cons_zero, List.set_cons_succ]
      go_simp
      refine hK _ _ ⟨rfl, Kept.refl _, ?_⟩
      show _ = _
      simp only [List.getD_cons_zero, List.getD_cons_succ, Array.getD_eq_getD_getElem?, List.getElem?_toArray, List.getElem?_cons_zero, List.getElem?_cons_succ, Option.getD_some]
      rfl
    case o5 =>
      intro w1 hG
      intro v3 h3
      change _ = _ at h3
      subst h3
      refine turn_on (by rfl) ?_
      intro K hK
      simp only [List.getD_cons_zero, List.getD_cons_succ, List.setIfInBounds_toArray, List.set_cons_zero, List.set_cons_succ]
      go_simp
      refine hK _ _ ⟨rfl, Kept.refl _, ?_⟩
      show _ = _
      simp only [List.getD_cons_zero, List.getD_cons_succ, Array.getD_eq_getD_getElem?, List.getElem?_toArray, List.getElem?_cons_zero, List.getElem?_cons_succ, Option.getD_some]
      rfl
    case o6 =>
      intro w1 hG
      intro v3 h3
      change _ = _ at h3
      subst h3
      intro v4 h4
      change _ = _ at h4
      subst h4
      intro v5 h5
      change _ = _ at h5
      subst h5
      refine turn_on (by rfl) ?_
      intro K hK
      simp only [List.getD_cons_zero, List.getD_cons_succ, List.setIfInBounds_toArray, List.set_cons_zero, List.set_cons_succ]
      go_simp
      refine hK _ _ ⟨rfl, Kept.refl _, ?_⟩
      show _ = _
      simp only [List.getD_cons_zero, List.getD_cons_succ, Array.getD_eq_getD_getElem?, List.getElem?_toArray, List.getElem?_cons_zero, List.getElem?_cons_succ, Option.getD_some]
      rfl
    case o7 =>
      intro w1 hG
      intro v3 h3
      change _ = _ at h3
      subst h3
      intro v6 h6
      change _ = _ at h6
      subst h6
      refine turn_on (by rfl) ?_
      intro K hK
      simp only [List.getD_cons_zero, List.getD_cons_succ, List.setIfInBounds_toArray, List.set_cons_zero, List.set_cons_succ]
      go_simp
      refine hK _ _ ⟨rfl, Kept.refl _, ?_⟩
      show _ = _
      simp only [List.getD_cons_zero, List.getD_cons_succ, Array.getD_eq_getD_getElem?, List.getElem?_toArray, List.getElem?_cons_zero, List.getElem?_cons_succ, Option.getD_some]
      rfl
    case o8 =>
      intro w1 hG
      intro v7 h7
      change _ = _ at h7
      subst h7
      refine turn_on (by rfl) ?_
      intro K hK
      simp only [List.getD_cons_zero, List.getD_cons_succ, List.setIfInBounds_toArray, List.set_cons_zero, List.set_cons_succ]
      go_simp
      refine hK _ _ ⟨rfl, Kept.refl _, ?_⟩
      show _ = _
      simp only [List.getD_cons_zero, List.getD_cons_succ, Array.getD_eq_getD_getElem?, List.getElem?_toArray, List.getElem?_cons_zero, List.getElem?_cons_succ, Option.getD_some]
      rfl
    case o9 =>
      intro w1 hG
      intro v8 h8
      change _ = _ at h8
      subst h8
      refine turn_on (by rfl) ?_
      intro K hK
      simp only [List.getD_cons_zero, List.getD_cons_succ, List.setIfInBounds_toArray, List.set_cons_zero, List.set_cons_succ]
      go_simp
      refine hK _ _ ⟨rfl, Kept.refl _, ?_⟩
      show _ = _
      simp only [List.getD_cons_zero, List.getD_cons_succ, Array.getD_eq_getD_getElem?, List.getElem?_toArray, List.getElem?_cons_zero, List.getElem?_cons_succ, Option.getD_some]
      rfl
    case o10 =>
      intro w1 hG
      intro v8 h8
      change _ = _ at h8
      subst h8
      refine turn_on (by rfl) ?_
      intro K hK
      simp only [List.getD_cons_zero, List.getD_cons_succ, List.setIfInBounds_toArray, List.set_cons_zero, List.set_cons_succ]
      go_simp
      refine hK _ _ ⟨rfl, Kept.refl _, ?_⟩
      show _ = _
      simp only [List.getD_cons_zero, List.getD_cons_succ, Array.getD_eq_getD_getElem?, List.getElem?_toArray, List.getElem?_cons_zero, List.getElem?_cons_succ, Option.getD_some]
      rfl
    case o11 =>
      intro w1 hG
      intro v8 h8
      change _ = _ at h8
      subst h8
      intro v9 h9
      change _ = _ at h9
      subst h9
      intro v10 h10
      change _ = _ at h10
      subst h10
      refine turn_on (by rfl) ?_
      intro K hK
      simp only [List.getD_cons_zero, List.getD_cons_succ, List.setIfInBounds_toArray, List.set_cons_zero, List.set_cons_succ]
      go_simp
      refine hK _ _ ⟨rfl, Kept.refl _, ?_⟩
      show _ = _
      simp only [List.getD_cons_zero, List.getD_cons_succ, Array.getD_eq_getD_getElem?, List.getElem?_toArray, List.getElem?_cons_zero, List.getElem?_cons_succ, Option.getD_some]
      rfl
    case o12 =>
      intro w1 hG
      intro v8 h8
      change _ = _ at h8
      subst h8
      refine turn_on (by rfl) ?_
      intro K hK
      simp only [List.getD_cons_zero, List.getD_cons_succ, List.setIfInBounds_toArray, List.set_cons_zero, List.set_cons_succ]
      go_simp
      refine hK _ _ ⟨rfl, Kept.refl _, ?_⟩
      show _ = _
      simp only [List.getD_cons_zero, List.getD_cons_succ, Array.getD_eq_getD_getElem?, List.getElem?_toArray, List.getElem?_cons_zero, List.getElem?_cons_succ, Option.getD_some]
      rfl
    case o13 =>
      intro w1 hG
      intro v8 h8
      change _ = _ at h8
      subst h8
      intro v12 h12
      change _ = _ at h12
      subst h12
      refine turn_on (by rfl) ?_
      intro K hK
      simp only [List.getD_cons_zero, List.getD_cons_succ, List.setIfInBounds_toArray, List.set_cons_zero, List.set_cons_succ]
      obtain ⟨c0, c1, c2, c3, c4, c5, c6, c7, c8⟩ := cells9 ((hG.block w.heap.size (by simp)).trans hh0)
      go_simp
      refine hK _ _ ⟨rfl, Kept.refl _, ?_⟩
      show _ = _
      simp only [List.getD_cons_zero, List.getD_cons_succ, Array.getD_eq_getD_getElem?, List.getElem?_toArray, List.getElem?_cons_zero, List.getElem?_cons_succ, Option.getD_some]
      rfl
    case o14 =>
      intro w1 hG
      intro v8 h8
      change _ = _ at h8
      subst h8
      intro v11 h11
      change _ = _ at h11
      subst h11
      intro v13 h13
      change _ = _ at h13
      subst h13
      refine turn_on (by rfl) ?_
      intro K hK
      simp only [List.getD_cons_zero, List.getD_cons_succ, List.setIfInBounds_toArray, List.set_cons_zero, List.set_cons_succ]
      go_simp
      refine hK _ _ ⟨rfl, Kept.refl _, ?_⟩
      show _ = _
      simp only [List.getD_cons_zero, List.getD_cons_succ, Array.getD_eq_getD_getElem?, List.getElem?_toArray, List.getElem?_cons_zero, List.getElem?_cons_succ, Option.getD_some]
      rfl
    case o15 =>
      intro w1 hG
      intro v8 h8
      change _ = _ at h8
      subst h8
      refine turn_on (by rfl) ?_
      intro K hK
      simp only [List.getD_cons_zero, List.getD_cons_succ, List.setIfInBounds_toArray, List.set_cons_zero, List.set_cons_succ]
      obtain ⟨c0, c1, c2, c3, c4, c5, c6, c7, c8⟩ := cells9 ((hG.block w.heap.size (by simp)).trans hh0)
      go_simp
      refine hK _ _ ⟨rfl, Kept.refl _, ?_⟩
      show _ = _
      simp only [List.getD_cons_zero, List.getD_cons_succ, Array.getD_eq_getD_getElem?, List.getElem?_toArray, List.getElem?_cons_zero, List.getElem?_cons_succ, Option.getD_some]
      rfl
    case o16 =>
      intro w1 hG
      intro v8 h8
      change _ = _ at h8
      subst h8
      intro v15 h15
      change _ = _ at h15
      subst h15
      refine turn_on (by rfl) ?_
      intro K hK
      simp only [List.getD_cons_zero, List.getD_cons_succ, List.setIfInBounds_toArray, List.set_cons_zero, List.set_cons_succ]
      go_simp
      refine Calls.mono (segments_any _ _ _ _ _ _ _ _ _ _ b0 b2 b3) ?_
      rintro e w2 ⟨rfl, hb⟩
      refine hK _ _ ⟨rfl, hb, ?_⟩
      show _ = _
      simp only [List.getD_cons_zero, List.getD_cons_succ, Array.getD_eq_getD_getElem?, List.getElem?_toArray, List.getElem?_cons_zero, List.getElem?_cons_succ, Option.getD_some]
      rfl
    case o17 =>
      intro w1 hG
      intro v8 h8
      change _ = _ at h8
      subst h8
      intro v14 h14
      change _ = _ at h14
      subst h14
      intro v16 h16
      change _ = _ at h16
      subst h16
      refine turn_on (by rfl) ?_
      intro K hK
      simp only [List.getD_cons_zero, List.getD_cons_succ, List.setIfInBounds_toArray, List.set_cons_zero, List.set_cons_succ]
      go_simp
      refine hK _ _ ⟨rfl, Kept.refl _, ?_⟩
      show _ = _
      simp only [List.getD_cons_zero, List.getD_cons_succ, Array.getD_eq_getD_getElem?, List.getElem?_toArray, List.getElem?_cons_zero, List.getElem?_cons_succ, Option.getD_some]
      rfl
    case o18 =>
      intro w1 hG
      intro v8 h8
      change _ = _ at h8
      subst h8
      intro v17 h17
      change _ = _ at h17
      subst h17
      refine turn_on (by rfl) ?_
      intro K hK
      simp only [List.getD_cons_zero, List.getD_cons_succ, List.setIfInBounds_toArray, List.set_cons_zero, List.set_cons_succ]
      go_simp
      refine hK _ _ ⟨rfl, Kept.refl _, ?_⟩
      show _ = _
      simp only [List.getD_cons_zero, List.getD_cons_succ, Array.getD_eq_getD_getElem?, List.getElem?_toArray, List.getElem?_cons_zero, List.getElem?_cons_succ, Option.getD_some]
      rfl
  intro w1 hG
  intro v0 h0
  change _ = _ at h0
  subst h0
  intro v1 h1
  change _ = _ at h1
  subst h1
  intro v2 h2
  change _ = _ at h2
  subst h2
  intro v3 h3
  change _ = _ at h3
  subst h3
  intro v4 h4
  change _ = _ at h4
  subst h4
  intro v5 h5
  change _ = _ at h5
  subst h5
  intro v6 h6
  change _ = _ at h6
  subst h6
  intro v7 h7
  change _ = _ at h7
  subst h7
  intro v8 h8
  change _ = _ at h8
  subst h8
  intro v9 h9
  change _ = _ at h9
  subst h9
  intro v10 h10
  change _ = _ at h10
  subst h10
  intro v11 h11
  change _ = _ at h11
  subst h11
  intro v12 h12
  change _ = _ at h12
  subst h12
  intro v13 h13
  change _ = _ at h13
  subst h13
  intro v14 h14
  change _ = _ at h14
  subst h14
  intro v15 h15
  change _ = _ at h15
  subst h15
  intro v16 h16
  change _ = _ at h16
  subst h16
  intro v17 h17
  change _ = _ at h17
  subst h17
  intro v18 h18
  change _ = _ at h18
  subst h18
  simp only [Given, List.getD_cons_zero, List.getD_cons_succ, List.setIfInBounds_toArray, List.set_cons_zero, List.set_cons_succ]
  have hK := hB.drew.trans (Below.mono hG hB.size)
  obtain ⟨c0, c1, c2, c3, c4, c5, c6, c7, c8⟩ := cells9 ((hG.block w.heap.size (by simp)).trans hh0)
  go_wp2
  · go_ret
    exact ⟨retI (of_far hlow (by assumption)), hK⟩
  · go_ret
    exact ⟨retI (of_in hlow (by assumption)), hK⟩

set_option linter.unusedSimpArgs false in
set_option linter.unusedVariables false in
set_option maxHeartbeats 2000000 in
theorem refof_a (a0 a1 a2 a3 a4 a5 a6 a7 a8 s : Int) (w : World) (hp : chkB a0 a1 a2 a3 a4 a5 a6 a7 a8 = true) (hs1 : s ≤ 9223372036854775807) (hs2 : -9223372036854775808 ≤ s) (hlow : s < 0) :
    Calls Try.prog 19 #[.agg #[.int .i64 a0, .int .i64 a1, .int .i64 a2, .int .i64 a3, .int .i64 a4, .int .i64 a5, .int .i64 a6, .int .i64 a7, .int .i64 a8], .int .i64 s] w fun e w' => e = .returned (.int .i64 (ofN a0 a2 a3 s)) ∧ Below w.heap.size w w' := by
  obtain ⟨b0, b1, b2, b3, b4, hs, hb4, hc⟩ := of_chk hp
  have hbl := blobN_bounds a1 (a4 + 64) (by omega)
  go_enter Try.func19, Try.ntmps19
  go_wp2_with (fail)
  have hd1 : decide (s < 0) = true := decide_eq_true hlow
  have hh0 := heap_alloc_new w (.cells #[.int .i64 a0, .int .i64 a1, .int .i64 a2, .int .i64 a3, .int .i64 a4, .int .i64 a5, .int .i64 a6, .int .i64 a7, .int .i64 a8] 23)
  have hB := (Below.refl w.heap.size w).alloc (Nat.le_refl _) (.cells #[.int .i64 a0, .int .i64 a1, .int .i64 a2, .int .i64 a3, .int .i64 a4, .int .i64 a5, .int .i64 a6, .int .i64 a7, .int .i64 a8] 23)
  refine' reg_free (G := Kept) (pickF [eqV _, eqV _, eqV _, eqV _, eqV _, eqV _, eqV _, eqV _, eqV _, eqV _, eqV _, eqV _, eqV _, eqV _, eqV _]) [11, 12, 13, 14, 15, 16, 17, 18, 19, 20, 21, 22, 23, 24, 25] [[], [0], [1], [2], [2, 3], [2, 4], [5], [6], [6], [6, 8], [6, 7, 9], [6], [6, 11], [6, 10, 12], [6, 13]] [0, 1, 2, 3, 4, 5, 6, 7, 8, 9, 10, 11, 12, 13, 14] (by kernel_rfl) Kept.refl Kept.trans (pick_stays ⟨eqV_stays _, eqV_stays _, eqV_stays _, eqV_stays _, eqV_stays _, eqV_stays _, eqV_stays _, eqV_stays _, eqV_stays _, eqV_stays _, eqV_stays _, eqV_stays _, eqV_stays _, eqV_stays _, eqV_stays _, trivial⟩) 30 rfl (by kernel_rfl) (by kernel_rfl) rfl rfl ?obl ?fin
  case obl =>
    refine And.intro ?o0 (And.intro ?o1 (And.intro ?o2 (And.intro ?o3 (And.intro ?o4 (And.intro ?o5 (And.intro ?o6 (And.intro ?o7 (And.intro ?o8 (And.intro ?o9 (And.intro ?o10 (And.intro ?o11 (And.intro ?o12 (And.intro ?o13 (And.intro ?o14 (True.intro)))))))))))))))
    case o0 =>
      intro w1 hG
      refine turn_on (by rfl) ?_
      intro K hK
      go_simp
      refine hK _ _ ⟨rfl, Kept.refl _, ?_⟩
      show _ = _
      simp only [List.getD_cons_zero, List.getD_cons_succ, Array.getD_eq_getD_getElem?, List.getElem?_toArray, List.getElem?_cons_zero, List.getElem?_cons_succ, Option.getD_some]
      rfl
    case o1 =>
      intro w1 hG
      intro v0 h0
      change _ = _ at h0
      subst h0
      refine turn_on (by rfl) ?_
      intro K hK
      simp only [List.getD_cons_zero, List.getD_cons_succ, List.setIfInBounds_toArray, List.set_cons_zero, List.set_cons_succ]
      go_simp
      refine hK _ _ ⟨rfl, Kept.refl _, ?_⟩
      show _ = _
      simp only [List.getD_cons_zero, List.getD_cons_succ, Array.getD_eq_getD_getElem?, List.getElem?_toArray, List.getElem?_cons_zero, List.getElem?_cons_succ, Option.getD_some]
      rfl
    case o2 =>
      intro w1 hG
      intro v1 h1
      change _ = _ at h1
      subst h1
      refine turn_on (by rfl) ?_
      intro K hK
      simp only [List.getD_cons_zero, List.getD_cons_succ, List.setIfInBounds_toArray, List.set_cons_zero, List.set_cons_succ]
      go_simp
      refine hK _ _ ⟨rfl, Kept.refl _, ?_⟩
      show _ = _
      simp only [List.getD_cons_zero, List.getD_cons_succ, Array.getD_eq_getD_getElem?, List.getElem?_toArray, List.getElem?_cons_zero, List.getElem?_cons_succ, Option.getD_some]
      rfl
    case o3 =>
      intro w1 hG
      intro v2 h2
      change _ = _ at h2
      subst h2
      refine turn_off (by rfl) ?_
      show _ = _
      rfl
    case o4 =>
      intro w1 hG
      intro v2 h2
      change _ = _ at h2
      subst h2
      intro v3 h3
      change _ = _ at h3
      subst h3
      refine turn_off (by rfl) ?_
      show _ = _
      rfl
    case o5 =>
      intro w1 hG
      intro v2 h2
      change _ = _ at h2
      subst h2
      intro v4 h4
      change _ = _ at h4
      subst h4
      refine turn_on (by rfl) ?_
      intro K hK
      simp only [List.getD_cons_zero, List.getD_cons_succ, List.setIfInBounds_toArray, List.set_cons_zero, List.set_cons_succ]
      go_simp
      refine hK _ _ ⟨rfl, Kept.refl _, ?_⟩
      show _ = _
      simp only [List.getD_cons_zero, List.getD_cons_succ, Array.getD_eq_getD_getElem?, List.getElem?_toArray, List.getElem?_cons_zero, List.getElem?_cons_succ, Option.getD_some]
      rfl
    case o6 =>
      intro w1 hG
      intro v5 h5
      change _ = _ at h5
      subst h5
      refine turn_on (by rfl) ?_
      intro K hK
      simp only [List.getD_cons_zero, List.getD_cons_succ, List.setIfInBounds_toArray, List.set_cons_zero, List.set_cons_succ]
      go_simp
      refine hK _ _ ⟨rfl, Kept.refl _, ?_⟩
      show _ = _
      simp only [List.getD_cons_zero, List.getD_cons_succ, Array.getD_eq_getD_getElem?, List.getElem?_toArray, List.getElem?_cons_zero, List.getElem?_cons_succ, Option.getD_some]
      rfl
    case o7 =>
      intro w1 hG
      intro v6 h6
      change _ = _ at h6
      subst h6
      refine turn_off (by rfl) ?_
      show _ = _
      rfl
    case o8 =>
      intro w1 hG
      intro v6 h6
      change _ = _ at h6
      subst h6
      refine turn_off (by rfl) ?_
      show _ = _
      rfl
    case o9 =>
      intro w1 hG
      intro v6 h6
      change _ = _ at h6
      subst h6
      intro v8 h8
      change _ = _ at h8
      subst h8
      refine turn_off (by rfl) ?_
      show _ = _
      rfl
    case o10 =>
      intro w1 hG
      intro v6 h6
      change _ = _ at h6
      subst h6
      intro v7 h7
      change _ = _ at h7
      subst h7
      intro v9 h9
      change _ = _ at h9
      subst h9
      refine turn_off (by rfl) ?_
      show _ = _
      rfl
    case o11 =>
      intro w1 hG
      intro v6 h6
      change _ = _ at h6
      subst h6
      refine turn_off (by rfl) ?_
      show _ = _
      rfl
    case o12 =>
      intro w1 hG
      intro v6 h6
      change _ = _ at h6
      subst h6
      intro v11 h11
      change _ = _ at h11
      subst h11
      refine turn_off (by rfl) ?_
      show _ = _
      rfl
    case o13 =>
      intro w1 hG
      intro v6 h6
      change _ = _ at h6
      subst h6
      intro v10 h10
      change _ = _ at h10
      subst h10
      intro v12 h12
      change _ = _ at h12
      subst h12
      refine turn_off (by rfl) ?_
      show _ = _
      rfl
    case o14 =>
      intro w1 hG
      intro v6 h6
      change _ = _ at h6
      subst h6
      intro v13 h13
      change _ = _ at h13
      subst h13
      refine turn_on (by rfl) ?_
      intro K hK
      simp only [List.getD_cons_zero, List.getD_cons_succ, List.setIfInBounds_toArray, List.set_cons_zero, List.set_cons_succ]
      go_simp
      refine hK _ _ ⟨rfl, Kept.refl _, ?_⟩
      show _ = _
      simp only [List.getD_cons_zero, List.getD_cons_succ, Array.getD_eq_getD_getElem?, List.getElem?_toArray, List.getElem?_cons_zero, List.getElem?_cons_succ, Option.getD_some]
      rfl
  intro w1 hG
  intro v0 h0
  change _ = _ at h0
  subst h0
  intro v1 h1
  change _ = _ at h1
  subst h1
  intro v2 h2
  change _ = _ at h2
  subst h2
  intro v3 h3
  change _ = _ at h3
  subst h3
  intro v4 h4
  change _ = _ at h4
  subst h4
  intro v5 h5
  change _ = _ at h5
  subst h5
  intro v6 h6
  change _ = _ at h6
  subst h6
  intro v7 h7
  change _ = _ at h7
  subst h7
  intro v8 h8
  change _ = _ at h8
  subst h8
  intro v9 h9
  change _ = _ at h9
  subst h9
  intro v10 h10
  change _ = _ at h10
  subst h10
  intro v11 h11
  change _ = _ at h11
  subst h11
  intro v12 h12
  change _ = _ at h12
  subst h12
  intro v13 h13
  change _ = _ at h13
  subst h13
  intro v14 h14
  change _ = _ at h14
  subst h14
  simp only [Given, List.getD_cons_zero, List.getD_cons_succ, List.setIfInBounds_toArray, List.set_cons_zero, List.set_cons_succ]
  have hK := hB.drew.trans (Below.mono hG hB.size)
  go_wp2
  go_ret
  exact ⟨retI (of_low (by omega)), hK⟩

set_option linter.unusedSimpArgs false in
set_option linter.unusedVariables false in
set_option maxHeartbeats 2000000 in
theorem refof_b (a0 a1 a2 a3 a4 a5 a6 a7 a8 s : Int) (w : World) (hp : chkB a0 a1 a2 a3 a4 a5 a6 a7 a8 = true) (hs1 : s ≤ 9223372036854775807) (hs2 : -9223372036854775808 ≤ s) (h0 : 0 ≤ s) (hlow : s < 2 + a2) :
    Calls Try.prog 19 #[.agg #[.int .i64 a0, .int .i64 a1, .int .i64 a2, .int .i64 a3, .int .i64 a4, .int .i64 a5, .int .i64 a6, .int .i64 a7, .int .i64 a8], .int .i64 s] w fun e w' => e = .returned (.int .i64 (ofN a0 a2 a3 s)) ∧ Below w.heap.size w w' := by
  obtain ⟨b0, b1, b2, b3, b4, hs, hb4, hc⟩ := of_chk hp
  have hbl := blobN_bounds a1 (a4 + 64) (by omega)
  go_enter Try.func19, Try.ntmps19
  go_wp2_with (fail)
  have hd1 : decide (s < 0) = false := decide_eq_false (by omega)
  have hd2 : decide (s - 2 - a2 < 0) = true := decide_eq_true (by omega)
  have hh0 := heap_alloc_new w (.cells #[.int .i64 a0, .int .i64 a1, .int .i64 a2, .int .i64 a3, .int .i64 a4, .int .i64 a5, .int .i64 a6, .int .i64 a7, .int .i64 a8] 23)
  have hB := (Below.refl w.heap.size w).alloc (Nat.le_refl _) (.cells #[.int .i64 a0, .int .i64 a1, .int .i64 a2, .int .i64 a3, .int .i64 a4, .int .i64 a5, .int .i64 a6, .int .i64 a7, .int .i64 a8] 23)
  refine' reg_free (G := Kept) (pickF [eqV _, eqV _, eqV _, eqV _, eqV _, eqV _, eqV _, eqV _, eqV _, eqV _, eqV _, eqV _, eqV _, eqV _, eqV _]) [11, 12, 13, 14, 15, 16, 17, 18, 19, 20, 21, 22, 23, 24, 25] [[], [0], [1], [2], [2, 3], [2, 4], [5], [6], [6], [6, 8], [6, 7, 9], [6], [6, 11], [6, 10, 12], [6, 13]] [0, 1, 2, 3, 4, 5, 6, 7, 8, 9, 10, 11, 12, 13, 14] (by kernel_rfl) Kept.refl Kept.trans (pick_stays ⟨eqV_stays _, eqV_stays _, eqV_stays _, eqV_stays _, eqV_stays _, eqV_stays _, eqV_stays _, eqV_stays _, eqV_stays _, eqV_stays _, eqV_stays _, eqV_stays _, eqV_stays _, eqV_stays _, eqV_stays _, trivial⟩) 30 rfl (by kernel_rfl) (by kernel_rfl) rfl rfl ?obl ?fin
  case obl =>
    refine And.intro ?o0 (And.intro ?o1 (And.intro ?o2 (And.intro ?o3 (And.intro ?o4 (And.intro ?o5 (And.intro ?o6 (And.intro ?o7 (And.intro ?o8 (And.intro ?o9 (And.intro ?o10 (And.intro ?o11 (And.intro ?o12 (And.intro ?o13 (And.intro ?o14 (True.intro)))))))))))))))
    case o0 =>
      intro w1 hG
      refine turn_on (by rfl) ?_
      intro K hK
      go_simp
      refine hK _ _ ⟨rfl, Kept.refl _, ?_⟩
      show _ = _
      simp only [List.getD_cons_zero, List.getD_cons_succ, Array.getD_eq_getD_getElem?, List.getElem?_toArray, List.getElem?_cons_zero, List.getElem?_cons_succ, Option.getD_some]
      rfl
    case o1 =>
      intro w1 hG
      intro v0 h0
      change _ = _ at h0
      subst h0
      refine turn_on (by rfl) ?_
      intro K hK
      simp only [List.getD_cons_zero, List.getD_cons_succ, List.setIfInBounds_toArray, List.set_cons_zero, List.set_cons_succ]
      go_simp
      refine hK _ _ ⟨rfl, Kept.refl _, ?_⟩
      show _ = _
      simp only [List.getD_cons_zero, List.getD_cons_succ, Array.getD_eq_getD_getElem?, List.getElem?_toArray, List.getElem?_cons_zero, List.getElem?_cons_succ, Option.getD_some]
      rfl
    case o2 =>
      intro w1 hG
      intro v1 h1
      change _ = _ at h1
      subst h1
      refine turn_on (by rfl) ?_
      intro K hK
      simp only [List.getD_cons_zero, List.getD_cons_succ, List.setIfInBounds_toArray, List.set_cons_zero, List.set_cons_succ]
      go_simp
      refine hK _ _ ⟨rfl, Kept.refl _, ?_⟩
      show _ = _
      simp only [List.getD_cons_zero, List.getD_cons_succ, Array.getD_eq_getD_getElem?, List.getElem?_toArray, List.getElem?_cons_zero, List.getElem?_cons_succ, Option.getD_some]
      rfl
    case o3 =>
      intro w1 hG
      intro v2 h2
      change _ = _ at h2
      subst h2
      refine turn_on (by rfl) ?_
      intro K hK
      simp only [List.getD_cons_zero, List.getD_cons_succ, List.setIfInBounds_toArray, List.set_cons_zero, List.set_cons_succ]
      go_simp
      refine hK _ _ ⟨rfl, Kept.refl _, ?_⟩
      show _ = _
      simp only [List.getD_cons_zero, List.getD_cons_succ, Array.getD_eq_getD_getElem?, List.getElem?_toArray, List.getElem?_cons_zero, List.getElem?_cons_succ, Option.getD_some]
      rfl
    case o4 =>
      intro w1 hG
      intro v2 h2
      change _ = _ at h2
      subst h2
      intro v3 h3
      change _ = _ at h3
      subst h3
      refine turn_on (by rfl) ?_
      intro K hK
      simp only [List.getD_cons_zero, List.getD_cons_succ, List.setIfInBounds_toArray, List.set_cons_zero, List.set_cons_succ]
      go_simp
      refine hK _ _ ⟨rfl, Kept.refl _, ?_⟩
      show _ = _
      simp only [List.getD_cons_zero, List.getD_cons_succ, Array.getD_eq_getD_getElem?, List.getElem?_toArray, List.getElem?_cons_zero, List.getElem?_cons_succ, Option.getD_some]
      rfl
    case o5 =>
      intro w1 hG
      intro v2 h2
      change _ = _ at h2
      subst h2
      intro v4 h4
      change _ = _ at h4
      subst h4
      refine turn_on (by rfl) ?_
      intro K hK
      simp only [List.getD_cons_zero, List.getD_cons_succ, List.setIfInBounds_toArray, List.set_cons_zero, List.set_cons_succ]
      go_simp
      refine hK _ _ ⟨rfl, Kept.refl _, ?_⟩
      show _ = _
      simp only [List.getD_cons_zero, List.getD_cons_succ, Array.getD_eq_getD_getElem?, List.getElem?_toArray, List.getElem?_cons_zero, List.getElem?_cons_succ, Option.getD_some]
      rfl
    case o6 =>
      intro w1 hG
      intro v5 h5
      change _ = _ at h5
      subst h5
      refine turn_on (by rfl) ?_
      intro K hK
      simp only [List.getD_cons_zero, List.getD_cons_succ, List.setIfInBounds_toArray, List.set_cons_zero, List.set_cons_succ]
      go_simp
      refine hK _ _ ⟨rfl, Kept.refl _, ?_⟩
      show _ = _
      simp only [List.getD_cons_zero, List.getD_cons_succ, Array.getD_eq_getD_getElem?, List.getElem?_toArray, List.getElem?_cons_zero, List.getElem?_cons_succ, Option.getD_some]
      rfl
    case o7 =>
      intro w1 hG
      intro v6 h6
      change _ = _ at h6
      subst h6
      refine turn_off (by rfl) ?_
      show _ = _
      rfl
    case o8 =>
      intro w1 hG
      intro v6 h6
      change _ = _ at h6
      subst h6
      refine turn_off (by rfl) ?_
      show _ = _
      rfl
    case o9 =>
      intro w1 hG
      intro v6 h6
      change _ = _ at h6
      subst h6
      intro v8 h8
      change _ = _ at h8
      subst h8
      refine turn_off (by rfl) ?_
      show _ = _
      rfl
    case o10 =>
      intro w1 hG
      intro v6 h6
      change _ = _ at h6
      subst h6
      intro v7 h7
      change _ = _ at h7
      subst h7
      intro v9 h9
      change _ = _ at h9
      subst h9
      refine turn_off (by rfl) ?_
      show _ = _
      rfl
    case o11 =>
      intro w1 hG
      intro v6 h6
      change _ = _ at h6
      subst h6
      refine turn_off (by rfl) ?_
      show _ = _
      rfl
    case o12 =>
      intro w1 hG
      intro v6 h6
      change _ = _ at h6
      subst h6
      intro v11 h11
      change _ = _ at h11
      subst h11
      refine turn_off (by rfl) ?_
      show _ = _
      rfl
    case o13 =>
      intro w1 hG
      intro v6 h6
      change _ = _ at h6
      subst h6
      intro v10 h10
      change _ = _ at h10
      subst h10
      intro v12 h12
      change _ = _ at h12
      subst h12
      refine turn_off (by rfl) ?_
      show _ = _
      rfl
    case o14 =>
      intro w1 hG
      intro v6 h6
      change _ = _ at h6
      subst h6
      intro v13 h13
      change _ = _ at h13
      subst h13
      refine turn_on (by rfl) ?_
      intro K hK
      simp only [List.getD_cons_zero, List.getD_cons_succ, List.setIfInBounds_toArray, List.set_cons_zero, List.set_cons_succ]
      go_simp
      refine hK _ _ ⟨rfl, Kept.refl _, ?_⟩
      show _ = _
      simp only [List.getD_cons_zero, List.getD_cons_succ, Array.getD_eq_getD_getElem?, List.getElem?_toArray, List.getElem?_cons_zero, List.getElem?_cons_succ, Option.getD_some]
      rfl
  intro w1 hG
  intro v0 h0
  change _ = _ at h0
  subst h0
  intro v1 h1
  change _ = _ at h1
  subst h1
  intro v2 h2
  change _ = _ at h2
  subst h2
  intro v3 h3
  change _ = _ at h3
  subst h3
  intro v4 h4
  change _ = _ at h4
  subst h4
  intro v5 h5
  change _ = _ at h5
  subst h5
  intro v6 h6
  change _ = _ at h6
  subst h6
  intro v7 h7
  change _ = _ at h7
  subst h7
  intro v8 h8
  change _ = _ at h8
  subst h8
  intro v9 h9
  change _ = _ at h9
  subst h9
  intro v10 h10
  change _ = _ at h10
  subst h10
  intro v11 h11
  change _ = _ at h11
  subst h11
  intro v12 h12
  change _ = _ at h12
  subst h12
  intro v13 h13
  change _ = _ at h13
  subst h13
  intro v14 h14
  change _ = _ at h14
  subst h14
  simp only [Given, List.getD_cons_zero, List.getD_cons_succ, List.setIfInBounds_toArray, List.set_cons_zero, List.set_cons_succ]
  have hK := hB.drew.trans (Below.mono hG hB.size)
  go_wp2
  go_ret
  exact ⟨retI (of_low (by omega)), hK⟩

theorem of_q (s a2 a3 : Int) : (s - (2 + a2)) / a3 = (s - 2 - a2) / a3 := by rw [show s - (2 + a2) = s - 2 - a2 by omega]

set_option linter.unusedSimpArgs false in
set_option linter.unusedVariables false in
set_option maxHeartbeats 2000000 in
theorem refof_c (a0 a1 a2 a3 a4 a5 a6 a7 a8 s : Int) (w : World) (hp : chkB a0 a1 a2 a3 a4 a5 a6 a7 a8 = true) (hs1 : s ≤ 9223372036854775807) (hs2 : -9223372036854775808 ≤ s) (hlow : 2 + a2 ≤ s) :
    Calls Try.prog 19 #[.agg #[.int .i64 a0, .int .i64 a1, .int .i64 a2, .int .i64 a3, .int .i64 a4, .int .i64 a5, .int .i64 a6, .int .i64 a7, .int .i64 a8], .int .i64 s] w fun e w' => e = .returned (.int .i64 (ofN a0 a2 a3 s)) ∧ Below w.heap.size w w' := by
  obtain ⟨b0, b1, b2, b3, b4, hs, hb4, hc⟩ := of_chk hp
  have hbl := blobN_bounds a1 (a4 + 64) (by omega)
  go_enter Try.func19, Try.ntmps19
  go_wp2_with (fail)
  have hd1 : decide (s < 0) = false := decide_eq_false (by omega)
  have hd2 : decide (s - 2 - a2 < 0) = false := decide_eq_false (by omega)
  have hq : IntKind.i64.wrap ((s - 2 - a2).tdiv a3) = (s - 2 - a2) / a3 := IntWalk.i64_quo _ _ (by omega)
  have hnz : ¬ a3 = 0 := by omega
  have hh0 := heap_alloc_new w (.cells #[.int .i64 a0, .int .i64 a1, .int .i64 a2, .int .i64 a3, .int .i64 a4, .int .i64 a5, .int .i64 a6, .int .i64 a7, .int .i64 a8] 23)
  have hB := (Below.refl w.heap.size w).alloc (Nat.le_refl _) (.cells #[.int .i64 a0, .int .i64 a1, .int .i64 a2, .int .i64 a3, .int .i64 a4, .int .i64 a5, .int .i64 a6, .int .i64 a7, .int .i64 a8] 23)
  refine' reg_free (G := Kept) (pickF [eqV _, eqV _, eqV _, eqV _, eqV _, eqV _, eqV _, eqV _, eqV _, eqV _, eqV _, eqV _, eqV _, eqV _, eqV _]) [11, 12, 13, 14, 15, 16, 17, 18, 19, 20, 21, 22, 23, 24, 25] [[], [0], [1], [2], [2, 3], [2, 4], [5], [6], [6], [6, 8], [6, 7, 9], [6], [6, 11], [6, 10, 12], [6, 13]] [0, 1, 2, 3, 4, 5, 6, 7, 8, 9, 10, 11, 12, 13, 14] (by kernel_rfl) Kept.refl Kept.trans (pick_stays ⟨eqV_stays _, eqV_stays _, eqV_stays _, eqV_stays _, eqV_stays _, eqV_stays _, eqV_stays _, eqV_stays _, eqV_stays _, eqV_stays _, eqV_stays _, eqV_stays _, eqV_stays _, eqV_stays _, eqV_stays _, trivial⟩) 30 rfl (by kernel_rfl) (by kernel_rfl) rfl rfl ?obl ?fin
  case obl =>
    refine And.intro ?o0 (And.intro ?o1 (And.intro ?o2 (And.intro ?o3 (And.intro ?o4 (And.intro ?o5 (And.intro ?o6 (And.intro ?o7 (And.intro ?o8 (And.intro ?o9 (And.intro ?o10 (And.intro ?o11 (And.intro ?o12 (And.intro ?o13 (And.intro ?o14 (True.intro)))))))))))))))
    case o0 =>
      intro w1 hG
      refine turn_on (by rfl) ?_
      intro K hK
      go_simp
      refine hK _ _ ⟨rfl, Kept.refl _, ?_⟩
      show _ = _
      simp only [List.getD_cons_zero, List.getD_cons_succ, Array.getD_eq_getD_getElem?, List.getElem?_toArray, List.getElem?_cons_zero, List.getElem?_cons_succ, Option.getD_some]
      rfl
    case o1 =>
      intro w1 hG
      intro v0 h0
      change _ = _ at h0
      subst h0
      refine turn_on (by rfl) ?_
      intro K hK
      simp only [List.getD_cons_zero, List.getD_cons_succ, List.setIfInBounds_toArray, List.set_cons_zero, List.set_cons_succ]
      go_simp
      refine hK _ _ ⟨rfl, Kept.refl _, ?_⟩
      show _ = _
      simp only [List.getD_cons_zero, List.getD_cons_succ, Array.getD_eq_getD_getElem?, List.getElem?_toArray, List.getElem?_cons_zero, List.getElem?_cons_succ, Option.getD_some]
      rfl
    case o2 =>
      intro w1 hG
      intro v1 h1
      change _ = _ at h1
      subst h1
      refine turn_on (by rfl) ?_
      intro K hK
      simp only [List.getD_cons_zero, List.getD_cons_succ, List.setIfInBounds_toArray, List.set_cons_zero, List.set_cons_succ]
      go_simp
      refine hK _ _ ⟨rfl, Kept.refl _, ?_⟩
      show _ = _
      simp only [List.getD_cons_zero, List.getD_cons_succ, Array.getD_eq_getD_getElem?, List.getElem?_toArray, List.getElem?_cons_zero, List.getElem?_cons_succ, Option.getD_some]
      rfl
    case o3 =>
      intro w1 hG
      intro v2 h2
      change _ = _ at h2
      subst h2
      refine turn_on (by rfl) ?_
      intro K hK
      simp only [List.getD_cons_zero, List.getD_cons_succ, List.setIfInBounds_toArray, List.set_cons_zero, List.set_cons_succ]
      go_simp
      refine hK _ _ ⟨rfl, Kept.refl _, ?_⟩
      show _ = _
      simp only [List.getD_cons_zero, List.getD_cons_succ, Array.getD_eq_getD_getElem?, List.getElem?_toArray, List.getElem?_cons_zero, List.getElem?_cons_succ, Option.getD_some]
      rfl
    case o4 =>
      intro w1 hG
      intro v2 h2
      change _ = _ at h2
      subst h2
      intro v3 h3
      change _ = _ at h3
      subst h3
      refine turn_on (by rfl) ?_
      intro K hK
      simp only [List.getD_cons_zero, List.getD_cons_succ, List.setIfInBounds_toArray, List.set_cons_zero, List.set_cons_succ]
      go_simp
      refine hK _ _ ⟨rfl, Kept.refl _, ?_⟩
      show _ = _
      simp only [List.getD_cons_zero, List.getD_cons_succ, Array.getD_eq_getD_getElem?, List.getElem?_toArray, List.getElem?_cons_zero, List.getElem?_cons_succ, Option.getD_some]
      rfl
    case o5 =>
      intro w1 hG
      intro v2 h2
      change _ = _ at h2
      subst h2
      intro v4 h4
      change _ = _ at h4
      subst h4
      refine turn_on (by rfl) ?_
      intro K hK
      simp only [List.getD_cons_zero, List.getD_cons_succ, List.setIfInBounds_toArray, List.set_cons_zero, List.set_cons_succ]
      go_simp
      refine hK _ _ ⟨rfl, Kept.refl _, ?_⟩
      show _ = _
      simp only [List.getD_cons_zero, List.getD_cons_succ, Array.getD_eq_getD_getElem?, List.getElem?_toArray, List.getElem?_cons_zero, List.getElem?_cons_succ, Option.getD_some]
      rfl
    case o6 =>
      intro w1 hG
      intro v5 h5
      change _ = _ at h5
      subst h5
      refine turn_on (by rfl) ?_
      intro K hK
      simp only [List.getD_cons_zero, List.getD_cons_succ, List.setIfInBounds_toArray, List.set_cons_zero, List.set_cons_succ]
      go_simp
      refine hK _ _ ⟨rfl, Kept.refl _, ?_⟩
      show _ = _
      simp only [List.getD_cons_zero, List.getD_cons_succ, Array.getD_eq_getD_getElem?, List.getElem?_toArray, List.getElem?_cons_zero, List.getElem?_cons_succ, Option.getD_some]
      rfl
    case o7 =>
      intro w1 hG
      intro v6 h6
      change _ = _ at h6
      subst h6
      refine turn_on (by rfl) ?_
      intro K hK
      simp only [List.getD_cons_zero, List.getD_cons_succ, List.setIfInBounds_toArray, List.set_cons_zero, List.set_cons_succ]
      go_simp
      refine hK _ _ ⟨rfl, Kept.refl _, ?_⟩
      show _ = _
      simp only [List.getD_cons_zero, List.getD_cons_succ, Array.getD_eq_getD_getElem?, List.getElem?_toArray, List.getElem?_cons_zero, List.getElem?_cons_succ, Option.getD_some]
      rfl
    case o8 =>
      intro w1 hG
      intro v6 h6
      change _ = _ at h6
      subst h6
      refine turn_on (by rfl) ?_
      intro K hK
      simp only [List.getD_cons_zero, List.getD_cons_succ, List.setIfInBounds_toArray, List.set_cons_zero, List.set_cons_succ]
      go_simp
      refine hK _ _ ⟨rfl, Kept.refl _, ?_⟩
      show _ = _
      simp only [List.getD_cons_zero, List.getD_cons_succ, Array.getD_eq_getD_getElem?, List.getElem?_toArray, List.getElem?_cons_zero, List.getElem?_cons_succ, Option.getD_some]
      rfl
    case o9 =>
      intro w1 hG
      intro v6 h6
      change _ = _ at h6
      subst h6
      intro v8 h8
      change _ = _ at h8
      subst h8
      refine turn_on (by rfl) ?_
      intro K hK
      simp only [List.getD_cons_zero, List.getD_cons_succ, List.setIfInBounds_toArray, List.set_cons_zero, List.set_cons_succ]
      obtain ⟨c0, c1, c2, c3, c4, c5, c6, c7, c8⟩ := cells9 ((hG.block w.heap.size (by simp)).trans hh0)
      go_simp
      refine hK _ _ ⟨rfl, Kept.refl _, ?_⟩
      show _ = _
      simp only [List.getD_cons_zero, List.getD_cons_succ, Array.getD_eq_getD_getElem?, List.getElem?_toArray, List.getElem?_cons_zero, List.getElem?_cons_succ, Option.getD_some]
      rfl
    case o10 =>
      intro w1 hG
      intro v6 h6
      change _ = _ at h6
      subst h6
      intro v7 h7
      change _ = _ at h7
      subst h7
      intro v9 h9
      change _ = _ at h9
      subst h9
      refine turn_on (by rfl) ?_
      intro K hK
      simp only [List.getD_cons_zero, List.getD_cons_succ, List.setIfInBounds_toArray, List.set_cons_zero, List.set_cons_succ]
      go_simp
      refine hK _ _ ⟨rfl, Kept.refl _, ?_⟩
      show _ = _
      simp only [List.getD_cons_zero, List.getD_cons_succ, Array.getD_eq_getD_getElem?, List.getElem?_toArray, List.getElem?_cons_zero, List.getElem?_cons_succ, Option.getD_some]
      rfl
    case o11 =>
      intro w1 hG
      intro v6 h6
      change _ = _ at h6
      subst h6
      refine turn_on (by rfl) ?_
      intro K hK
      simp only [List.getD_cons_zero, List.getD_cons_succ, List.setIfInBounds_toArray, List.set_cons_zero, List.set_cons_succ]
      obtain ⟨c0, c1, c2, c3, c4, c5, c6, c7, c8⟩ := cells9 ((hG.block w.heap.size (by simp)).trans hh0)
      go_simp
      refine hK _ _ ⟨rfl, Kept.refl _, ?_⟩
      show _ = _
      simp only [List.getD_cons_zero, List.getD_cons_succ, Array.getD_eq_getD_getElem?, List.getElem?_toArray, List.getElem?_cons_zero, List.getElem?_cons_succ, Option.getD_some]
      rfl
    case o12 =>
      intro w1 hG
      intro v6 h6
      change _ = _ at h6
      subst h6
      intro v11 h11
      change _ = _ at h11
      subst h11
      refine turn_on (by rfl) ?_
      intro K hK
      simp only [List.getD_cons_zero, List.getD_cons_succ, List.setIfInBounds_toArray, List.set_cons_zero, List.set_cons_succ]
      go_simp
      refine Calls.mono (refsegs_any _ _ _ _ _ _ _ _ _ _ b0 b2 b3) ?_
      rintro e w2 ⟨rfl, hb⟩
      refine hK _ _ ⟨rfl, hb, ?_⟩
      show _ = _
      simp only [List.getD_cons_zero, List.getD_cons_succ, Array.getD_eq_getD_getElem?, List.getElem?_toArray, List.getElem?_cons_zero, List.getElem?_cons_succ, Option.getD_some]
      rfl
    case o13 =>
      intro w1 hG
      intro v6 h6
      change _ = _ at h6
      subst h6
      intro v10 h10
      change _ = _ at h10
      subst h10
      intro v12 h12
      change _ = _ at h12
      subst h12
      refine turn_on (by rfl) ?_
      intro K hK
      simp only [List.getD_cons_zero, List.getD_cons_succ, List.setIfInBounds_toArray, List.set_cons_zero, List.set_cons_succ]
      go_simp
      refine hK _ _ ⟨rfl, Kept.refl _, ?_⟩
      show _ = _
      simp only [List.getD_cons_zero, List.getD_cons_succ, Array.getD_eq_getD_getElem?, List.getElem?_toArray, List.getElem?_cons_zero, List.getElem?_cons_succ, Option.getD_some]
      rfl
    case o14 =>
      intro w1 hG
      intro v6 h6
      change _ = _ at h6
      subst h6
      intro v13 h13
      change _ = _ at h13
      subst h13
      refine turn_on (by rfl) ?_
      intro K hK
      simp only [List.getD_cons_zero, List.getD_cons_succ, List.setIfInBounds_toArray, List.set_cons_zero, List.set_cons_succ]
      go_simp
      refine hK _ _ ⟨rfl, Kept.refl _, ?_⟩
      show _ = _
      simp only [List.getD_cons_zero, List.getD_cons_succ, Array.getD_eq_getD_getElem?, List.getElem?_toArray, List.getElem?_cons_zero, List.getElem?_cons_succ, Option.getD_some]
      rfl
  intro w1 hG
  intro v0 h0
  change _ = _ at h0
  subst h0
  intro v1 h1
  change _ = _ at h1
  subst h1
  intro v2 h2
  change _ = _ at h2
  subst h2
  intro v3 h3
  change _ = _ at h3
  subst h3
  intro v4 h4
  change _ = _ at h4
  subst h4
  intro v5 h5
  change _ = _ at h5
  subst h5
  intro v6 h6
  change _ = _ at h6
  subst h6
  intro v7 h7
  change _ = _ at h7
  subst h7
  intro v8 h8
  change _ = _ at h8
  subst h8
  intro v9 h9
  change _ = _ at h9
  subst h9
  intro v10 h10
  change _ = _ at h10
  subst h10
  intro v11 h11
  change _ = _ at h11
  subst h11
  intro v12 h12
  change _ = _ at h12
  subst h12
  intro v13 h13
  change _ = _ at h13
  subst h13
  intro v14 h14
  change _ = _ at h14
  subst h14
  simp only [Given, List.getD_cons_zero, List.getD_cons_succ, List.setIfInBounds_toArray, List.set_cons_zero, List.set_cons_succ]
  have hK := hB.drew.trans (Below.mono hG hB.size)
  obtain ⟨c0, c1, c2, c3, c4, c5, c6, c7, c8⟩ := cells9 ((hG.block w.heap.size (by simp)).trans hh0)
  go_wp2
  · go_ret
    exact ⟨retI (of_far hlow (by rw [of_q]; assumption)), hK⟩
  · go_ret
    exact ⟨retI ((of_in hlow (by rw [of_q]; assumption)).trans (of_q _ _ _)), hK⟩

theorem of_any (a0 a1 a2 a3 a4 a5 a6 a7 a8 s : Int) (w : World) (hp : chkB a0 a1 a2 a3 a4 a5 a6 a7 a8 = true) (hs1 : s ≤ 9223372036854775807) (hs2 : -9223372036854775808 ≤ s) :
    Calls Try.prog 18 #[.agg #[.int .i64 a0, .int .i64 a1, .int .i64 a2, .int .i64 a3, .int .i64 a4, .int .i64 a5, .int .i64 a6, .int .i64 a7, .int .i64 a8], .int .i64 s] w fun e w' => e = .returned (.int .i64 (ofN a0 a2 a3 s)) ∧ Below w.heap.size w w' := by
  by_cases h : s < 2 + a2
  · exact of_a a0 a1 a2 a3 a4 a5 a6 a7 a8 s w hp hs1 hs2 h
  · exact of_b a0 a1 a2 a3 a4 a5 a6 a7 a8 s w hp hs1 hs2 (by omega)

theorem refof_any (a0 a1 a2 a3 a4 a5 a6 a7 a8 s : Int) (w : World) (hp : chkB a0 a1 a2 a3 a4 a5 a6 a7 a8 = true) (hs1 : s ≤ 9223372036854775807) (hs2 : -9223372036854775808 ≤ s) :
    Calls Try.prog 19 #[.agg #[.int .i64 a0, .int .i64 a1, .int .i64 a2, .int .i64 a3, .int .i64 a4, .int .i64 a5, .int .i64 a6, .int .i64 a7, .int .i64 a8], .int .i64 s] w fun e w' => e = .returned (.int .i64 (ofN a0 a2 a3 s)) ∧ Below w.heap.size w w' := by
  by_cases h : s < 2 + a2
  · by_cases h0 : s < 0
    · exact refof_a a0 a1 a2 a3 a4 a5 a6 a7 a8 s w hp hs1 hs2 h0
    · exact refof_b a0 a1 a2 a3 a4 a5 a6 a7 a8 s w hp hs1 hs2 (by omega) h
  · exact refof_c a0 a1 a2 a3 a4 a5 a6 a7 a8 s w hp hs1 hs2 (by omega)

end Go.Proofs.Ythpmjapohkdamaa
