/- The contracts of Holds, K and Of. -/
import Derived.Test.YthpmjapohkdamaaGeomF
import Derived.Lib.Hide
namespace Go.Proofs.Ythpmjapohkdamaa
open Go.RowKit
def kN (a0 a1 a2 a3 a4 : Int) : Int := (segN a0 a2 a3 - 8) * (a3 / blobN a1 (a4 + 64)) / 24
def ofN (a0 a2 a3 s : Int) : Int := if s < 2 + a2 then -1 else if segN a0 a2 a3 ≤ (s - (2 + a2)) / a3 then -1 else (s - (2 + a2)) / a3
theorem of_low {a0 a2 a3 s : Int} (h : s < 2 + a2) : ofN a0 a2 a3 s = -1 := by unfold ofN; rw [if_pos h]
theorem of_far {a0 a2 a3 s : Int} (h : 2 + a2 ≤ s) (h2 : segN a0 a2 a3 ≤ (s - (2 + a2)) / a3) : ofN a0 a2 a3 s = -1 := by unfold ofN; rw [if_neg (by omega), if_pos h2]
theorem of_in {a0 a2 a3 s : Int} (h : 2 + a2 ≤ s) (h2 : (s - (2 + a2)) / a3 < segN a0 a2 a3) : ofN a0 a2 a3 s = (s - (2 + a2)) / a3 := by unfold ofN; rw [if_neg (by omega), if_neg (by omega)]
theorem holds_bounds {x y : Int} (h : 2 ≤ x ∧ x ≤ 4096) (hy : 1 ≤ y) : 0 ≤ x / y ∧ x / y ≤ 4096 := by
  have := Int.ediv_le_self (a := x) y (by omega)
  exact ⟨Int.ediv_nonneg (by omega) (by omega), by omega⟩
set_option linter.unusedSimpArgs false in
set_option linter.unusedVariables false in
set_option maxHeartbeats 2000000 in
theorem holds_any (a0 a1 a2 a3 a4 a5 a6 a7 a8 : Int) (w : World) (hp : chkB a0 a1 a2 a3 a4 a5 a6 a7 a8 = true) :
    Calls Try.prog 27 #[.agg #[.int .i64 a0, .int .i64 a1, .int .i64 a2, .int .i64 a3, .int .i64 a4, .int .i64 a5, .int .i64 a6, .int .i64 a7, .int .i64 a8]] w fun e w' => e = .returned (.int .i64 (a3 / blobN a1 (a4 + 64))) ∧ Below w.heap.size w w' := by
  obtain ⟨b0, b1, b2, b3, b4, hs, hb4, hc⟩ := of_chk hp
  have hbl := blobN_bounds a1 (a4 + 64) (by omega)
  go_enter Try.func27, Try.ntmps27
  go_wp2_with (fail)
  have hh0 := heap_alloc_new w (.cells #[.int .i64 a0, .int .i64 a1, .int .i64 a2, .int .i64 a3, .int .i64 a4, .int .i64 a5, .int .i64 a6, .int .i64 a7, .int .i64 a8] 23)
  have hB := (Below.refl w.heap.size w).alloc (Nat.le_refl _) (.cells #[.int .i64 a0, .int .i64 a1, .int .i64 a2, .int .i64 a3, .int .i64 a4, .int .i64 a5, .int .i64 a6, .int .i64 a7, .int .i64 a8] 23)
  have hw : IntKind.i64.wrap (a4 + 64) = a4 + 64 := IntWalk.i64_in _ (by omega)
  have hq : IntKind.i64.wrap (a3.tdiv (blobN a1 (a4 + 64))) = a3 / blobN a1 (a4 + 64) := IntWalk.i64_quo _ _ (by omega)
  have hnz : ¬ blobN a1 (a4 + 64) = 0 := by omega
  refine' reg_free (G := Kept) (pickF [eqV _, eqV _, eqV _, eqV _, eqV _, eqV _, eqV _, eqV _, eqV _]) [3, 4, 5, 6, 7, 8, 9, 10, 2] [[], [0], [], [], [3], [4], [2, 5], [1, 6], [7]] [0, 1, 2, 3, 4, 5, 6, 7, 8] (by kernel_rfl) Kept.refl Kept.trans (pick_stays ⟨eqV_stays _, eqV_stays _, eqV_stays _, eqV_stays _, eqV_stays _, eqV_stays _, eqV_stays _, eqV_stays _, eqV_stays _, trivial⟩) 11 rfl (by kernel_rfl) (by kernel_rfl) rfl rfl ?obl ?fin
  case obl =>
    refine And.intro ?o0 (And.intro ?o1 (And.intro ?o2 (And.intro ?o3 (And.intro ?o4 (And.intro ?o5 (And.intro ?o6 (And.intro ?o7 (And.intro ?o8 (True.intro)))))))))
    case o0 =>
      intro w1 hG
      refine turn_on (by rfl) ?_
      intro K hK
      go_simp
      refine hK _ _ ⟨rfl, Kept.refl _, ?_⟩
      show _ = _
      simp only [List.getD_cons_zero, List.getD_cons_succ, Array.getD_eq_getD_getElem?, List.getElem?_toArray, List.getElem?_cons_zero, List.getElem?_cons_succ, Option.getD_some]
      rfl
    case o1 =>
      intro w1 hG
      intro v0 h0
      change _ = _ at h0
      subst h0
      refine turn_on (by rfl) ?_
      intro K hK
      simp only [List.getD_cons_zero, List.getD_cons_succ, List.setIfInBounds_toArray, List.set_cons_zero, List.set_cons_succ]
      obtain ⟨c0, c1, c2, c3, c4, c5, c6, c7, c8⟩ := cells9 ((hG.block w.heap.size (by simp)).trans hh0)
      go_simp
      refine hK _ _ ⟨rfl, Kept.refl _, ?_⟩
      show _ = _
      simp only [List.getD_cons_zero, List.getD_cons_succ, Array.getD_eq_getD_getElem?, List.getElem?_toArray, List.getElem?_cons_zero, List.getElem?_cons_succ, Option.getD_some]
      rfl
    case o2 =>
      intro w1 hG
      refine turn_on (by rfl) ?_
      intro K hK
      obtain ⟨c0, c1, c2, c3, c4, c5, c6, c7, c8⟩ := cells9 ((hG.block w.heap.size (by simp)).trans hh0)
      go_simp
      refine hK _ _ ⟨rfl, Kept.refl _, ?_⟩
      show _ = _
      simp only [List.getD_cons_zero, List.getD_cons_succ, Array.getD_eq_getD_getElem?, List.getElem?_toArray, List.getElem?_cons_zero, List.getElem?_cons_succ, Option.getD_some]
      rfl
    case o3 =>
      intro w1 hG
      refine turn_on (by rfl) ?_
      intro K hK
      go_simp
      refine hK _ _ ⟨rfl, Kept.refl _, ?_⟩
      show _ = _
      simp only [List.getD_cons_zero, List.getD_cons_succ, Array.getD_eq_getD_getElem?, List.getElem?_toArray, List.getElem?_cons_zero, List.getElem?_cons_succ, Option.getD_some]
      rfl
    case o4 =>
      intro w1 hG
      intro v3 h3
      change _ = _ at h3
      subst h3
      refine turn_on (by rfl) ?_
      intro K hK
      simp only [List.getD_cons_zero, List.getD_cons_succ, List.setIfInBounds_toArray, List.set_cons_zero, List.set_cons_succ]
      obtain ⟨c0, c1, c2, c3, c4, c5, c6, c7, c8⟩ := cells9 ((hG.block w.heap.size (by simp)).trans hh0)
      go_simp
      refine hK _ _ ⟨rfl, Kept.refl _, ?_⟩
      show _ = _
      simp only [List.getD_cons_zero, List.getD_cons_succ, Array.getD_eq_getD_getElem?, List.getElem?_toArray, List.getElem?_cons_zero, List.getElem?_cons_succ, Option.getD_some]
      rfl
    case o5 =>
      intro w1 hG
      intro v4 h4
      change _ = _ at h4
      subst h4
      refine turn_on (by rfl) ?_
      intro K hK
      simp only [List.getD_cons_zero, List.getD_cons_succ, List.setIfInBounds_toArray, List.set_cons_zero, List.set_cons_succ]
      go_simp
      refine hK _ _ ⟨rfl, Kept.refl _, ?_⟩
      show _ = _
      simp only [List.getD_cons_zero, List.getD_cons_succ, Array.getD_eq_getD_getElem?, List.getElem?_toArray, List.getElem?_cons_zero, List.getElem?_cons_succ, Option.getD_some]
      rfl
    case o6 =>
      intro w1 hG
      intro v2 h2
      change _ = _ at h2
      subst h2
      intro v5 h5
      change _ = _ at h5
      subst h5
      refine turn_on (by rfl) ?_
      intro K hK
      simp only [List.getD_cons_zero, List.getD_cons_succ, List.setIfInBounds_toArray, List.set_cons_zero, List.set_cons_succ]
      go_simp
      refine Calls.mono (blob_any _ _ _ _ _ _ _ _ _ _ _ (by omega) (by omega)) ?_
      rintro e w2 ⟨rfl, hb⟩
      refine hK _ _ ⟨rfl, hb, ?_⟩
      show _ = _
      simp only [List.getD_cons_zero, List.getD_cons_succ, Array.getD_eq_getD_getElem?, List.getElem?_toArray, List.getElem?_cons_zero, List.getElem?_cons_succ, Option.getD_some]
      rfl
    case o7 =>
      intro w1 hG
      intro v1 h1
      change _ = _ at h1
      subst h1
      intro v6 h6
      change _ = _ at h6
      subst h6
      refine turn_on (by rfl) ?_
      intro K hK
      simp only [List.getD_cons_zero, List.getD_cons_succ, List.setIfInBounds_toArray, List.set_cons_zero, List.set_cons_succ]
      go_simp
      refine hK _ _ ⟨rfl, Kept.refl _, ?_⟩
      show _ = _
      simp only [List.getD_cons_zero, List.getD_cons_succ, Array.getD_eq_getD_getElem?, List.getElem?_toArray, List.getElem?_cons_zero, List.getElem?_cons_succ, Option.getD_some]
      rfl
    case o8 =>
      intro w1 hG
      intro v7 h7
      change _ = _ at h7
      subst h7
      refine turn_on (by rfl) ?_
      intro K hK
      simp only [List.getD_cons_zero, List.getD_cons_succ, List.setIfInBounds_toArray, List.set_cons_zero, List.set_cons_succ]
      go_simp
      refine hK _ _ ⟨rfl, Kept.refl _, ?_⟩
      show _ = _
      simp only [List.getD_cons_zero, List.getD_cons_succ, Array.getD_eq_getD_getElem?, List.getElem?_toArray, List.getElem?_cons_zero, List.getElem?_cons_succ, Option.getD_some]
      rfl
  intro w1 hG
  intro v0 h0
  change _ = _ at h0
  subst h0
  intro v1 h1
  change _ = _ at h1
  subst h1
  intro v2 h2
  change _ = _ at h2
  subst h2
  intro v3 h3
  change _ = _ at h3
  subst h3
  intro v4 h4
  change _ = _ at h4
  subst h4
  intro v5 h5
  change _ = _ at h5
  subst h5
  intro v6 h6
  change _ = _ at h6
  subst h6
  intro v7 h7
  change _ = _ at h7
  subst h7
  intro v8 h8
  change _ = _ at h8
  subst h8
  simp only [Given, List.getD_cons_zero, List.getD_cons_succ, List.setIfInBounds_toArray, List.set_cons_zero, List.set_cons_succ]
  have hK := hB.drew.trans (Below.mono hG hB.size)
  go_wp2
  go_ret
  exact ⟨rfl, hK⟩

set_option linter.unusedSimpArgs false in
set_option linter.unusedVariables false in
set_option maxHeartbeats 2000000 in
theorem k_any (a0 a1 a2 a3 a4 a5 a6 a7 a8 : Int) (w : World) (hp : chkB a0 a1 a2 a3 a4 a5 a6 a7 a8 = true) :
    Calls Try.prog 10 #[.agg #[.int .i64 a0, .int .i64 a1, .int .i64 a2, .int .i64 a3, .int .i64 a4, .int .i64 a5, .int .i64 a6, .int .i64 a7, .int .i64 a8]] w fun e w' => e = .returned (.int .i64 (kN a0 a1 a2 a3 a4)) ∧ Below w.heap.size w w' := by
  obtain ⟨b0, b1, b2, b3, b4, hs, hb4, hc⟩ := of_chk hp
  have hbl := blobN_bounds a1 (a4 + 64) (by omega)
  go_enter Try.func10, Try.ntmps10
  go_wp2_with (go_at_call 8; refine (check_any _ _ _ _ _ _ _ _ _ _).mono ?_; rintro e w0 ⟨rfl, hb0⟩)
  have hh0 := (hb0.block w.heap.size (by simp)).trans (heap_alloc_new w (.cells #[.int .i64 a0, .int .i64 a1, .int .i64 a2, .int .i64 a3, .int .i64 a4, .int .i64 a5, .int .i64 a6, .int .i64 a7, .int .i64 a8] 23))
  have hB := ((Below.refl w.heap.size w).alloc (Nat.le_refl _) (.cells #[.int .i64 a0, .int .i64 a1, .int .i64 a2, .int .i64 a3, .int .i64 a4, .int .i64 a5, .int .i64 a6, .int .i64 a7, .int .i64 a8] 23)).trans (hb0.mono (by simp))
  have hlt : w.heap.size < w0.heap.size := Nat.lt_of_lt_of_le (by simp) hb0.size
  have hsl := segN_le a0 a2 a3 (by omega) (by omega)
  have hho := holds_bounds b3 hbl.1
  have hm := mul_room (k := segN a0 a2 a3 - 8) (a3 := a3 / blobN a1 (a4 + 64)) (n := 65536) (by omega) (by omega) (by omega) hho.1 hho.2
  have hk1 : IntKind.i64.wrap (segN a0 a2 a3 - 8) = segN a0 a2 a3 - 8 := IntWalk.i64_in _ (by omega)
  have hk2 : IntKind.i64.wrap ((segN a0 a2 a3 - 8) * (a3 / blobN a1 (a4 + 64))) = (segN a0 a2 a3 - 8) * (a3 / blobN a1 (a4 + 64)) := IntWalk.i64_in _ (by omega)
  have hk3 : IntKind.i64.wrap (((segN a0 a2 a3 - 8) * (a3 / blobN a1 (a4 + 64))).tdiv 24) = (segN a0 a2 a3 - 8) * (a3 / blobN a1 (a4 + 64)) / 24 := IntWalk.i64_quo _ _ (by omega)
  have hk4 : 0 ≤ (segN a0 a2 a3 - 8) * (a3 / blobN a1 (a4 + 64)) / 24 := by omega
  refine' reg_free (G := Kept) (pickF [eqV _, eqV _, eqV _, eqV _, eqV _, eqV _, eqV _, eqV _, eqV _]) [6, 7, 8, 9, 10, 11, 12, 13, 2] [[], [0], [1], [], [3], [2, 4], [5], [6], [7]] [0, 1, 2, 3, 4, 5, 6, 7, 8] (by kernel_rfl) Kept.refl Kept.trans (pick_stays ⟨eqV_stays _, eqV_stays _, eqV_stays _, eqV_stays _, eqV_stays _, eqV_stays _, eqV_stays _, eqV_stays _, eqV_stays _, trivial⟩) 14 rfl (by kernel_rfl) (by kernel_rfl) rfl rfl ?obl ?fin
  case obl =>
    refine And.intro ?o0 (And.intro ?o1 (And.intro ?o2 (And.intro ?o3 (And.intro ?o4 (And.intro ?o5 (And.intro ?o6 (And.intro ?o7 (And.intro ?o8 (True.intro)))))))))
    case o0 =>
      intro w1 hG
      refine turn_on (by rfl) ?_
      intro K hK
      obtain ⟨c0, c1, c2, c3, c4, c5, c6, c7, c8⟩ := cells9 ((hG.block w.heap.size (hlt)).trans hh0)
      go_simp
      refine hK _ _ ⟨rfl, Kept.refl _, ?_⟩
      show _ = _
      simp only [List.getD_cons_zero, List.getD_cons_succ, Array.getD_eq_getD_getElem?, List.getElem?_toArray, List.getElem?_cons_zero, List.getElem?_cons_succ, Option.getD_some]
      rfl
    case o1 =>
      intro w1 hG
      intro v0 h0
      change _ = _ at h0
      subst h0
      refine turn_on (by rfl) ?_
      intro K hK
      simp only [List.getD_cons_zero, List.getD_cons_succ, List.setIfInBounds_toArray, List.set_cons_zero, List.set_cons_succ]
      go_simp
      refine Calls.mono (segments_any _ _ _ _ _ _ _ _ _ _ b0 b2 b3) ?_
      rintro e w2 ⟨rfl, hb⟩
      refine hK _ _ ⟨rfl, hb, ?_⟩
      show _ = _
      simp only [List.getD_cons_zero, List.getD_cons_succ, Array.getD_eq_getD_getElem?, List.getElem?_toArray, List.getElem?_cons_zero, List.getElem?_cons_succ, Option.getD_some]
      rfl
    case o2 =>
      intro w1 hG
      intro v1 h1
      change _ = _ at h1
      subst h1
      refine turn_on (by rfl) ?_
      intro K hK
      simp only [List.getD_cons_zero, List.getD_cons_succ, List.setIfInBounds_toArray, List.set_cons_zero, List.set_cons_succ]
      go_simp
      refine hK _ _ ⟨rfl, Kept.refl _, ?_⟩
      show _ = _
      simp only [List.getD_cons_zero, List.getD_cons_succ, Array.getD_eq_getD_getElem?, List.getElem?_toArray, List.getElem?_cons_zero, List.getElem?_cons_succ, Option.getD_some]
      rfl
    case o3 =>
      intro w1 hG
      refine turn_on (by rfl) ?_
      intro K hK
      obtain ⟨c0, c1, c2, c3, c4, c5, c6, c7, c8⟩ := cells9 ((hG.block w.heap.size (hlt)).trans hh0)
      go_simp
      refine hK _ _ ⟨rfl, Kept.refl _, ?_⟩
      show _ = _
      simp only [List.getD_cons_zero, List.getD_cons_succ, Array.getD_eq_getD_getElem?, List.getElem?_toArray, List.getElem?_cons_zero, List.getElem?_cons_succ, Option.getD_some]
      rfl
    case o4 =>
      intro w1 hG
      intro v3 h3
      change _ = _ at h3
      subst h3
      refine turn_on (by rfl) ?_
      intro K hK
      simp only [List.getD_cons_zero, List.getD_cons_succ, List.setIfInBounds_toArray, List.set_cons_zero, List.set_cons_succ]
      go_simp
      refine Calls.mono (holds_any _ _ _ _ _ _ _ _ _ _ hp) ?_
      rintro e w2 ⟨rfl, hb⟩
      refine hK _ _ ⟨rfl, hb, ?_⟩
      show _ = _
      simp only [List.getD_cons_zero, List.getD_cons_succ, Array.getD_eq_getD_getElem?, List.getElem?_toArray, List.getElem?_cons_zero, List.getElem?_cons_succ, Option.getD_some]
      rfl
    case o5 =>
      intro w1 hG
      intro v2 h2
      change _ = _ at h2
      subst h2
      intro v4 h4
      change _ = _ at h4
      subst h4
      refine turn_on (by rfl) ?_
      intro K hK
      simp only [List.getD_cons_zero, List.getD_cons_succ, List.setIfInBounds_toArray, List.set_cons_zero, List.set_cons_succ]
      go_simp
      refine hK _ _ ⟨rfl, Kept.refl _, ?_⟩
      show _ = _
      simp only [List.getD_cons_zero, List.getD_cons_succ, Array.getD_eq_getD_getElem?, List.getElem?_toArray, List.getElem?_cons_zero, List.getElem?_cons_succ, Option.getD_some]
      rfl
    case o6 =>
      intro w1 hG
      intro v5 h5
      change _ = _ at h5
      subst h5
      refine turn_on (by rfl) ?_
      intro K hK
      simp only [List.getD_cons_zero, List.getD_cons_succ, List.setIfInBounds_toArray, List.set_cons_zero, List.set_cons_succ]
      go_simp
      refine hK _ _ ⟨rfl, Kept.refl _, ?_⟩
      show _ = _
      simp only [List.getD_cons_zero, List.getD_cons_succ, Array.getD_eq_getD_getElem?, List.getElem?_toArray, List.getElem?_cons_zero, List.getElem?_cons_succ, Option.getD_some]
      rfl
    case o7 =>
      intro w1 hG
      intro v6 h6
      change _ = _ at h6
      subst h6
      refine turn_on (by rfl) ?_
      intro K hK
      simp only [List.getD_cons_zero, List.getD_cons_succ, List.setIfInBounds_toArray, List.set_cons_zero, List.set_cons_succ]
      go_simp
      refine hK _ _ ⟨rfl, Kept.refl _, ?_⟩
      show _ = _
      simp only [List.getD_cons_zero, List.getD_cons_succ, Array.getD_eq_getD_getElem?, List.getElem?_toArray, List.getElem?_cons_zero, List.getElem?_cons_succ, Option.getD_some]
      rfl
    case o8 =>
      intro w1 hG
      intro v7 h7
      change _ = _ at h7
      subst h7
      refine turn_on (by rfl) ?_
      intro K hK
      simp only [List.getD_cons_zero, List.getD_cons_succ, List.setIfInBounds_toArray, List.set_cons_zero, List.set_cons_succ]
      go_simp
      refine hK _ _ ⟨rfl, Kept.refl _, ?_⟩
      show _ = _
      simp only [List.getD_cons_zero, List.getD_cons_succ, Array.getD_eq_getD_getElem?, List.getElem?_toArray, List.getElem?_cons_zero, List.getElem?_cons_succ, Option.getD_some]
      rfl
  intro w1 hG
  intro v0 h0
  change _ = _ at h0
  subst h0
  intro v1 h1
  change _ = _ at h1
  subst h1
  intro v2 h2
  change _ = _ at h2
  subst h2
  intro v3 h3
  change _ = _ at h3
  subst h3
  intro v4 h4
  change _ = _ at h4
  subst h4
  intro v5 h5
  change _ = _ at h5
  subst h5
  intro v6 h6
  change _ = _ at h6
  subst h6
  intro v7 h7
  change _ = _ at h7
  subst h7
  intro v8 h8
  change _ = _ at h8
  subst h8
  simp only [Given, List.getD_cons_zero, List.getD_cons_succ, List.setIfInBounds_toArray, List.set_cons_zero, List.set_cons_succ]
  have hK := hB.drew.trans (Below.mono hG hB.size)
  go_wp2
  go_ret
  exact ⟨rfl, hK⟩

set_option linter.unusedSimpArgs false in
set_option linter.unusedVariables false in
set_option maxHeartbeats 2000000 in
theorem refk_any (a0 a1 a2 a3 a4 a5 a6 a7 a8 : Int) (w : World) (hp : chkB a0 a1 a2 a3 a4 a5 a6 a7 a8 = true) :
    Calls Try.prog 14 #[.agg #[.int .i64 a0, .int .i64 a1, .int .i64 a2, .int .i64 a3, .int .i64 a4, .int .i64 a5, .int .i64 a6, .int .i64 a7, .int .i64 a8]] w fun e w' => e = .returned (.int .i64 (kN a0 a1 a2 a3 a4)) ∧ Below w.heap.size w w' := by
  obtain ⟨b0, b1, b2, b3, b4, hs, hb4, hc⟩ := of_chk hp
  have hbl := blobN_bounds a1 (a4 + 64) (by omega)
  go_enter Try.func14, Try.ntmps14
  go_wp2_with (go_at_call 13; refine (refcheck_any _ _ _ _ _ _ _ _ _ _).mono ?_; rintro e w0 ⟨rfl, hb0⟩)
  have hh0 := (hb0.block w.heap.size (by simp)).trans (heap_alloc_new w (.cells #[.int .i64 a0, .int .i64 a1, .int .i64 a2, .int .i64 a3, .int .i64 a4, .int .i64 a5, .int .i64 a6, .int .i64 a7, .int .i64 a8] 23))
  have hB := ((Below.refl w.heap.size w).alloc (Nat.le_refl _) (.cells #[.int .i64 a0, .int .i64 a1, .int .i64 a2, .int .i64 a3, .int .i64 a4, .int .i64 a5, .int .i64 a6, .int .i64 a7, .int .i64 a8] 23)).trans (hb0.mono (by simp))
  have hlt : w.heap.size < w0.heap.size := Nat.lt_of_lt_of_le (by simp) hb0.size
  have hsl := segN_le a0 a2 a3 (by omega) (by omega)
  have hho := holds_bounds b3 hbl.1
  have hm := mul_room (k := segN a0 a2 a3 - 8) (a3 := a3 / blobN a1 (a4 + 64)) (n := 65536) (by omega) (by omega) (by omega) hho.1 hho.2
  have hk1 : IntKind.i64.wrap (segN a0 a2 a3 - 8) = segN a0 a2 a3 - 8 := IntWalk.i64_in _ (by omega)
  have hk2 : IntKind.i64.wrap ((segN a0 a2 a3 - 8) * (a3 / blobN a1 (a4 + 64))) = (segN a0 a2 a3 - 8) * (a3 / blobN a1 (a4 + 64)) := IntWalk.i64_in _ (by omega)
  have hk3 : IntKind.i64.wrap (((segN a0 a2 a3 - 8) * (a3 / blobN a1 (a4 + 64))).tdiv 24) = (segN a0 a2 a3 - 8) * (a3 / blobN a1 (a4 + 64)) / 24 := IntWalk.i64_quo _ _ (by omega)
  have hk4 : 0 ≤ (segN a0 a2 a3 - 8) * (a3 / blobN a1 (a4 + 64)) / 24 := by omega
  have hw : IntKind.i64.wrap (a4 + 64) = a4 + 64 := IntWalk.i64_in _ (by omega)
  have hq : IntKind.i64.wrap (a3.tdiv (blobN a1 (a4 + 64))) = a3 / blobN a1 (a4 + 64) := IntWalk.i64_quo _ _ (by omega)
  have hnz : ¬ blobN a1 (a4 + 64) = 0 := by omega
  refine' reg_free (G := Kept) (pickF [eqV _, eqV _, eqV _, eqV _, eqV _, eqV _, eqV _, eqV _, eqV _, eqV _, eqV _, eqV _, eqV _, eqV _]) [6, 7, 8, 9, 10, 11, 12, 13, 14, 15, 16, 17, 18, 2] [[], [0], [1], [], [3], [], [], [6], [7], [5, 8], [4, 9], [2, 10], [11], [12]] [0, 1, 2, 3, 4, 5, 6, 7, 8, 9, 10, 11, 12, 13] (by kernel_rfl) Kept.refl Kept.trans (pick_stays ⟨eqV_stays _, eqV_stays _, eqV_stays _, eqV_stays _, eqV_stays _, eqV_stays _, eqV_stays _, eqV_stays _, eqV_stays _, eqV_stays _, eqV_stays _, eqV_stays _, eqV_stays _, eqV_stays _, trivial⟩) 19 rfl (by kernel_rfl) (by kernel_rfl) rfl rfl ?obl ?fin
  case obl =>
    refine And.intro ?o0 (And.intro ?o1 (And.intro ?o2 (And.intro ?o3 (And.intro ?o4 (And.intro ?o5 (And.intro ?o6 (And.intro ?o7 (And.intro ?o8 (And.intro ?o9 (And.intro ?o10 (And.intro ?o11 (And.intro ?o12 (And.intro ?o13 (True.intro))))))))))))))
    case o0 =>
      intro w1 hG
      refine turn_on (by rfl) ?_
      intro K hK
      obtain ⟨c0, c1, c2, c3, c4, c5, c6, c7, c8⟩ := cells9 ((hG.block w.heap.size (hlt)).trans hh0)
      go_simp
      refine hK _ _ ⟨rfl, Kept.refl _, ?_⟩
      show _ = _
      simp only [List.getD_cons_zero, List.getD_cons_succ, Array.getD_eq_getD_getElem?, List.getElem?_toArray, List.getElem?_cons_zero, List.getElem?_cons_succ, Option.getD_some]
      rfl
    case o1 =>
      intro w1 hG
      intro v0 h0
      change _ = _ at h0
      subst h0
      refine turn_on (by rfl) ?_
      intro K hK
      simp only [List.getD_cons_zero, List.getD_cons_succ, List.setIfInBounds_toArray, List.set_cons_zero, List.set_cons_succ]
      go_simp
      refine Calls.mono (refsegs_any _ _ _ _ _ _ _ _ _ _ b0 b2 b3) ?_
      rintro e w2 ⟨rfl, hb⟩
      refine hK _ _ ⟨rfl, hb, ?_⟩
      show _ = _
      simp only [List.getD_cons_zero, List.getD_cons_succ, Array.getD_eq_getD_getElem?, List.getElem?_toArray, List.getElem?_cons_zero, List.getElem?_cons_succ, Option.getD_some]
      rfl
    case o2 =>
      intro w1 hG
      intro v1 h1
      change _ = _ at h1
      subst h1
      refine turn_on (by rfl) ?_
      intro K hK
      simp only [List.getD_cons_zero, List.getD_cons_succ, List.setIfInBounds_toArray, List.set_cons_zero, List.set_cons_succ]
      go_simp
      refine hK _ _ ⟨rfl, Kept.refl _, ?_⟩
      show _ = _
      simp only [List.getD_cons_zero, List.getD_cons_succ, Array.getD_eq_getD_getElem?, List.getElem?_toArray, List.getElem?_cons_zero, List.getElem?_cons_succ, Option.getD_some]
      rfl
    case o3 =>
      intro w1 hG
      refine turn_on (by rfl) ?_
      intro K hK
      go_simp
      refine hK _ _ ⟨rfl, Kept.refl _, ?_⟩
      show _ = _
      simp only [List.getD_cons_zero, List.getD_cons_succ, Array.getD_eq_getD_getElem?, List.getElem?_toArray, List.getElem?_cons_zero, List.getElem?_cons_succ, Option.getD_some]
      rfl
    case o4 =>
      intro w1 hG
      intro v3 h3
      change _ = _ at h3
      subst h3
      refine turn_on (by rfl) ?_
      intro K hK
      simp only [List.getD_cons_zero, List.getD_cons_succ, List.setIfInBounds_toArray, List.set_cons_zero, List.set_cons_succ]
      obtain ⟨c0, c1, c2, c3, c4, c5, c6, c7, c8⟩ := cells9 ((hG.block w.heap.size (hlt)).trans hh0)
      go_simp
      refine hK _ _ ⟨rfl, Kept.refl _, ?_⟩
      show _ = _
      simp only [List.getD_cons_zero, List.getD_cons_succ, Array.getD_eq_getD_getElem?, List.getElem?_toArray, List.getElem?_cons_zero, List.getElem?_cons_succ, Option.getD_some]
      rfl
    case o5 =>
      intro w1 hG
      refine turn_on (by rfl) ?_
      intro K hK
      obtain ⟨c0, c1, c2, c3, c4, c5, c6, c7, c8⟩ := cells9 ((hG.block w.heap.size (hlt)).trans hh0)
      go_simp
      refine hK _ _ ⟨rfl, Kept.refl _, ?_⟩
      show _ = _
      simp only [List.getD_cons_zero, List.getD_cons_succ, Array.getD_eq_getD_getElem?, List.getElem?_toArray, List.getElem?_cons_zero, List.getElem?_cons_succ, Option.getD_some]
      rfl
    case o6 =>
      intro w1 hG
      refine turn_on (by rfl) ?_
      intro K hK
      go_simp
      refine hK _ _ ⟨rfl, Kept.refl _, ?_⟩
      show _ = _
      simp only [List.getD_cons_zero, List.getD_cons_succ, Array.getD_eq_getD_getElem?, List.getElem?_toArray, List.getElem?_cons_zero, List.getElem?_cons_succ, Option.getD_some]
      rfl
    case o7 =>
      intro w1 hG
      intro v6 h6
      change _ = _ at h6
      subst h6
      refine turn_on (by rfl) ?_
      intro K hK
      simp only [List.getD_cons_zero, List.getD_cons_succ, List.setIfInBounds_toArray, List.set_cons_zero, List.set_cons_succ]
      obtain ⟨c0, c1, c2, c3, c4, c5, c6, c7, c8⟩ := cells9 ((hG.block w.heap.size (hlt)).trans hh0)
      go_simp
      refine hK _ _ ⟨rfl, Kept.refl _, ?_⟩
      show _ = _
      simp only [List.getD_cons_zero, List.getD_cons_succ, Array.getD_eq_getD_getElem?, List.getElem?_toArray, List.getElem?_cons_zero, List.getElem?_cons_succ, Option.getD_some]
      rfl
    case o8 =>
      intro w1 hG
      intro v7 h7
      change _ = _ at h7
      subst h7
      refine turn_on (by rfl) ?_
      intro K hK
      simp only [List.getD_cons_zero, List.getD_cons_succ, List.setIfInBounds_toArray, List.set_cons_zero, List.set_cons_succ]
      go_simp
      refine hK _ _ ⟨rfl, Kept.refl _, ?_⟩
      show _ = _
      simp only [List.getD_cons_zero, List.getD_cons_succ, Array.getD_eq_getD_getElem?, List.getElem?_toArray, List.getElem?_cons_zero, List.getElem?_cons_succ, Option.getD_some]
      rfl
    case o9 =>
      intro w1 hG
      intro v5 h5
      change _ = _ at h5
      subst h5
      intro v8 h8
      change _ = _ at h8
      subst h8
      refine turn_on (by rfl) ?_
      intro K hK
      simp only [List.getD_cons_zero, List.getD_cons_succ, List.setIfInBounds_toArray, List.set_cons_zero, List.set_cons_succ]
      go_simp
      refine Calls.mono (refblob_any _ _ _ _ _ _ _ _ _ _ _ (by omega) (by omega)) ?_
      rintro e w2 ⟨rfl, hb⟩
      refine hK _ _ ⟨rfl, hb, ?_⟩
      show _ = _
      simp only [List.getD_cons_zero, List.getD_cons_succ, Array.getD_eq_getD_getElem?, List.getElem?_toArray, List.getElem?_cons_zero, List.getElem?_cons_succ, Option.getD_some]
      rfl
    case o10 =>
      intro w1 hG
      intro v4 h4
      change _ = _ at h4
      subst h4
      intro v9 h9
      change _ = _ at h9
      subst h9
      refine turn_on (by rfl) ?_
      intro K hK
      simp only [List.getD_cons_zero, List.getD_cons_succ, List.setIfInBounds_toArray, List.set_cons_zero, List.set_cons_succ]
      go_simp
      refine hK _ _ ⟨rfl, Kept.refl _, ?_⟩
      show _ = _
      simp only [List.getD_cons_zero, List.getD_cons_succ, Array.getD_eq_getD_getElem?, List.getElem?_toArray, List.getElem?_cons_zero, List.getElem?_cons_succ, Option.getD_some]
      rfl
    case o11 =>
      intro w1 hG
      intro v2 h2
      change _ = _ at h2
      subst h2
      intro v10 h10
      change _ = _ at h10
      subst h10
      refine turn_on (by rfl) ?_
      intro K hK
      simp only [List.getD_cons_zero, List.getD_cons_succ, List.setIfInBounds_toArray, List.set_cons_zero, List.set_cons_succ]
      go_simp
      refine hK _ _ ⟨rfl, Kept.refl _, ?_⟩
      show _ = _
      simp only [List.getD_cons_zero, List.getD_cons_succ, Array.getD_eq_getD_getElem?, List.getElem?_toArray, List.getElem?_cons_zero, List.getElem?_cons_succ, Option.getD_some]
      rfl
    case o12 =>
      intro w1 hG
      intro v11 h11
      change _ = _ at h11
      subst h11
      refine turn_on (by rfl) ?_
      intro K hK
      simp only [List.getD_cons_zero, List.getD_cons_succ, List.setIfInBounds_toArray, List.set_cons_zero, List.set_cons_succ]
      go_simp
      refine hK _ _ ⟨rfl, Kept.refl _, ?_⟩
      show _ = _
      simp only [List.getD_cons_zero, List.getD_cons_succ, Array.getD_eq_getD_getElem?, List.getElem?_toArray, List.getElem?_cons_zero, List.getElem?_cons_succ, Option.getD_some]
      rfl
    case o13 =>
      intro w1 hG
      intro v12 h12
      change _ = _ at h12
      subst h12
      refine turn_on (by rfl) ?_
      intro K hK
      simp only [List.getD_cons_zero, List.getD_cons_succ, List.setIfInBounds_toArray, List.set_cons_zero, List.set_cons_succ]
      go_simp
      refine hK _ _ ⟨rfl, Kept.refl _, ?_⟩
      show _ = _
      simp only [List.getD_cons_zero, List.getD_cons_succ, Array.getD_eq_getD_getElem?, List.getElem?_toArray, List.getElem?_cons_zero, List.getElem?_cons_succ, Option.getD_some]
      rfl
  intro w1 hG
  intro v0 h0
  change _ = _ at h0
  subst h0
  intro v1 h1
  change _ = _ at h1
  subst h1
  intro v2 h2
  change _ = _ at h2
  subst h2
  intro v3 h3
  change _ = _ at h3
  subst h3
  intro v4 h4
  change _ = _ at h4
  subst h4
  intro v5 h5
  change _ = _ at h5
  subst h5
  intro v6 h6
  change _ = _ at h6
  subst h6
  intro v7 h7
  change _ = _ at h7
  subst h7
  intro v8 h8
  change _ = _ at h8
  subst h8
  intro v9 h9
  change _ = _ at h9
  subst h9
  intro v10 h10
  change _ = _ at h10
  subst h10
  intro v11 h11
  change _ = _ at h11
  subst h11
  intro v12 h12
  change _ = _ at h12
  subst h12
  intro v13 h13
  change _ = _ at h13
  subst h13
  simp only [Given, List.getD_cons_zero, List.getD_cons_succ, List.setIfInBounds_toArray, List.set_cons_zero, List.set_cons_succ]
  have hK := hB.drew.trans (Below.mono hG hB.size)
  go_wp2
  go_ret
  exact ⟨rfl, hK⟩

end Go.Proofs.Ythpmjapohkdamaa
