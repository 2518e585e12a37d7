/- The walk of almanaclaw6.GeomBytes. -/
import Derived.Test.YthpmjapohkdamaaGeomBack
import Derived.Test.YthpmjapohkdamaaRegion
import Derived.Test.YthpmjapohkdamaaStr
namespace Go.Proofs.Ythpmjapohkdamaa
open Go.RowKit
set_option linter.unusedSimpArgs false in
set_option linter.unusedVariables false in
set_option maxRecDepth 100000 in
set_option maxHeartbeats 2000000 in
theorem geomBytes_walk (b0 b1 b2 b3 b4 b5 b6 b7 b8 : Int) (a : Option Addr) (n c : Nat) (l : List Int) (w : World) (g0 : (Lit.int .i64 b0).wf = true) (g1 : (Lit.int .i64 b1).wf = true) (g2 : (Lit.int .i64 b2).wf = true) (g3 : (Lit.int .i64 b3).wf = true) (g4 : (Lit.int .i64 b4).wf = true) (g5 : (Lit.int .i64 b5).wf = true) (g6 : (Lit.int .i64 b6).wf = true) (g7 : (Lit.int .i64 b7).wf = true) (g8 : (Lit.int .i64 b8).wf = true) (hr : RdAt .u8 w a n c l) :
    Calls Try.prog 6 #[.agg #[.int .i64 b0, .int .i64 b1, .int .i64 b2, .int .i64 b3, .int .i64 b4, .int .i64 b5, .int .i64 b6, .int .i64 b7, .int .i64 b8], .slice a n c] w fun e w' => e = .returned (.bool true) ∧ Below w.heap.size w w' := by
  have H := Lib.hid hr
  clear hr
  by_cases hn : 1000 < n
  · have hd1 : decide ((1000 : Int) < n) = true := decide_eq_true (by omega)
    go_enter Try.func6, Try.ntmps6
    go_wp2_with (go_at_call 7; refine (known6 _).mono ?_; rintro e w1 ⟨rfl, hbk⟩)
    go_ret
    exact ⟨rfl, ((Below.refl w.heap.size w).alloc (Nat.le_refl _) _).trans (hbk.mono (by simp))⟩
  · have hd1 : decide ((1000 : Int) < n) = false := decide_eq_false (by omega)
    obtain ⟨d0, d1, d2, d3, d4, d5, d6, d7, d8, hdc⟩ := decC_agg l
    obtain ⟨N, hN⟩ : ∃ N, decN l = N := ⟨_, rfl⟩
    have HDC := Lib.hid hdc
    have HN := Lib.hid hN
    clear hdc hN
    obtain ⟨K, hK⟩ : ∃ K, chkB b0 b1 b2 b3 b4 b5 b6 b7 b8 = K := ⟨_, rfl⟩
    have HY : Hid (K = true → chkN b0 b1 b2 b3 b4 b5 b6 b7 b8 = 0 ∧ decC (encL [b0, b1, b2, b3, b4, b5, b6, b7, b8]) = .agg #[.int .i64 b0, .int .i64 b1, .int .i64 b2, .int .i64 b3, .int .i64 b4, .int .i64 b5, .int .i64 b6, .int .i64 b7, .int .i64 b8] ∧ decN (encL [b0, b1, b2, b3, b4, b5, b6, b7, b8]) = 0) := fun h => ⟨by unfold chkN; rw [hK, h]; rfl, dec_yes g0 g1 g2 g3 g4 g5 g6 g7 g8 (by rw [hK]; exact h)⟩
    have HO : Hid (K = false → chkN b0 b1 b2 b3 b4 b5 b6 b7 b8 = 1 ∧ decC (encL [b0, b1, b2, b3, b4, b5, b6, b7, b8]) = .agg #[.int .i64 0, .int .i64 0, .int .i64 0, .int .i64 0, .int .i64 0, .int .i64 0, .int .i64 0, .int .i64 0, .int .i64 0] ∧ decN (encL [b0, b1, b2, b3, b4, b5, b6, b7, b8]) = 22) := fun h => ⟨by unfold chkN; rw [hK, h]; rfl, dec_no g0 g1 g2 g3 g4 g5 g6 g7 g8 (by rw [hK]; exact h)⟩
    clear hK
    go_enter Try.func6, Try.ntmps6
    go_wp2_with (go_at_call 7; refine (known6 _).mono ?_; rintro e w1 ⟨rfl, hbk⟩; obtain ⟨k0, k1, k2, k3, k4, k5, k6, k7, k8⟩ := cells9 (row_keep (heap_alloc_new w (.cells #[.int .i64 b0, .int .i64 b1, .int .i64 b2, .int .i64 b3, .int .i64 b4, .int .i64 b5, .int .i64 b6, .int .i64 b7, .int .i64 b8] 23)) hbk); have HBK := Lib.hid hbk; clear hbk)
    have hbk := HBK.out
    have hb1 := ((Below.refl w.heap.size w).alloc (Nat.le_refl _) (.cells #[.int .i64 b0, .int .i64 b1, .int .i64 b2, .int .i64 b3, .int .i64 b4, .int .i64 b5, .int .i64 b6, .int .i64 b7, .int .i64 b8] 23)).trans (hbk.mono (by simp))
    have HC1 : Hid (w1.heap[w.heap.size]? = some (.cells #[.int .i64 b0, .int .i64 b1, .int .i64 b2, .int .i64 b3, .int .i64 b4, .int .i64 b5, .int .i64 b6, .int .i64 b7, .int .i64 b8] 23 (0, 0))) := row_keep (heap_alloc_new _ _) hbk
    have HB1 := Lib.hid hb1
    clear hb1 hbk HBK
    refine (genc_any b0 b1 b2 b3 b4 b5 b6 b7 b8 _ g0 g1 g2 g3 g4 g5 g6 g7 g8).mono ?_
    rintro e w2 ⟨vx, rfl, hox, hb2⟩
    have HC2 := Lib.hid (row_keep HC1.out hb2)
    have HB2 := Lib.hid (HB1.out.trans (hb2.mono HB1.out.size))
    obtain ⟨nx, hnx⟩ : ∃ nx, (encL [b0, b1, b2, b3, b4, b5, b6, b7, b8]).length = nx := ⟨_, rfl⟩
    have hnx2 : nx ≤ 90 := by have := encL_len [b0, b1, b2, b3, b4, b5, b6, b7, b8]; simp at this; omega
    obtain ⟨ax, cx, rfl⟩ := hox.shapeN nx hnx
    have HX2 := Lib.hid hox.rd
    clear k0 k1 k2 k3 k4 k5 k6 k7 k8 hb2 hox hnx
    go_wp2_with fail
    refine (gdec_any _ _ _ l _ (H.out.below HB2.out) (by omega)).mono ?_
    rintro e w3 ⟨hee, hb3⟩
    rw [HDC.out, HN.out] at hee
    subst hee
    have HC3 := Lib.hid (row_keep HC2.out hb3)
    have HB3 := Lib.hid (HB2.out.trans (hb3.mono HB2.out.size))
    have HX3 := Lib.hid (HX2.out.below hb3)
    clear hb3
    go_wp2_with fail
    have hS4 : (w3.alloc (.cells #[.int .i64 d0, .int .i64 d1, .int .i64 d2, .int .i64 d3, .int .i64 d4, .int .i64 d5, .int .i64 d6, .int .i64 d7, .int .i64 d8] 23)).heap[w3.heap.size]? = some (.cells #[.int .i64 d0, .int .i64 d1, .int .i64 d2, .int .i64 d3, .int .i64 d4, .int .i64 d5, .int .i64 d6, .int .i64 d7, .int .i64 d8] 23 (0, 0)) := heap_alloc_new _ _
    have hb4 : Below w3.heap.size w3 (w3.alloc (.cells #[.int .i64 d0, .int .i64 d1, .int .i64 d2, .int .i64 d3, .int .i64 d4, .int .i64 d5, .int .i64 d6, .int .i64 d7, .int .i64 d8] 23)) := (Below.refl _ _).alloc (Nat.le_refl _) _
    obtain ⟨S, hS⟩ : ∃ S, w3.heap.size = S := ⟨_, rfl⟩
    obtain ⟨w4, hw4⟩ : ∃ w4, w3.alloc (.cells #[.int .i64 d0, .int .i64 d1, .int .i64 d2, .int .i64 d3, .int .i64 d4, .int .i64 d5, .int .i64 d6, .int .i64 d7, .int .i64 d8] 23) = w4 := ⟨_, rfl⟩
    rw [hw4] at hS4 hb4
    rw [hw4]
    have HC4 := Lib.hid (row_keep HC3.out hb4)
    have HB4 := Lib.hid (HB3.out.trans (hb4.mono HB3.out.size))
    have HX4 := Lib.hid (HX3.out.below hb4)
    have hSB : w.heap.size < S := by rw [← hS]; exact (Array.getElem?_eq_some_iff.1 HC3.out).1
    rw [hS] at hS4
    rw [hS]
    have HS4 := Lib.hid hS4
    clear hb4 hw4 hS4 hS
    refine (rdec_any _ _ _ l _ (H.out.below HB4.out) (by omega)).mono ?_
    rintro e w5 ⟨hee, hb5⟩
    rw [HDC.out, HN.out] at hee
    subst hee
    have HC5 := Lib.hid (row_keep HC4.out hb5)
    have HS5 := Lib.hid (row_keep HS4.out hb5)
    have HB5 := Lib.hid (HB4.out.trans (hb5.mono HB4.out.size))
    have HX5 := Lib.hid (HX4.out.below hb5)
    clear hb5
    go_wp2_with fail
    have hT6 : (w5.alloc (.cells #[.int .i64 d0, .int .i64 d1, .int .i64 d2, .int .i64 d3, .int .i64 d4, .int .i64 d5, .int .i64 d6, .int .i64 d7, .int .i64 d8] 23)).heap[w5.heap.size]? = some (.cells #[.int .i64 d0, .int .i64 d1, .int .i64 d2, .int .i64 d3, .int .i64 d4, .int .i64 d5, .int .i64 d6, .int .i64 d7, .int .i64 d8] 23 (0, 0)) := heap_alloc_new _ _
    have hb6 : Below w5.heap.size w5 (w5.alloc (.cells #[.int .i64 d0, .int .i64 d1, .int .i64 d2, .int .i64 d3, .int .i64 d4, .int .i64 d5, .int .i64 d6, .int .i64 d7, .int .i64 d8] 23)) := (Below.refl _ _).alloc (Nat.le_refl _) _
    obtain ⟨T, hT⟩ : ∃ T, w5.heap.size = T := ⟨_, rfl⟩
    obtain ⟨w6, hw6⟩ : ∃ w6, w5.alloc (.cells #[.int .i64 d0, .int .i64 d1, .int .i64 d2, .int .i64 d3, .int .i64 d4, .int .i64 d5, .int .i64 d6, .int .i64 d7, .int .i64 d8] 23) = w6 := ⟨_, rfl⟩
    rw [hw6] at hT6 hb6
    rw [hw6]
    have HC6 := Lib.hid (row_keep HC5.out hb6)
    have HS6 := Lib.hid (row_keep HS5.out hb6)
    have HB6 := Lib.hid (HB5.out.trans (hb6.mono HB5.out.size))
    have hx : RdAt .u8 w6 ax nx cx (encL [b0, b1, b2, b3, b4, b5, b6, b7, b8]) := HX5.out.below hb6
    rw [hT] at hT6
    rw [hT]
    have hC5 : w6.drew.heap[w.heap.size]? = some (.cells #[.int .i64 b0, .int .i64 b1, .int .i64 b2, .int .i64 b3, .int .i64 b4, .int .i64 b5, .int .i64 b6, .int .i64 b7, .int .i64 b8] 23 (0, 0)) := HC6.out
    have hS5 : w6.drew.heap[S]? = some (.cells #[.int .i64 d0, .int .i64 d1, .int .i64 d2, .int .i64 d3, .int .i64 d4, .int .i64 d5, .int .i64 d6, .int .i64 d7, .int .i64 d8] 23 (0, 0)) := HS6.out
    have hT5 : w6.drew.heap[T]? = some (.cells #[.int .i64 d0, .int .i64 d1, .int .i64 d2, .int .i64 d3, .int .i64 d4, .int .i64 d5, .int .i64 d6, .int .i64 d7, .int .i64 d8] 23 (0, 0)) := hT6
    clear hb6 hw6 hT6 hT
    refine' reg_free (G := Kept) (pickF [eqV _, eqV _, eqV _, isBytes (encL [b0, b1, b2, b3, b4, b5, b6, b7, b8]), eqV _, eqV _, eqV _, eqV _, eqV _, eqV _, eqV _, eqV _, eqV _, eqV _, eqV _, eqV _]) [27, 28, 29, 30, 31, 32, 33, 34, 35, 36, 37, 38, 39, 40, 41, 42] [[], [0], [], [2], [3], [1, 4], [5], [6], [6], [6, 7, 8], [6, 9], [10], [11], [11], [11, 12, 13], [11, 14]] [0, 1, 2, 3, 4, 5, 6, 7, 8, 9, 10, 11, 12, 13, 14, 15] (by kernel_rfl) Kept.refl Kept.trans (pick_stays ⟨eqV_stays _, eqV_stays _, eqV_stays _, isBytes_stays _, eqV_stays _, eqV_stays _, eqV_stays _, eqV_stays _, eqV_stays _, eqV_stays _, eqV_stays _, eqV_stays _, eqV_stays _, eqV_stays _, eqV_stays _, eqV_stays _, trivial⟩) 65 rfl (by kernel_rfl) (by kernel_rfl) rfl rfl ?r1obl ?r1fin
    case r1obl =>
      refine And.intro ?r1o0 (And.intro ?r1o1 (And.intro ?r1o2 (And.intro ?r1o3 (And.intro ?r1o4 (And.intro ?r1o5 (And.intro ?r1o6 (And.intro ?r1o7 (And.intro ?r1o8 (And.intro ?r1o9 (And.intro ?r1o10 (And.intro ?r1o11 (And.intro ?r1o12 (And.intro ?r1o13 (And.intro ?r1o14 (And.intro ?r1o15 (True.intro))))))))))))))))
      case r1o0 =>
        intro w1 hG
        refine turn_on (by rfl) ?_
        intro K hK
        go_simp
        refine hK _ _ ⟨rfl, Kept.refl _, ?_⟩
        show _ = _
        simp only [List.getD_cons_zero, List.getD_cons_succ, Array.getD_eq_getD_getElem?, List.getElem?_toArray, List.getElem?_cons_zero, List.getElem?_cons_succ, Option.getD_some]
        rfl
      case r1o1 =>
        intro w1 hG
        intro v0 h0
        change _ = _ at h0
        subst h0
        refine turn_on (by rfl) ?_
        intro K hK
        simp only [List.getD_cons_zero, List.getD_cons_succ, List.setIfInBounds_toArray, List.set_cons_zero, List.set_cons_succ]
        refine wp_conv 28 rfl u8T s8 su _ rfl rfl (hx.keptD hG) ?_
        refine hK _ _ ⟨rfl, Kept.refl _, ?_⟩
        show _ = _
        simp only [List.getD_cons_zero, List.getD_cons_succ, Array.getD_eq_getD_getElem?, List.getElem?_toArray, List.getElem?_cons_zero, List.getElem?_cons_succ, Option.getD_some]
        rfl
      case r1o2 =>
        intro w1 hG
        refine turn_on (by rfl) ?_
        intro K hK
        obtain ⟨k0, k1, k2, k3, k4, k5, k6, k7, k8⟩ := cells9 (row_keep hC5 hG)
        go_simp
        refine hK _ _ ⟨rfl, Kept.refl _, ?_⟩
        show _ = _
        simp only [List.getD_cons_zero, List.getD_cons_succ, Array.getD_eq_getD_getElem?, List.getElem?_toArray, List.getElem?_cons_zero, List.getElem?_cons_succ, Option.getD_some]
        rfl
      case r1o3 =>
        intro w1 hG
        intro v2 h2
        change _ = _ at h2
        subst h2
        refine turn_on (by rfl) ?_
        intro K hK
        simp only [List.getD_cons_zero, List.getD_cons_succ, List.setIfInBounds_toArray, List.set_cons_zero, List.set_cons_succ]
        go_simp
        refine Calls.mono (renc_any b0 b1 b2 b3 b4 b5 b6 b7 b8 _ g0 g1 g2 g3 g4 g5 g6 g7 g8) ?_
        rintro e w2 ⟨vv, rfl, hov, hbx⟩
        refine hK _ _ ⟨rfl, hbx, ?_⟩
        show isBytes _ _ _
        simp only [List.getD_cons_zero, List.getD_cons_succ, Array.getD_eq_getD_getElem?, List.getElem?_toArray, List.getElem?_cons_zero, List.getElem?_cons_succ, Option.getD_some]
        exact hov.isBytes
      case r1o4 =>
        intro w1 hG
        intro v3 h3
        obtain ⟨a3, n3, c3, rfl, h3⟩ := h3
        refine turn_on (by rfl) ?_
        intro K hK
        simp only [List.getD_cons_zero, List.getD_cons_succ, List.setIfInBounds_toArray, List.set_cons_zero, List.set_cons_succ]
        refine wp_conv 31 rfl u8T s8 su _ rfl rfl (h3) ?_
        refine hK _ _ ⟨rfl, Kept.refl _, ?_⟩
        show _ = _
        simp only [List.getD_cons_zero, List.getD_cons_succ, Array.getD_eq_getD_getElem?, List.getElem?_toArray, List.getElem?_cons_zero, List.getElem?_cons_succ, Option.getD_some]
        rfl
      case r1o5 =>
        intro w1 hG
        intro v1 h1
        change _ = _ at h1
        subst h1
        intro v4 h4
        change _ = _ at h4
        subst h4
        refine turn_on (by rfl) ?_
        intro K hK
        simp only [List.getD_cons_zero, List.getD_cons_succ, List.setIfInBounds_toArray, List.set_cons_zero, List.set_cons_succ]
        go_simp
        refine hK _ _ ⟨rfl, Kept.refl _, ?_⟩
        show _ = _
        simp only [List.getD_cons_zero, List.getD_cons_succ, Array.getD_eq_getD_getElem?, List.getElem?_toArray, List.getElem?_cons_zero, List.getElem?_cons_succ, Option.getD_some]
        rfl
      case r1o6 =>
        intro w1 hG
        intro v5 h5
        change _ = _ at h5
        subst h5
        refine turn_on (by rfl) ?_
        intro K hK
        simp only [List.getD_cons_zero, List.getD_cons_succ, List.setIfInBounds_toArray, List.set_cons_zero, List.set_cons_succ]
        go_simp
        refine hK _ _ ⟨rfl, Kept.refl _, ?_⟩
        show _ = _
        simp only [List.getD_cons_zero, List.getD_cons_succ, Array.getD_eq_getD_getElem?, List.getElem?_toArray, List.getElem?_cons_zero, List.getElem?_cons_succ, Option.getD_some]
        rfl
      case r1o7 =>
        intro w1 hG
        intro v6 h6
        change _ = _ at h6
        subst h6
        refine turn_on (by rfl) ?_
        intro K hK
        simp only [List.getD_cons_zero, List.getD_cons_succ, List.setIfInBounds_toArray, List.set_cons_zero, List.set_cons_succ]
        obtain ⟨k0, k1, k2, k3, k4, k5, k6, k7, k8⟩ := cells9 (row_keep hS5 hG)
        go_simp
        refine hK _ _ ⟨rfl, Kept.refl _, ?_⟩
        show _ = _
        simp only [List.getD_cons_zero, List.getD_cons_succ, Array.getD_eq_getD_getElem?, List.getElem?_toArray, List.getElem?_cons_zero, List.getElem?_cons_succ, Option.getD_some]
        rfl
      case r1o8 =>
        intro w1 hG
        intro v6 h6
        change _ = _ at h6
        subst h6
        refine turn_on (by rfl) ?_
        intro K hK
        simp only [List.getD_cons_zero, List.getD_cons_succ, List.setIfInBounds_toArray, List.set_cons_zero, List.set_cons_succ]
        obtain ⟨k0, k1, k2, k3, k4, k5, k6, k7, k8⟩ := cells9 (row_keep hT5 hG)
        go_simp
        refine hK _ _ ⟨rfl, Kept.refl _, ?_⟩
        show _ = _
        simp only [List.getD_cons_zero, List.getD_cons_succ, Array.getD_eq_getD_getElem?, List.getElem?_toArray, List.getElem?_cons_zero, List.getElem?_cons_succ, Option.getD_some]
        rfl
      case r1o9 =>
        intro w1 hG
        intro v6 h6
        change _ = _ at h6
        subst h6
        intro v7 h7
        change _ = _ at h7
        subst h7
        intro v8 h8
        change _ = _ at h8
        subst h8
        refine turn_on (by rfl) ?_
        intro K hK
        simp only [List.getD_cons_zero, List.getD_cons_succ, List.setIfInBounds_toArray, List.set_cons_zero, List.set_cons_succ]
        go_simp
        refine hK _ _ ⟨rfl, Kept.refl _, ?_⟩
        show _ = _
        simp only [List.getD_cons_zero, List.getD_cons_succ, Array.getD_eq_getD_getElem?, List.getElem?_toArray, List.getElem?_cons_zero, List.getElem?_cons_succ, Option.getD_some]
        rfl
      case r1o10 =>
        intro w1 hG
        intro v6 h6
        change _ = _ at h6
        subst h6
        intro v9 h9
        change _ = _ at h9
        subst h9
        refine turn_on (by rfl) ?_
        intro K hK
        simp only [List.getD_cons_zero, List.getD_cons_succ, List.setIfInBounds_toArray, List.set_cons_zero, List.set_cons_succ]
        go_simp
        refine hK _ _ ⟨rfl, Kept.refl _, ?_⟩
        show _ = _
        simp only [List.getD_cons_zero, List.getD_cons_succ, Array.getD_eq_getD_getElem?, List.getElem?_toArray, List.getElem?_cons_zero, List.getElem?_cons_succ, Option.getD_some]
        rfl
      case r1o11 =>
        intro w1 hG
        intro v10 h10
        change _ = _ at h10
        subst h10
        refine turn_on (by rfl) ?_
        intro K hK
        simp only [List.getD_cons_zero, List.getD_cons_succ, List.setIfInBounds_toArray, List.set_cons_zero, List.set_cons_succ]
        go_simp
        refine hK _ _ ⟨rfl, Kept.refl _, ?_⟩
        show _ = _
        simp only [List.getD_cons_zero, List.getD_cons_succ, Array.getD_eq_getD_getElem?, List.getElem?_toArray, List.getElem?_cons_zero, List.getElem?_cons_succ, Option.getD_some]
        rfl
      case r1o12 =>
        intro w1 hG
        intro v11 h11
        change _ = _ at h11
        subst h11
        refine turn_on (by rfl) ?_
        intro K hK
        simp only [List.getD_cons_zero, List.getD_cons_succ, List.setIfInBounds_toArray, List.set_cons_zero, List.set_cons_succ]
        go_simp
        refine hK _ _ ⟨rfl, Kept.refl _, ?_⟩
        show _ = _
        simp only [List.getD_cons_zero, List.getD_cons_succ, Array.getD_eq_getD_getElem?, List.getElem?_toArray, List.getElem?_cons_zero, List.getElem?_cons_succ, Option.getD_some]
        rfl
      case r1o13 =>
        intro w1 hG
        intro v11 h11
        change _ = _ at h11
        subst h11
        refine turn_on (by rfl) ?_
        intro K hK
        simp only [List.getD_cons_zero, List.getD_cons_succ, List.setIfInBounds_toArray, List.set_cons_zero, List.set_cons_succ]
        go_simp
        refine hK _ _ ⟨rfl, Kept.refl _, ?_⟩
        show _ = _
        simp only [List.getD_cons_zero, List.getD_cons_succ, Array.getD_eq_getD_getElem?, List.getElem?_toArray, List.getElem?_cons_zero, List.getElem?_cons_succ, Option.getD_some]
        rfl
      case r1o14 =>
        intro w1 hG
        intro v11 h11
        change _ = _ at h11
        subst h11
        intro v12 h12
        change _ = _ at h12
        subst h12
        intro v13 h13
        change _ = _ at h13
        subst h13
        refine turn_on (by rfl) ?_
        intro K hK
        simp only [List.getD_cons_zero, List.getD_cons_succ, List.setIfInBounds_toArray, List.set_cons_zero, List.set_cons_succ]
        go_simp
        refine hK _ _ ⟨rfl, Kept.refl _, ?_⟩
        show _ = _
        simp only [List.getD_cons_zero, List.getD_cons_succ, Array.getD_eq_getD_getElem?, List.getElem?_toArray, List.getElem?_cons_zero, List.getElem?_cons_succ, Option.getD_some]
        rfl
      case r1o15 =>
        intro w1 hG
        intro v11 h11
        change _ = _ at h11
        subst h11
        intro v14 h14
        change _ = _ at h14
        subst h14
        refine turn_on (by rfl) ?_
        intro K hK
        simp only [List.getD_cons_zero, List.getD_cons_succ, List.setIfInBounds_toArray, List.set_cons_zero, List.set_cons_succ]
        go_simp
        refine hK _ _ ⟨rfl, Kept.refl _, ?_⟩
        show _ = _
        simp only [List.getD_cons_zero, List.getD_cons_succ, Array.getD_eq_getD_getElem?, List.getElem?_toArray, List.getElem?_cons_zero, List.getElem?_cons_succ, Option.getD_some]
        rfl
    intro w1 hG
    intro v0 h0
    change _ = _ at h0
    subst h0
    intro v1 h1
    change _ = _ at h1
    subst h1
    intro v2 h2
    change _ = _ at h2
    subst h2
    intro v3 h3
    obtain ⟨a3, n3, c3, rfl, h3⟩ := h3
    intro v4 h4
    change _ = _ at h4
    subst h4
    intro v5 h5
    change _ = _ at h5
    subst h5
    intro v6 h6
    change _ = _ at h6
    subst h6
    intro v7 h7
    change _ = _ at h7
    subst h7
    intro v8 h8
    change _ = _ at h8
    subst h8
    intro v9 h9
    change _ = _ at h9
    subst h9
    intro v10 h10
    change _ = _ at h10
    subst h10
    intro v11 h11
    change _ = _ at h11
    subst h11
    intro v12 h12
    change _ = _ at h12
    subst h12
    intro v13 h13
    change _ = _ at h13
    subst h13
    intro v14 h14
    change _ = _ at h14
    subst h14
    intro v15 h15
    change _ = _ at h15
    subst h15
    simp only [Given, List.getD_cons_zero, List.getD_cons_succ, List.setIfInBounds_toArray, List.set_cons_zero, List.set_cons_succ]
    have HC7 := Lib.hid (row_keep hC5 hG)
    have HS7 := Lib.hid (row_keep hS5 hG)
    have HX7 := Lib.hid (hx.keptD hG)
    have HB7 : Hid (Below w.heap.size w w1) := HB6.out.drew.trans (Below.mono hG HB6.out.size)
    clear hC5 hS5 hT5 hx hG
    cases K
    · obtain ⟨hy1, hy2, hy3⟩ := HO.out rfl
      have HY1 := Lib.hid hy1
      have HY2 := Lib.hid hy2
      have HY3 := Lib.hid hy3
      clear hy1 hy2 hy3 HY HO
      go_wp2_with fail
      refine (gdec_any _ _ _ _ _ HX7.out (by omega)).mono ?_
      rintro e w8 ⟨hee, hb8⟩
      rw [HY2.out, HY3.out] at hee
      subst hee
      have HC8 := Lib.hid (row_keep HC7.out hb8)
      have HS8 := Lib.hid (row_keep HS7.out hb8)
      have HB8 := Lib.hid (HB7.out.trans (hb8.mono HB7.out.size))
      clear hb8
      obtain ⟨s0, s1, s2, s3, s4, s5, s6, s7, s8⟩ := cells9 HS8.out
      obtain ⟨k0, k1, k2, k3, k4, k5, k6, k7, k8⟩ := cells9 HC8.out
      have sf : ∀ i, w8.frozen? ⟨S, i, none⟩ = false := fun i => frozen_of_row w8 _ i _ _ HS8.out
      have hne : S ≠ w.heap.size := by omega
      go_wp2_with fail
      change Calls _ _ _ (put9 w8 S 0 0 0 0 0 0 0 0 0) _
      have HS9 := Lib.hid (put9_row HS8.out 0 0 0 0 0 0 0 0 0)
      have HC9 : Hid ((put9 w8 S 0 0 0 0 0 0 0 0 0).heap[w.heap.size]? = _) := (put9_other hne.symm 0 0 0 0 0 0 0 0 0).trans HC8.out
      have HB9 := Lib.hid (put9_below (b := S) HB8.out (Nat.le_of_lt hSB) 0 0 0 0 0 0 0 0 0)
      generalize put9 w8 S 0 0 0 0 0 0 0 0 0 = w9 at *
      clear s0 s1 s2 s3 s4 s5 s6 s7 s8 k0 k1 k2 k3 k4 k5 k6 k7 k8 sf
      refine (check_any _ _ _ _ _ _ _ _ _ _).mono ?_
      rintro e w10 ⟨hee, hb10⟩
      rw [HY1.out] at hee
      subst hee
      obtain ⟨s0, s1, s2, s3, s4, s5, s6, s7, s8⟩ := cells9 (row_keep HS9.out hb10)
      obtain ⟨k0, k1, k2, k3, k4, k5, k6, k7, k8⟩ := cells9 (row_keep HC9.out hb10)
      have HB10 := Lib.hid (HB9.out.trans (hb10.mono HB9.out.size))
      clear hb10
      go_wp2_with fail
      go_ret
      exact ⟨rfl, HB10.out⟩
    · obtain ⟨hy1, hy2, hy3⟩ := HY.out rfl
      have HY1 := Lib.hid hy1
      have HY2 := Lib.hid hy2
      have HY3 := Lib.hid hy3
      clear hy1 hy2 hy3 HY HO
      go_wp2_with fail
      refine (gdec_any _ _ _ _ _ HX7.out (by omega)).mono ?_
      rintro e w8 ⟨hee, hb8⟩
      rw [HY2.out, HY3.out] at hee
      subst hee
      have HC8 := Lib.hid (row_keep HC7.out hb8)
      have HS8 := Lib.hid (row_keep HS7.out hb8)
      have HB8 := Lib.hid (HB7.out.trans (hb8.mono HB7.out.size))
      clear hb8
      obtain ⟨s0, s1, s2, s3, s4, s5, s6, s7, s8⟩ := cells9 HS8.out
      obtain ⟨k0, k1, k2, k3, k4, k5, k6, k7, k8⟩ := cells9 HC8.out
      have sf : ∀ i, w8.frozen? ⟨S, i, none⟩ = false := fun i => frozen_of_row w8 _ i _ _ HS8.out
      have hne : S ≠ w.heap.size := by omega
      go_wp2_with fail
      change Calls _ _ _ (put9 w8 S b0 b1 b2 b3 b4 b5 b6 b7 b8) _
      have HS9 := Lib.hid (put9_row HS8.out b0 b1 b2 b3 b4 b5 b6 b7 b8)
      have HC9 : Hid ((put9 w8 S b0 b1 b2 b3 b4 b5 b6 b7 b8).heap[w.heap.size]? = _) := (put9_other hne.symm b0 b1 b2 b3 b4 b5 b6 b7 b8).trans HC8.out
      have HB9 := Lib.hid (put9_below (b := S) HB8.out (Nat.le_of_lt hSB) b0 b1 b2 b3 b4 b5 b6 b7 b8)
      generalize put9 w8 S b0 b1 b2 b3 b4 b5 b6 b7 b8 = w9 at *
      clear s0 s1 s2 s3 s4 s5 s6 s7 s8 k0 k1 k2 k3 k4 k5 k6 k7 k8 sf
      refine (check_any _ _ _ _ _ _ _ _ _ _).mono ?_
      rintro e w10 ⟨hee, hb10⟩
      rw [HY1.out] at hee
      subst hee
      obtain ⟨s0, s1, s2, s3, s4, s5, s6, s7, s8⟩ := cells9 (row_keep HS9.out hb10)
      obtain ⟨k0, k1, k2, k3, k4, k5, k6, k7, k8⟩ := cells9 (row_keep HC9.out hb10)
      have HB10 := Lib.hid (HB9.out.trans (hb10.mono HB9.out.size))
      clear hb10
      go_wp2_with fail
      go_ret
      exact ⟨rfl, HB10.out⟩
end Go.Proofs.Ythpmjapohkdamaa
