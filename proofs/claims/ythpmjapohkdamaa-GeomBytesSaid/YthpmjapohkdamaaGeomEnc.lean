/- geom's Encode, and the reference's: contracts. -/
import Derived.Test.YthpmjapohkdamaaWriterI
import Derived.Test.YthpmjapohkdamaaGeomI
import Derived.Test.YthpmjapohkdamaaOrder
namespace Go.Proofs.Ythpmjapohkdamaa
open Go.RowKit
/-- Numbers as bytes, one behind the other. -/
def encL : List Int → List Int
  | [] => []
  | x :: r => varF 9 (zigI x) ++ encL r
theorem encL_snoc : ∀ (l : List Int) (x : Int), encL (l ++ [x]) = encL l ++ varF 9 (zigI x)
  | [], x => by simp [encL]
  | y :: r, x => by rw [List.cons_append, encL, encL, encL_snoc r x, List.append_assoc]
theorem encL_len : ∀ l : List Int, (encL l).length ≤ 10 * l.length
  | [] => by simp [encL]
  | x :: r => by
    have h1 := (varF_len 9 (zigI x)).2
    have h2 := encL_len r
    rw [encL, List.length_append, List.length_cons]
    omega
theorem take_step {l : List Int} {k : Nat} (h : k < l.length) : l.take (k + 1) = l.take k ++ [nth l k] := by
  rw [List.take_succ_eq_append_getElem h, nth_eq h]
theorem nine_ptr {w : World} {P C k : Nat} (h : w.heap[P]? = some (.cells #[.pointer (some ⟨C, 0, none⟩), .pointer (some ⟨C, 1, none⟩), .pointer (some ⟨C, 2, none⟩), .pointer (some ⟨C, 3, none⟩), .pointer (some ⟨C, 4, none⟩), .pointer (some ⟨C, 5, none⟩), .pointer (some ⟨C, 6, none⟩), .pointer (some ⟨C, 7, none⟩), .pointer (some ⟨C, 8, none⟩)] 53 (0, 0))) (hk : k < 9) : w.cell? ⟨P, k, none⟩ = some (.pointer (some ⟨C, k, none⟩)) := by
  rw [cell_of_row w _ _ _ _ _ h]
  have : k = 0 ∨ k = 1 ∨ k = 2 ∨ k = 3 ∨ k = 4 ∨ k = 5 ∨ k = 6 ∨ k = 7 ∨ k = 8 := by omega
  rcases this with rfl | rfl | rfl | rfl | rfl | rfl | rfl | rfl | rfl <;> rfl
theorem nine_int {w : World} {C k T : Nat} {a0 a1 a2 a3 a4 a5 a6 a7 a8 : Int} (h : w.heap[C]? = some (.cells #[.int .i64 a0, .int .i64 a1, .int .i64 a2, .int .i64 a3, .int .i64 a4, .int .i64 a5, .int .i64 a6, .int .i64 a7, .int .i64 a8] T (0, 0))) (hk : k < 9) : w.cell? ⟨C, k, none⟩ = some (.int .i64 (nth [a0, a1, a2, a3, a4, a5, a6, a7, a8] k)) := by
  rw [cell_of_row w _ _ _ _ _ h]
  have : k = 0 ∨ k = 1 ∨ k = 2 ∨ k = 3 ∨ k = 4 ∨ k = 5 ∨ k = 6 ∨ k = 7 ∨ k = 8 := by omega
  rcases this with rfl | rfl | rfl | rfl | rfl | rfl | rfl | rfl | rfl <;> rfl
theorem nine_wf {a0 a1 a2 a3 a4 a5 a6 a7 a8 : Int} (h0 : (Lit.int .i64 a0).wf = true) (h1 : (Lit.int .i64 a1).wf = true) (h2 : (Lit.int .i64 a2).wf = true) (h3 : (Lit.int .i64 a3).wf = true) (h4 : (Lit.int .i64 a4).wf = true) (h5 : (Lit.int .i64 a5).wf = true) (h6 : (Lit.int .i64 a6).wf = true) (h7 : (Lit.int .i64 a7).wf = true) (h8 : (Lit.int .i64 a8).wf = true) {k : Nat} (hk : k < 9) : (Lit.int .i64 (nth [a0, a1, a2, a3, a4, a5, a6, a7, a8] k)).wf = true := by
  have : k = 0 ∨ k = 1 ∨ k = 2 ∨ k = 3 ∨ k = 4 ∨ k = 5 ∨ k = 6 ∨ k = 7 ∨ k = 8 := by omega
  rcases this with rfl | rfl | rfl | rfl | rfl | rfl | rfl | rfl | rfl <;> assumption
set_option linter.unusedSimpArgs false in
set_option linter.unusedVariables false in
set_option maxRecDepth 100000 in
set_option maxHeartbeats 2000000 in
theorem numbers_any (C : Nat) (w : World) :
    Calls Try.prog 32 #[.pointer (some ⟨C, 0, none⟩)] w fun e w' => ∃ P, e = .returned (.slice (some ⟨P, 0, none⟩) 9 9) ∧ w'.heap[P]? = some (.cells #[.pointer (some ⟨C, 0, none⟩), .pointer (some ⟨C, 1, none⟩), .pointer (some ⟨C, 2, none⟩), .pointer (some ⟨C, 3, none⟩), .pointer (some ⟨C, 4, none⟩), .pointer (some ⟨C, 5, none⟩), .pointer (some ⟨C, 6, none⟩), .pointer (some ⟨C, 7, none⟩), .pointer (some ⟨C, 8, none⟩)] 53 (0, 0)) ∧ w.heap.size ≤ P ∧ Below w.heap.size w w' := by
  go_enter Try.func32, Try.ntmps32
  go_wp2_with fail
  refine' reg_free (G := Kept) (pickF [eqV _, eqV _, eqV _, eqV _, eqV _, eqV _, eqV _, eqV _, eqV _, eqV _, eqV _, eqV _, eqV _, eqV _, eqV _, eqV _, eqV _, eqV _, eqV _, eqV _, eqV _, eqV _, eqV _, eqV _, eqV _, eqV _, eqV _, (fun v w2 => ∃ P, v = .slice (some ⟨P, 0, none⟩) 9 9 ∧ w2.heap[P]? = some (.cells #[.pointer (some ⟨C, 0, none⟩), .pointer (some ⟨C, 1, none⟩), .pointer (some ⟨C, 2, none⟩), .pointer (some ⟨C, 3, none⟩), .pointer (some ⟨C, 4, none⟩), .pointer (some ⟨C, 5, none⟩), .pointer (some ⟨C, 6, none⟩), .pointer (some ⟨C, 7, none⟩), .pointer (some ⟨C, 8, none⟩)] 53 (0, 0)) ∧ w.heap.size ≤ P), (fun v w2 => ∃ P, v = .slice (some ⟨P, 0, none⟩) 9 9 ∧ w2.heap[P]? = some (.cells #[.pointer (some ⟨C, 0, none⟩), .pointer (some ⟨C, 1, none⟩), .pointer (some ⟨C, 2, none⟩), .pointer (some ⟨C, 3, none⟩), .pointer (some ⟨C, 4, none⟩), .pointer (some ⟨C, 5, none⟩), .pointer (some ⟨C, 6, none⟩), .pointer (some ⟨C, 7, none⟩), .pointer (some ⟨C, 8, none⟩)] 53 (0, 0)) ∧ w.heap.size ≤ P)]) [3, 4, 5, 6, 7, 8, 9, 10, 11, 12, 13, 14, 15, 16, 17, 18, 19, 20, 21, 22, 23, 24, 25, 26, 27, 28, 29, 30, 2] [[], [0], [1], [], [3], [4], [], [6], [7], [], [9], [10], [], [12], [13], [], [15], [16], [], [18], [19], [], [21], [22], [], [24], [25], [2, 5, 8, 11, 14, 17, 20, 23, 26], [27]] [0, 1, 2, 3, 4, 5, 6, 7, 8, 9, 10, 11, 12, 13, 14, 15, 16, 17, 18, 19, 20, 21, 22, 23, 24, 25, 26, 27, 28] (by kernel_rfl) Kept.refl Kept.trans (pick_stays ⟨eqV_stays _, eqV_stays _, eqV_stays _, eqV_stays _, eqV_stays _, eqV_stays _, eqV_stays _, eqV_stays _, eqV_stays _, eqV_stays _, eqV_stays _, eqV_stays _, eqV_stays _, eqV_stays _, eqV_stays _, eqV_stays _, eqV_stays _, eqV_stays _, eqV_stays _, eqV_stays _, eqV_stays _, eqV_stays _, eqV_stays _, eqV_stays _, eqV_stays _, eqV_stays _, eqV_stays _, (by rintro v w w' ⟨P, rfl, h1, h2⟩ hk; exact ⟨P, rfl, row_keep h1 hk, h2⟩), (by rintro v w w' ⟨P, rfl, h1, h2⟩ hk; exact ⟨P, rfl, row_keep h1 hk, h2⟩), trivial⟩) 31 rfl (by kernel_rfl) (by kernel_rfl) rfl rfl ?r1obl ?r1fin
  case r1obl =>
    refine And.intro ?r1o0 (And.intro ?r1o1 (And.intro ?r1o2 (And.intro ?r1o3 (And.intro ?r1o4 (And.intro ?r1o5 (And.intro ?r1o6 (And.intro ?r1o7 (And.intro ?r1o8 (And.intro ?r1o9 (And.intro ?r1o10 (And.intro ?r1o11 (And.intro ?r1o12 (And.intro ?r1o13 (And.intro ?r1o14 (And.intro ?r1o15 (And.intro ?r1o16 (And.intro ?r1o17 (And.intro ?r1o18 (And.intro ?r1o19 (And.intro ?r1o20 (And.intro ?r1o21 (And.intro ?r1o22 (And.intro ?r1o23 (And.intro ?r1o24 (And.intro ?r1o25 (And.intro ?r1o26 (And.intro ?r1o27 (And.intro ?r1o28 (True.intro)))))))))))))))))))))))))))))
    case r1o0 =>
      intro w1 hG
      refine turn_on (by rfl) ?_
      intro K hK
      go_simp
      refine hK _ _ ⟨rfl, Kept.refl _, ?_⟩
      show _ = _
      simp only [List.getD_cons_zero, List.getD_cons_succ, Array.getD_eq_getD_getElem?, List.getElem?_toArray, List.getElem?_cons_zero, List.getElem?_cons_succ, Option.getD_some]
      rfl
    case r1o1 =>
      intro w1 hG
      intro v0 h0
      change _ = _ at h0
      subst h0
      refine turn_on (by rfl) ?_
      intro K hK
      simp only [List.getD_cons_zero, List.getD_cons_succ, List.setIfInBounds_toArray, List.set_cons_zero, List.set_cons_succ]
      go_simp
      refine hK _ _ ⟨rfl, Kept.refl _, ?_⟩
      show _ = _
      simp only [List.getD_cons_zero, List.getD_cons_succ, Array.getD_eq_getD_getElem?, List.getElem?_toArray, List.getElem?_cons_zero, List.getElem?_cons_succ, Option.getD_some]
      rfl
    case r1o2 =>
      intro w1 hG
      intro v1 h1
      change _ = _ at h1
      subst h1
      refine turn_on (by rfl) ?_
      intro K hK
      simp only [List.getD_cons_zero, List.getD_cons_succ, List.setIfInBounds_toArray, List.set_cons_zero, List.set_cons_succ]
      go_simp
      refine hK _ _ ⟨rfl, Kept.refl _, ?_⟩
      show _ = _
      simp only [List.getD_cons_zero, List.getD_cons_succ, Array.getD_eq_getD_getElem?, List.getElem?_toArray, List.getElem?_cons_zero, List.getElem?_cons_succ, Option.getD_some]
      rfl
    case r1o3 =>
      intro w1 hG
      refine turn_on (by rfl) ?_
      intro K hK
      go_simp
      refine hK _ _ ⟨rfl, Kept.refl _, ?_⟩
      show _ = _
      simp only [List.getD_cons_zero, List.getD_cons_succ, Array.getD_eq_getD_getElem?, List.getElem?_toArray, List.getElem?_cons_zero, List.getElem?_cons_succ, Option.getD_some]
      rfl
    case r1o4 =>
      intro w1 hG
      intro v3 h3
      change _ = _ at h3
      subst h3
      refine turn_on (by rfl) ?_
      intro K hK
      simp only [List.getD_cons_zero, List.getD_cons_succ, List.setIfInBounds_toArray, List.set_cons_zero, List.set_cons_succ]
      go_simp
      refine hK _ _ ⟨rfl, Kept.refl _, ?_⟩
      show _ = _
      simp only [List.getD_cons_zero, List.getD_cons_succ, Array.getD_eq_getD_getElem?, List.getElem?_toArray, List.getElem?_cons_zero, List.getElem?_cons_succ, Option.getD_some]
      rfl
    case r1o5 =>
      intro w1 hG
      intro v4 h4
      change _ = _ at h4
      subst h4
      refine turn_on (by rfl) ?_
      intro K hK
      simp only [List.getD_cons_zero, List.getD_cons_succ, List.setIfInBounds_toArray, List.set_cons_zero, List.set_cons_succ]
      go_simp
      refine hK _ _ ⟨rfl, Kept.refl _, ?_⟩
      show _ = _
      simp only [List.getD_cons_zero, List.getD_cons_succ, Array.getD_eq_getD_getElem?, List.getElem?_toArray, List.getElem?_cons_zero, List.getElem?_cons_succ, Option.getD_some]
      rfl
    case r1o6 =>
      intro w1 hG
      refine turn_on (by rfl) ?_
      intro K hK
      go_simp
      refine hK _ _ ⟨rfl, Kept.refl _, ?_⟩
      show _ = _
      simp only [List.getD_cons_zero, List.getD_cons_succ, Array.getD_eq_getD_getElem?, List.getElem?_toArray, List.getElem?_cons_zero, List.getElem?_cons_succ, Option.getD_some]
      rfl
    case r1o7 =>
      intro w1 hG
      intro v6 h6
      change _ = _ at h6
      subst h6
      refine turn_on (by rfl) ?_
      intro K hK
      simp only [List.getD_cons_zero, List.getD_cons_succ, List.setIfInBounds_toArray, List.set_cons_zero, List.set_cons_succ]
      go_simp
      refine hK _ _ ⟨rfl, Kept.refl _, ?_⟩
      show _ = _
      simp only [List.getD_cons_zero, List.getD_cons_succ, Array.getD_eq_getD_getElem?, List.getElem?_toArray, List.getElem?_cons_zero, List.getElem?_cons_succ, Option.getD_some]
      rfl
    case r1o8 =>
      intro w1 hG
      intro v7 h7
      change _ = _ at h7
      subst h7
      refine turn_on (by rfl) ?_
      intro K hK
      simp only [List.getD_cons_zero, List.getD_cons_succ, List.setIfInBounds_toArray, List.set_cons_zero, List.set_cons_succ]
      go_simp
      refine hK _ _ ⟨rfl, Kept.refl _, ?_⟩
      show _ = _
      simp only [List.getD_cons_zero, List.getD_cons_succ, Array.getD_eq_getD_getElem?, List.getElem?_toArray, List.getElem?_cons_zero, List.getElem?_cons_succ, Option.getD_some]
      rfl
    case r1o9 =>
      intro w1 hG
      refine turn_on (by rfl) ?_
      intro K hK
      go_simp
      refine hK _ _ ⟨rfl, Kept.refl _, ?_⟩
      show _ = _
      simp only [List.getD_cons_zero, List.getD_cons_succ, Array.getD_eq_getD_getElem?, List.getElem?_toArray, List.getElem?_cons_zero, List.getElem?_cons_succ, Option.getD_some]
      rfl
    case r1o10 =>
      intro w1 hG
      intro v9 h9
      change _ = _ at h9
      subst h9
      refine turn_on (by rfl) ?_
      intro K hK
      simp only [List.getD_cons_zero, List.getD_cons_succ, List.setIfInBounds_toArray, List.set_cons_zero, List.set_cons_succ]
      go_simp
      refine hK _ _ ⟨rfl, Kept.refl _, ?_⟩
      show _ = _
      simp only [List.getD_cons_zero, List.getD_cons_succ, Array.getD_eq_getD_getElem?, List.getElem?_toArray, List.getElem?_cons_zero, List.getElem?_cons_succ, Option.getD_some]
      rfl
    case r1o11 =>
      intro w1 hG
      intro v10 h10
      change _ = _ at h10
      subst h10
      refine turn_on (by rfl) ?_
      intro K hK
      simp only [List.getD_cons_zero, List.getD_cons_succ, List.setIfInBounds_toArray, List.set_cons_zero, List.set_cons_succ]
      go_simp
      refine hK _ _ ⟨rfl, Kept.refl _, ?_⟩
      show _ = _
      simp only [List.getD_cons_zero, List.getD_cons_succ, Array.getD_eq_getD_getElem?, List.getElem?_toArray, List.getElem?_cons_zero, List.getElem?_cons_succ, Option.getD_some]
      rfl
    case r1o12 =>
      intro w1 hG
      refine turn_on (by rfl) ?_
      intro K hK
      go_simp
      refine hK _ _ ⟨rfl, Kept.refl _, ?_⟩
      show _ = _
      simp only [List.getD_cons_zero, List.getD_cons_succ, Array.getD_eq_getD_getElem?, List.getElem?_toArray, List.getElem?_cons_zero, List.getElem?_cons_succ, Option.getD_some]
      rfl
    case r1o13 =>
      intro w1 hG
      intro v12 h12
      change _ = _ at h12
      subst h12
      refine turn_on (by rfl) ?_
      intro K hK
      simp only [List.getD_cons_zero, List.getD_cons_succ, List.setIfInBounds_toArray, List.set_cons_zero, List.set_cons_succ]
      go_simp
      refine hK _ _ ⟨rfl, Kept.refl _, ?_⟩
      show _ = _
      simp only [List.getD_cons_zero, List.getD_cons_succ, Array.getD_eq_getD_getElem?, List.getElem?_toArray, List.getElem?_cons_zero, List.getElem?_cons_succ, Option.getD_some]
      rfl
    case r1o14 =>
      intro w1 hG
      intro v13 h13
      change _ = _ at h13
      subst h13
      refine turn_on (by rfl) ?_
      intro K hK
      simp only [List.getD_cons_zero, List.getD_cons_succ, List.setIfInBounds_toArray, List.set_cons_zero, List.set_cons_succ]
      go_simp
      refine hK _ _ ⟨rfl, Kept.refl _, ?_⟩
      show _ = _
      simp only [List.getD_cons_zero, List.getD_cons_succ, Array.getD_eq_getD_getElem?, List.getElem?_toArray, List.getElem?_cons_zero, List.getElem?_cons_succ, Option.getD_some]
      rfl
    case r1o15 =>
      intro w1 hG
      refine turn_on (by rfl) ?_
      intro K hK
      go_simp
      refine hK _ _ ⟨rfl, Kept.refl _, ?_⟩
      show _ = _
      simp only [List.getD_cons_zero, List.getD_cons_succ, Array.getD_eq_getD_getElem?, List.getElem?_toArray, List.getElem?_cons_zero, List.getElem?_cons_succ, Option.getD_some]
      rfl
    case r1o16 =>
      intro w1 hG
      intro v15 h15
      change _ = _ at h15
      subst h15
      refine turn_on (by rfl) ?_
      intro K hK
      simp only [List.getD_cons_zero, List.getD_cons_succ, List.setIfInBounds_toArray, List.set_cons_zero, List.set_cons_succ]
      go_simp
      refine hK _ _ ⟨rfl, Kept.refl _, ?_⟩
      show _ = _
      simp only [List.getD_cons_zero, List.getD_cons_succ, Array.getD_eq_getD_getElem?, List.getElem?_toArray, List.getElem?_cons_zero, List.getElem?_cons_succ, Option.getD_some]
      rfl
    case r1o17 =>
      intro w1 hG
      intro v16 h16
      change _ = _ at h16
      subst h16
      refine turn_on (by rfl) ?_
      intro K hK
      simp only [List.getD_cons_zero, List.getD_cons_succ, List.setIfInBounds_toArray, List.set_cons_zero, List.set_cons_succ]
      go_simp
      refine hK _ _ ⟨rfl, Kept.refl _, ?_⟩
      show _ = _
      simp only [List.getD_cons_zero, List.getD_cons_succ, Array.getD_eq_getD_getElem?, List.getElem?_toArray, List.getElem?_cons_zero, List.getElem?_cons_succ, Option.getD_some]
      rfl
    case r1o18 =>
      intro w1 hG
      refine turn_on (by rfl) ?_
      intro K hK
      go_simp
      refine hK _ _ ⟨rfl, Kept.refl _, ?_⟩
      show _ = _
      simp only [List.getD_cons_zero, List.getD_cons_succ, Array.getD_eq_getD_getElem?, List.getElem?_toArray, List.getElem?_cons_zero, List.getElem?_cons_succ, Option.getD_some]
      rfl
    case r1o19 =>
      intro w1 hG
      intro v18 h18
      change _ = _ at h18
      subst h18
      refine turn_on (by rfl) ?_
      intro K hK
      simp only [List.getD_cons_zero, List.getD_cons_succ, List.setIfInBounds_toArray, List.set_cons_zero, List.set_cons_succ]
      go_simp
      refine hK _ _ ⟨rfl, Kept.refl _, ?_⟩
      show _ = _
      simp only [List.getD_cons_zero, List.getD_cons_succ, Array.getD_eq_getD_getElem?, List.getElem?_toArray, List.getElem?_cons_zero, List.getElem?_cons_succ, Option.getD_some]
      rfl
    case r1o20 =>
      intro w1 hG
      intro v19 h19
      change _ = _ at h19
      subst h19
      refine turn_on (by rfl) ?_
      intro K hK
      simp only [List.getD_cons_zero, List.getD_cons_succ, List.setIfInBounds_toArray, List.set_cons_zero, List.set_cons_succ]
      go_simp
      refine hK _ _ ⟨rfl, Kept.refl _, ?_⟩
      show _ = _
      simp only [List.getD_cons_zero, List.getD_cons_succ, Array.getD_eq_getD_getElem?, List.getElem?_toArray, List.getElem?_cons_zero, List.getElem?_cons_succ, Option.getD_some]
      rfl
    case r1o21 =>
      intro w1 hG
      refine turn_on (by rfl) ?_
      intro K hK
      go_simp
      refine hK _ _ ⟨rfl, Kept.refl _, ?_⟩
      show _ = _
      simp only [List.getD_cons_zero, List.getD_cons_succ, Array.getD_eq_getD_getElem?, List.getElem?_toArray, List.getElem?_cons_zero, List.getElem?_cons_succ, Option.getD_some]
      rfl
    case r1o22 =>
      intro w1 hG
      intro v21 h21
      change _ = _ at h21
      subst h21
      refine turn_on (by rfl) ?_
      intro K hK
      simp only [List.getD_cons_zero, List.getD_cons_succ, List.setIfInBounds_toArray, List.set_cons_zero, List.set_cons_succ]
      go_simp
      refine hK _ _ ⟨rfl, Kept.refl _, ?_⟩
      show _ = _
      simp only [List.getD_cons_zero, List.getD_cons_succ, Array.getD_eq_getD_getElem?, List.getElem?_toArray, List.getElem?_cons_zero, List.getElem?_cons_succ, Option.getD_some]
      rfl
    case r1o23 =>
      intro w1 hG
      intro v22 h22
      change _ = _ at h22
      subst h22
      refine turn_on (by rfl) ?_
      intro K hK
      simp only [List.getD_cons_zero, List.getD_cons_succ, List.setIfInBounds_toArray, List.set_cons_zero, List.set_cons_succ]
      go_simp
      refine hK _ _ ⟨rfl, Kept.refl _, ?_⟩
      show _ = _
      simp only [List.getD_cons_zero, List.getD_cons_succ, Array.getD_eq_getD_getElem?, List.getElem?_toArray, List.getElem?_cons_zero, List.getElem?_cons_succ, Option.getD_some]
      rfl
    case r1o24 =>
      intro w1 hG
      refine turn_on (by rfl) ?_
      intro K hK
      go_simp
      refine hK _ _ ⟨rfl, Kept.refl _, ?_⟩
      show _ = _
      simp only [List.getD_cons_zero, List.getD_cons_succ, Array.getD_eq_getD_getElem?, List.getElem?_toArray, List.getElem?_cons_zero, List.getElem?_cons_succ, Option.getD_some]
      rfl
    case r1o25 =>
      intro w1 hG
      intro v24 h24
      change _ = _ at h24
      subst h24
      refine turn_on (by rfl) ?_
      intro K hK
      simp only [List.getD_cons_zero, List.getD_cons_succ, List.setIfInBounds_toArray, List.set_cons_zero, List.set_cons_succ]
      go_simp
      refine hK _ _ ⟨rfl, Kept.refl _, ?_⟩
      show _ = _
      simp only [List.getD_cons_zero, List.getD_cons_succ, Array.getD_eq_getD_getElem?, List.getElem?_toArray, List.getElem?_cons_zero, List.getElem?_cons_succ, Option.getD_some]
      rfl
    case r1o26 =>
      intro w1 hG
      intro v25 h25
      change _ = _ at h25
      subst h25
      refine turn_on (by rfl) ?_
      intro K hK
      simp only [List.getD_cons_zero, List.getD_cons_succ, List.setIfInBounds_toArray, List.set_cons_zero, List.set_cons_succ]
      go_simp
      refine hK _ _ ⟨rfl, Kept.refl _, ?_⟩
      show _ = _
      simp only [List.getD_cons_zero, List.getD_cons_succ, Array.getD_eq_getD_getElem?, List.getElem?_toArray, List.getElem?_cons_zero, List.getElem?_cons_succ, Option.getD_some]
      rfl
    case r1o27 =>
      intro w1 hG
      intro v2 h2
      change _ = _ at h2
      subst h2
      intro v5 h5
      change _ = _ at h5
      subst h5
      intro v8 h8
      change _ = _ at h8
      subst h8
      intro v11 h11
      change _ = _ at h11
      subst h11
      intro v14 h14
      change _ = _ at h14
      subst h14
      intro v17 h17
      change _ = _ at h17
      subst h17
      intro v20 h20
      change _ = _ at h20
      subst h20
      intro v23 h23
      change _ = _ at h23
      subst h23
      intro v26 h26
      change _ = _ at h26
      subst h26
      refine turn_on (by rfl) ?_
      intro K hK
      simp only [List.getD_cons_zero, List.getD_cons_succ, List.setIfInBounds_toArray, List.set_cons_zero, List.set_cons_succ]
      go_simp
      refine hK _ _ ⟨rfl, (Below.refl _ _).alloc (Nat.le_refl _) _, ?_⟩
      show ∃ P, _ = _ ∧ _
      simp only [List.getD_cons_zero, List.getD_cons_succ, Array.getD_eq_getD_getElem?, List.getElem?_toArray, List.getElem?_cons_zero, List.getElem?_cons_succ, Option.getD_some]
      exact ⟨_, rfl, heap_alloc_new _ _, hG.size⟩
    case r1o28 =>
      intro w1 hG
      intro v27 h27
      obtain ⟨P27, rfl, hP27, hL27⟩ := h27
      refine turn_on (by rfl) ?_
      intro K hK
      simp only [List.getD_cons_zero, List.getD_cons_succ, List.setIfInBounds_toArray, List.set_cons_zero, List.set_cons_succ]
      go_simp
      refine hK _ _ ⟨rfl, Kept.refl _, ?_⟩
      show ∃ P, _ = _ ∧ _
      simp only [List.getD_cons_zero, List.getD_cons_succ, Array.getD_eq_getD_getElem?, List.getElem?_toArray, List.getElem?_cons_zero, List.getElem?_cons_succ, Option.getD_some]
      exact ⟨_, rfl, hP27, hL27⟩
  intro w1 hG
  intro v0 h0
  change _ = _ at h0
  subst h0
  intro v1 h1
  change _ = _ at h1
  subst h1
  intro v2 h2
  change _ = _ at h2
  subst h2
  intro v3 h3
  change _ = _ at h3
  subst h3
  intro v4 h4
  change _ = _ at h4
  subst h4
  intro v5 h5
  change _ = _ at h5
  subst h5
  intro v6 h6
  change _ = _ at h6
  subst h6
  intro v7 h7
  change _ = _ at h7
  subst h7
  intro v8 h8
  change _ = _ at h8
  subst h8
  intro v9 h9
  change _ = _ at h9
  subst h9
  intro v10 h10
  change _ = _ at h10
  subst h10
  intro v11 h11
  change _ = _ at h11
  subst h11
  intro v12 h12
  change _ = _ at h12
  subst h12
  intro v13 h13
  change _ = _ at h13
  subst h13
  intro v14 h14
  change _ = _ at h14
  subst h14
  intro v15 h15
  change _ = _ at h15
  subst h15
  intro v16 h16
  change _ = _ at h16
  subst h16
  intro v17 h17
  change _ = _ at h17
  subst h17
  intro v18 h18
  change _ = _ at h18
  subst h18
  intro v19 h19
  change _ = _ at h19
  subst h19
  intro v20 h20
  change _ = _ at h20
  subst h20
  intro v21 h21
  change _ = _ at h21
  subst h21
  intro v22 h22
  change _ = _ at h22
  subst h22
  intro v23 h23
  change _ = _ at h23
  subst h23
  intro v24 h24
  change _ = _ at h24
  subst h24
  intro v25 h25
  change _ = _ at h25
  subst h25
  intro v26 h26
  change _ = _ at h26
  subst h26
  intro v27 h27
  obtain ⟨P27, rfl, hP27, hL27⟩ := h27
  intro v28 h28
  obtain ⟨P28, rfl, hP28, hL28⟩ := h28
  simp only [Given, List.getD_cons_zero, List.getD_cons_succ, List.setIfInBounds_toArray, List.set_cons_zero, List.set_cons_succ]
  have hb := (Below.refl w.heap.size w).drew.trans (Below.mono hG (Nat.le_refl _))
  go_wp2
  go_ret
  exact ⟨_, rfl, hP28, hL28, hb⟩
set_option linter.unusedSimpArgs false in
set_option linter.unusedVariables false in
set_option maxRecDepth 100000 in
set_option maxHeartbeats 2000000 in
theorem genc_any (a0 a1 a2 a3 a4 a5 a6 a7 a8 : Int) (w : World) (h0 : (Lit.int .i64 a0).wf = true) (h1 : (Lit.int .i64 a1).wf = true) (h2 : (Lit.int .i64 a2).wf = true) (h3 : (Lit.int .i64 a3).wf = true) (h4 : (Lit.int .i64 a4).wf = true) (h5 : (Lit.int .i64 a5).wf = true) (h6 : (Lit.int .i64 a6).wf = true) (h7 : (Lit.int .i64 a7).wf = true) (h8 : (Lit.int .i64 a8).wf = true) :
    Calls Try.prog 22 #[.agg #[.int .i64 a0, .int .i64 a1, .int .i64 a2, .int .i64 a3, .int .i64 a4, .int .i64 a5, .int .i64 a6, .int .i64 a7, .int .i64 a8]] w (GivesBytes (encL [a0, a1, a2, a3, a4, a5, a6, a7, a8]) w) := by
  go_enter Try.func22, Try.ntmps22
  go_wp2_with fail
  have hC0 : (w.alloc (.cells #[.int .i64 a0, .int .i64 a1, .int .i64 a2, .int .i64 a3, .int .i64 a4, .int .i64 a5, .int .i64 a6, .int .i64 a7, .int .i64 a8] 23)).heap[w.heap.size]? = some (.cells #[.int .i64 a0, .int .i64 a1, .int .i64 a2, .int .i64 a3, .int .i64 a4, .int .i64 a5, .int .i64 a6, .int .i64 a7, .int .i64 a8] 23 (0, 0)) := heap_alloc_new _ _
  have hb0 : Below w.heap.size w (w.alloc (.cells #[.int .i64 a0, .int .i64 a1, .int .i64 a2, .int .i64 a3, .int .i64 a4, .int .i64 a5, .int .i64 a6, .int .i64 a7, .int .i64 a8] 23)) := (Below.refl _ _).alloc (Nat.le_refl _) _
  have hs0 : (w.alloc (.cells #[.int .i64 a0, .int .i64 a1, .int .i64 a2, .int .i64 a3, .int .i64 a4, .int .i64 a5, .int .i64 a6, .int .i64 a7, .int .i64 a8] 23)).heap.size = w.heap.size + 1 := by simp
  generalize w.alloc (.cells #[.int .i64 a0, .int .i64 a1, .int .i64 a2, .int .i64 a3, .int .i64 a4, .int .i64 a5, .int .i64 a6, .int .i64 a7, .int .i64 a8] 23) = w1 at *
  refine (newwriter_any w1).mono ?_
  rintro e w2 ⟨rfl, ho2, hb2⟩
  have HO2 := Lib.hid ho2
  have HC2 := Lib.hid (row_keep hC0 hb2)
  have HB2 := Lib.hid (hb0.trans (hb2.mono hb0.size))
  have hlt2 := ho2.lt
  have HS0 := Lib.hid hs0
  clear hC0 hb0 hb2 ho2 hs0
  go_wp2_with fail
  refine (numbers_any w.heap.size w2).mono ?_
  rintro e w3 ⟨P, rfl, hP, hPl, hb3⟩
  have HO3 := Lib.hid (HO2.out.below hb3)
  have HC3 := Lib.hid (row_keep HC2.out hb3)
  have HB3 := Lib.hid (HB2.out.trans (hb3.mono HB2.out.size))
  have HP3 := Lib.hid hP
  have hs0 := HS0.out
  have hh : w1.heap.size < P := by omega
  have HH : Hid (w.heap.size < w1.heap.size) := by show _ < _; omega
  clear hP hb3 HO2 HC2 HB2 hs0
  obtain ⟨h, hh0⟩ : ∃ h, w1.heap.size = h := ⟨_, rfl⟩
  rw [hh0] at HO3 HH hh ⊢
  clear hh0 HS0
  go_wp2_with fail
  go_loopw [9] (fun i wr => ∃ (k : Nat) (v : Value), k ≤ 9 ∧ i = .int .i64 k ∧ VarAt .u8 70 5 wr h v (encL ([a0, a1, a2, a3, a4, a5, a6, a7, a8].take k)) ∧ (∀ g, room v = some g → P < g) ∧ Below w.heap.size w wr ∧ wr.heap[w.heap.size]? = some (.cells #[.int .i64 a0, .int .i64 a1, .int .i64 a2, .int .i64 a3, .int .i64 a4, .int .i64 a5, .int .i64 a6, .int .i64 a7, .int .i64 a8] 23 (0, 0)) ∧ wr.heap[P]? = some (.cells #[.pointer (some ⟨w.heap.size, 0, none⟩), .pointer (some ⟨w.heap.size, 1, none⟩), .pointer (some ⟨w.heap.size, 2, none⟩), .pointer (some ⟨w.heap.size, 3, none⟩), .pointer (some ⟨w.heap.size, 4, none⟩), .pointer (some ⟨w.heap.size, 5, none⟩), .pointer (some ⟨w.heap.size, 6, none⟩), .pointer (some ⟨w.heap.size, 7, none⟩), .pointer (some ⟨w.heap.size, 8, none⟩)] 53 (0, 0))) (fun i _ => 9 - (intOf i).toNat)
  case atStart => exact ⟨0, _, by omega, rfl, HO3.out, (fun g hg => by cases hg), HB3.out, HC3.out, HP3.out⟩
  case round =>
    clear HO3 HB3 HC3 HP3
    obtain ⟨k, v, hk, rfl, ho, hrm, hb, hC, hP⟩ := hrel
    have hlen := encL_len ([a0, a1, a2, a3, a4, a5, a6, a7, a8].take k)
    have hlen2 : (encL ([a0, a1, a2, a3, a4, a5, a6, a7, a8].take k)).length ≤ 100 := by rw [List.length_take] at hlen; simp at hlen; omega
    have HO := Lib.hid ho
    have HR := Lib.hid hrm
    have HB := Lib.hid hb
    have HC := Lib.hid hC
    have HP := Lib.hid hP
    have hl1 := ho.lt
    have HL2 := Lib.hid hlen2
    clear ho hrm hb hlen hlen2
    by_cases hp : k < 9
    · have c1 := nine_ptr hP hp
      have c2 := nine_int hC hp
      have hw := nine_wf h0 h1 h2 h3 h4 h5 h6 h7 h8 hp
      have hst := take_step (l := [a0, a1, a2, a3, a4, a5, a6, a7, a8]) (k := k) (by simpa using hp)
      obtain ⟨x, hx⟩ : ∃ x, nth [a0, a1, a2, a3, a4, a5, a6, a7, a8] k = x := ⟨_, rfl⟩
      rw [hx] at c2 hw hst
      have hx2 := wf_i64_bd hw
      have HST := Lib.hid hst
      clear hP hC hx hw hst
      go_wp2_with fail
      refine (wint_any h v _ x _ HO.out (by have := HL2.out; omega) hx2.1 hx2.2).mono ?_
      rintro e w4 ⟨rfl, ⟨v4, ho4, hn4⟩, hsp⟩
      have hB4 : Below w.heap.size w w4 := HB.out.trans ((hsp.below (by omega) (fun q hq => by have := HR.out q hq; have := HH.out; omega)).mono (by have := HH.out; omega))
      have hC4 : w4.heap[w.heap.size]? = some (.cells #[.int .i64 a0, .int .i64 a1, .int .i64 a2, .int .i64 a3, .int .i64 a4, .int .i64 a5, .int .i64 a6, .int .i64 a7, .int .i64 a8] 23 (0, 0)) := by
        rw [hsp.block _ (Array.getElem?_eq_some_iff.1 HC.out).1 (by have := HH.out; omega) (fun e => by have := HR.out _ e.symm; have := HH.out; omega)]; exact HC.out
      have hPlt := (Array.getElem?_eq_some_iff.1 HP.out).1
      have hP4 : w4.heap[P]? = some (.cells #[.pointer (some ⟨w.heap.size, 0, none⟩), .pointer (some ⟨w.heap.size, 1, none⟩), .pointer (some ⟨w.heap.size, 2, none⟩), .pointer (some ⟨w.heap.size, 3, none⟩), .pointer (some ⟨w.heap.size, 4, none⟩), .pointer (some ⟨w.heap.size, 5, none⟩), .pointer (some ⟨w.heap.size, 6, none⟩), .pointer (some ⟨w.heap.size, 7, none⟩), .pointer (some ⟨w.heap.size, 8, none⟩)] 53 (0, 0)) := by
        rw [hsp.block _ hPlt (by omega) (fun e => by have := HR.out _ e.symm; omega)]; exact HP.out
      have hR4 : ∀ g, room v4 = some g → P < g := by
        intro g hg
        rcases hn4 with h | h
        · exact HR.out g (by rw [← h]; exact hg)
        · have := h g hg; omega
      have HO4 := Lib.hid ho4
      have HB4 := Lib.hid hB4
      have HC4 := Lib.hid hC4
      have HP4 := Lib.hid hP4
      have HR4 := Lib.hid hR4
      clear ho4 hB4 hC4 hP4 hR4 hn4 hsp c1 c2
      go_wp2_with fail
      go_roundw
      case rel => exact ⟨k + 1, v4, by omega, by go_num, by rw [HST.out, encL_snoc]; exact HO4.out, HR4.out, HB4.out, HC4.out, HP4.out⟩
      case measure => simp [intOf] <;> omega
    · obtain rfl : k = 9 := by omega
      clear hP hC
      go_wp2_with fail
      refine (wdone_any h v _ _ HO.out (by have := HL2.out; omega)).mono ?_
      rintro e w5 ⟨v5, rfl, ho5, hb5⟩
      go_wp2_with fail
      go_ret
      exact ⟨v5, rfl, ho5.mono HB.out.size, HB.out.trans (hb5.mono HB.out.size)⟩
set_option linter.unusedSimpArgs false in
set_option linter.unusedVariables false in
set_option maxRecDepth 100000 in
set_option maxHeartbeats 2000000 in
theorem rcint_any (x0 : Value) (l : List Int) (v : Int) (w : World) (base : Nat) (h : Owns .u8 5 w base x0 l) (hbase : base ≤ w.heap.size) (hn : l.length ≤ 1000000000) (v1 : -9223372036854775808 ≤ v) (v2 : v ≤ 9223372036854775807) :
    Calls Try.prog 42 #[x0, .int .i64 v] w fun e w' => ∃ r, e = .returned r ∧ Owns .u8 5 w' base r (l ++ varF 9 (zigI v)) ∧ Grows w x0 w' r := by
  have hz := zigI_bd v v1 v2
  obtain ⟨q, hq⟩ : ∃ q, l.length = q := ⟨_, rfl⟩
  obtain ⟨a, c, rfl⟩ := h.shapeN q hq
  have H := Lib.hid h
  have HQ := Lib.hid hq
  clear h hq
  go_enter Try.func42, Try.ntmps42
  go_wp2_with (go_at_call 53; refine (rzig_any v _ v1 v2).mono ?_; rintro e w1 ⟨rfl, rfl⟩)
  refine (rvar_any _ l (zigI v) _ base H.out hbase hn hz.1 hz.2).mono ?_
  rintro e w1 ⟨r, rfl, ho, hg⟩
  obtain ⟨q1, hq1⟩ : ∃ q1, (l ++ varF 9 (zigI v)).length = q1 := ⟨_, rfl⟩
  obtain ⟨a1, c1, rfl⟩ := ho.shapeN q1 hq1
  have HO := Lib.hid ho
  have HG := Lib.hid hg
  clear ho hg hq1
  go_wp2_with fail
  go_ret
  exact ⟨_, rfl, HO.out, HG.out⟩
set_option linter.unusedSimpArgs false in
set_option linter.unusedVariables false in
set_option maxRecDepth 100000 in
set_option maxHeartbeats 2000000 in
theorem rnumbers_any (a0 a1 a2 a3 a4 a5 a6 a7 a8 : Int) (w : World) :
    Calls Try.prog 41 #[.agg #[.int .i64 a0, .int .i64 a1, .int .i64 a2, .int .i64 a3, .int .i64 a4, .int .i64 a5, .int .i64 a6, .int .i64 a7, .int .i64 a8]] w fun e w' => ∃ P, e = .returned (.slice (some ⟨P, 0, none⟩) 9 9) ∧ w'.heap[P]? = some (.cells #[.int .i64 a0, .int .i64 a1, .int .i64 a2, .int .i64 a3, .int .i64 a4, .int .i64 a5, .int .i64 a6, .int .i64 a7, .int .i64 a8] 3 (0, 0)) ∧ w.heap.size ≤ P ∧ Below w.heap.size w w' := by
  go_enter Try.func41, Try.ntmps41
  go_wp2_with fail
  go_ret
  refine ⟨_, rfl, ?_, by simp, ((Below.refl _ _).alloc (Nat.le_refl _) _).alloc (by simp) _⟩
  have := heap_alloc_new (w.alloc (.cells #[.int .i64 a0, .int .i64 a1, .int .i64 a2, .int .i64 a3, .int .i64 a4, .int .i64 a5, .int .i64 a6, .int .i64 a7, .int .i64 a8] 23)) (.cells #[.int .i64 a0, .int .i64 a1, .int .i64 a2, .int .i64 a3, .int .i64 a4, .int .i64 a5, .int .i64 a6, .int .i64 a7, .int .i64 a8] 3)
  simpa using this
set_option linter.unusedSimpArgs false in
set_option linter.unusedVariables false in
set_option maxRecDepth 100000 in
set_option maxHeartbeats 2000000 in
theorem renc_any (a0 a1 a2 a3 a4 a5 a6 a7 a8 : Int) (w : World) (h0 : (Lit.int .i64 a0).wf = true) (h1 : (Lit.int .i64 a1).wf = true) (h2 : (Lit.int .i64 a2).wf = true) (h3 : (Lit.int .i64 a3).wf = true) (h4 : (Lit.int .i64 a4).wf = true) (h5 : (Lit.int .i64 a5).wf = true) (h6 : (Lit.int .i64 a6).wf = true) (h7 : (Lit.int .i64 a7).wf = true) (h8 : (Lit.int .i64 a8).wf = true) :
    Calls Try.prog 25 #[.agg #[.int .i64 a0, .int .i64 a1, .int .i64 a2, .int .i64 a3, .int .i64 a4, .int .i64 a5, .int .i64 a6, .int .i64 a7, .int .i64 a8]] w (GivesBytes (encL [a0, a1, a2, a3, a4, a5, a6, a7, a8]) w) := by
  go_enter Try.func25, Try.ntmps25
  go_wp2_with fail
  have hb0 : Below w.heap.size w (w.alloc (.cells #[.int .i64 a0, .int .i64 a1, .int .i64 a2, .int .i64 a3, .int .i64 a4, .int .i64 a5, .int .i64 a6, .int .i64 a7, .int .i64 a8] 23)) := (Below.refl _ _).alloc (Nat.le_refl _) _
  generalize w.alloc (.cells #[.int .i64 a0, .int .i64 a1, .int .i64 a2, .int .i64 a3, .int .i64 a4, .int .i64 a5, .int .i64 a6, .int .i64 a7, .int .i64 a8] 23) = w1 at *
  refine (rnumbers_any a0 a1 a2 a3 a4 a5 a6 a7 a8 w1).mono ?_
  rintro e w2 ⟨P, rfl, hP, hPl, hb2⟩
  have HB2 := Lib.hid (hb0.trans (hb2.mono hb0.size))
  have HP2 := Lib.hid hP
  have hPw : w.heap.size ≤ P := Nat.le_trans hb0.size hPl
  clear hb0 hb2 hP hPl
  go_wp2_with fail
  go_loopw [3, 5] (fun x i wr => ∃ k : Nat, k ≤ 9 ∧ i = .int .i64 k ∧ Owns .u8 5 wr (P + 1) x (encL ([a0, a1, a2, a3, a4, a5, a6, a7, a8].take k)) ∧ Below w.heap.size w wr ∧ wr.heap[P]? = some (.cells #[.int .i64 a0, .int .i64 a1, .int .i64 a2, .int .i64 a3, .int .i64 a4, .int .i64 a5, .int .i64 a6, .int .i64 a7, .int .i64 a8] 3 (0, 0))) (fun _ i _ => 9 - (intOf i).toNat)
  case atStart => exact ⟨0, by omega, rfl, Owns.nil _ _ _ _, HB2.out, HP2.out⟩
  case round =>
    clear HB2 HP2
    obtain ⟨k, hk, rfl, ho, hb, hP⟩ := hrel
    have hlen := encL_len ([a0, a1, a2, a3, a4, a5, a6, a7, a8].take k)
    have hlen2 : (encL ([a0, a1, a2, a3, a4, a5, a6, a7, a8].take k)).length ≤ 100 := by rw [List.length_take] at hlen; simp at hlen; omega
    obtain ⟨q, hq⟩ : ∃ q, (encL ([a0, a1, a2, a3, a4, a5, a6, a7, a8].take k)).length = q := ⟨_, rfl⟩
    obtain ⟨av, cv, rfl⟩ := ho.shapeN q hq
    have HO := Lib.hid ho
    have HB := Lib.hid hb
    have HP := Lib.hid hP
    have HL2 := Lib.hid hlen2
    have hPlt := (Array.getElem?_eq_some_iff.1 hP).1
    clear ho hb hlen hlen2 hq
    by_cases hp : k < 9
    · have c2 := nine_int hP hp
      have hw := nine_wf h0 h1 h2 h3 h4 h5 h6 h7 h8 hp
      have hst := take_step (l := [a0, a1, a2, a3, a4, a5, a6, a7, a8]) (k := k) (by simpa using hp)
      obtain ⟨x, hx⟩ : ∃ x, nth [a0, a1, a2, a3, a4, a5, a6, a7, a8] k = x := ⟨_, rfl⟩
      rw [hx] at c2 hw hst
      have hx2 := wf_i64_bd hw
      have HST := Lib.hid hst
      clear hP hx hw hst
      go_wp2_with fail
      refine (rcint_any _ _ x _ (P + 1) HO.out (by omega) (by have := HL2.out; omega) hx2.1 hx2.2).mono ?_
      rintro e w4 ⟨r4, rfl, ho4, hg4⟩
      have hB4 : Below w.heap.size w w4 := HB.out.grown hg4.1 HB.out.size (fun g hg => by have := (HO.out.at_base g hg).1; omega)
      have hP4 : w4.heap[P]? = some (.cells #[.int .i64 a0, .int .i64 a1, .int .i64 a2, .int .i64 a3, .int .i64 a4, .int .i64 a5, .int .i64 a6, .int .i64 a7, .int .i64 a8] 3 (0, 0)) := by
        rw [hg4.1.block P hPlt (fun e => by have := (HO.out.at_base P e.symm).1; omega)]; exact HP.out
      obtain ⟨q4, hq4⟩ : ∃ q4, (encL ([a0, a1, a2, a3, a4, a5, a6, a7, a8].take k) ++ varF 9 (zigI x)).length = q4 := ⟨_, rfl⟩
      obtain ⟨a4, c4, rfl⟩ := ho4.shapeN q4 hq4
      have HO4 := Lib.hid ho4
      have HB4 := Lib.hid hB4
      have HP4 := Lib.hid hP4
      clear ho4 hB4 hP4 hg4 hq4 c2
      go_wp2_with fail
      go_roundw
      case rel => exact ⟨k + 1, by omega, by go_num, by rw [HST.out, encL_snoc]; exact HO4.out, HB4.out, HP4.out⟩
      case measure => simp [intOf] <;> omega
    · obtain rfl : k = 9 := by omega
      clear hP
      go_wp2_with fail
      go_ret
      exact ⟨_, rfl, HO.out.mono (by omega), HB.out⟩
end Go.Proofs.Ythpmjapohkdamaa
