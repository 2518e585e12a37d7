/- Joined: geom's Encode, and the reference's: contracts. geom's Decode, and the reference's: contracts. -/
import Derived.Test.YtcbnebcooiagmaaJy4
import Derived.Test.YtcbnebcooiagmaaJy5
import Derived.Test.YtcbnebcooiagmaaJy6
import Derived.Test.YtcbnebcooiagmaaJy3
import Derived.Test.YtcbnebcooiagmaaJy2
namespace Go.Proofs.Ytcbnebcooiagmaa
open Go.RowKit
/-- Numbers as bytes, one behind the other. -/
def encL : List Int → List Int
  | [] => []
  | x :: r => varF 9 (zigI x) ++ encL r
theorem encL_snoc : ∀ (l : List Int) (x : Int), encL (l ++ [x]) = encL l ++ varF 9 (zigI x)
  | [], x => by simp [encL]
  | y :: r, x => by rw [List.cons_append, encL, encL, encL_snoc r x, List.append_assoc]
theorem encL_len : ∀ l : List Int, (encL l).length ≤ 10 * l.length
  | [] => by simp [encL]
  | x :: r => by
    have h1 := (varF_len 9 (zigI x)).2
    have h2 := encL_len r
    rw [encL, List.length_append, List.length_cons]
    omega
theorem take_step {l : List Int} {k : Nat} (h : k < l.length) : l.take (k + 1) = l.take k ++ [nth l k] := by
  rw [List.take_succ_eq_append_getElem h, nth_eq h]
theorem nine_ptr {w : World} {P C k : Nat} (h : w.heap[P]? = some (.cells #[.pointer (some ⟨C, 0, none⟩), .pointer (some ⟨C, 1, none⟩), .pointer (some ⟨C, 2, none⟩), .pointer (some ⟨C, 3, none⟩), .pointer (some ⟨C, 4, none⟩), .pointer (some ⟨C, 5, none⟩), .pointer (some ⟨C, 6, none⟩), .pointer (some ⟨C, 7, none⟩), .pointer (some ⟨C, 8, none⟩)] 125 (0, 0))) (hk : k < 9) : w.cell? ⟨P, k, none⟩ = some (.pointer (some ⟨C, k, none⟩)) := by
  rw [cell_of_row w _ _ _ _ _ h]
  have : k = 0 ∨ k = 1 ∨ k = 2 ∨ k = 3 ∨ k = 4 ∨ k = 5 ∨ k = 6 ∨ k = 7 ∨ k = 8 := by omega
  rcases this with rfl | rfl | rfl | rfl | rfl | rfl | rfl | rfl | rfl <;> rfl
theorem nine_int {w : World} {C k T : Nat} {a0 a1 a2 a3 a4 a5 a6 a7 a8 : Int} (h : w.heap[C]? = some (.cells #[.int .i64 a0, .int .i64 a1, .int .i64 a2, .int .i64 a3, .int .i64 a4, .int .i64 a5, .int .i64 a6, .int .i64 a7, .int .i64 a8] T (0, 0))) (hk : k < 9) : w.cell? ⟨C, k, none⟩ = some (.int .i64 (nth [a0, a1, a2, a3, a4, a5, a6, a7, a8] k)) := by
  rw [cell_of_row w _ _ _ _ _ h]
  have : k = 0 ∨ k = 1 ∨ k = 2 ∨ k = 3 ∨ k = 4 ∨ k = 5 ∨ k = 6 ∨ k = 7 ∨ k = 8 := by omega
  rcases this with rfl | rfl | rfl | rfl | rfl | rfl | rfl | rfl | rfl <;> rfl
theorem nine_wf {a0 a1 a2 a3 a4 a5 a6 a7 a8 : Int} (h0 : (Lit.int .i64 a0).wf = true) (h1 : (Lit.int .i64 a1).wf = true) (h2 : (Lit.int .i64 a2).wf = true) (h3 : (Lit.int .i64 a3).wf = true) (h4 : (Lit.int .i64 a4).wf = true) (h5 : (Lit.int .i64 a5).wf = true) (h6 : (Lit.int .i64 a6).wf = true) (h7 : (Lit.int .i64 a7).wf = true) (h8 : (Lit.int .i64 a8).wf = true) {k : Nat} (hk : k < 9) : (Lit.int .i64 (nth [a0, a1, a2, a3, a4, a5, a6, a7, a8] k)).wf = true := by
  have : k = 0 ∨ k = 1 ∨ k = 2 ∨ k = 3 ∨ k = 4 ∨ k = 5 ∨ k = 6 ∨ k = 7 ∨ k = 8 := by omega
  rcases this with rfl | rfl | rfl | rfl | rfl | rfl | rfl | rfl | rfl <;> assumption
set_option linter.unusedSimpArgs false in
set_option linter.unusedVariables false in
set_option maxRecDepth 100000 in
set_option maxHeartbeats 2000000 in
theorem numbers_any (C : Nat) (w : World) :
    Calls Try.prog 74 #[.pointer (some ⟨C, 0, none⟩)] w fun e w' => ∃ P, e = .returned (.slice (some ⟨P, 0, none⟩) 9 9) ∧ w'.heap[P]? = some (.cells #[.pointer (some ⟨C, 0, none⟩), .pointer (some ⟨C, 1, none⟩), .pointer (some ⟨C, 2, none⟩), .pointer (some ⟨C, 3, none⟩), .pointer (some ⟨C, 4, none⟩), .pointer (some ⟨C, 5, none⟩), .pointer (some ⟨C, 6, none⟩), .pointer (some ⟨C, 7, none⟩), .pointer (some ⟨C, 8, none⟩)] 125 (0, 0)) ∧ w.heap.size ≤ P ∧ Below w.heap.size w w' := by
  go_enter Try.func74, Try.ntmps74
  go_wp2_with fail
  refine' reg_free (G := Kept) (pickF [eqV _, eqV _, eqV _, eqV _, eqV _, eqV _, eqV _, eqV _, eqV _, eqV _, eqV _, eqV _, eqV _, eqV _, eqV _, eqV _, eqV _, eqV _, eqV _, eqV _, eqV _, eqV _, eqV _, eqV _, eqV _, eqV _, eqV _, (fun v w2 => ∃ P, v = .slice (some ⟨P, 0, none⟩) 9 9 ∧ w2.heap[P]? = some (.cells #[.pointer (some ⟨C, 0, none⟩), .pointer (some ⟨C, 1, none⟩), .pointer (some ⟨C, 2, none⟩), .pointer (some ⟨C, 3, none⟩), .pointer (some ⟨C, 4, none⟩), .pointer (some ⟨C, 5, none⟩), .pointer (some ⟨C, 6, none⟩), .pointer (some ⟨C, 7, none⟩), .pointer (some ⟨C, 8, none⟩)] 125 (0, 0)) ∧ w.heap.size ≤ P), (fun v w2 => ∃ P, v = .slice (some ⟨P, 0, none⟩) 9 9 ∧ w2.heap[P]? = some (.cells #[.pointer (some ⟨C, 0, none⟩), .pointer (some ⟨C, 1, none⟩), .pointer (some ⟨C, 2, none⟩), .pointer (some ⟨C, 3, none⟩), .pointer (some ⟨C, 4, none⟩), .pointer (some ⟨C, 5, none⟩), .pointer (some ⟨C, 6, none⟩), .pointer (some ⟨C, 7, none⟩), .pointer (some ⟨C, 8, none⟩)] 125 (0, 0)) ∧ w.heap.size ≤ P)]) [3, 4, 5, 6, 7, 8, 9, 10, 11, 12, 13, 14, 15, 16, 17, 18, 19, 20, 21, 22, 23, 24, 25, 26, 27, 28, 29, 30, 2] [[], [0], [1], [], [3], [4], [], [6], [7], [], [9], [10], [], [12], [13], [], [15], [16], [], [18], [19], [], [21], [22], [], [24], [25], [2, 5, 8, 11, 14, 17, 20, 23, 26], [27]] [0, 1, 2, 3, 4, 5, 6, 7, 8, 9, 10, 11, 12, 13, 14, 15, 16, 17, 18, 19, 20, 21, 22, 23, 24, 25, 26, 27, 28] (by kernel_rfl) Kept.refl Kept.trans (pick_stays ⟨eqV_stays _, eqV_stays _, eqV_stays _, eqV_stays _, eqV_stays _, eqV_stays _, eqV_stays _, eqV_stays _, eqV_stays _, eqV_stays _, eqV_stays _, eqV_stays _, eqV_stays _, eqV_stays _, eqV_stays _, eqV_stays _, eqV_stays _, eqV_stays _, eqV_stays _, eqV_stays _, eqV_stays _, eqV_stays _, eqV_stays _, eqV_stays _, eqV_stays _, eqV_stays _, eqV_stays _, (by rintro v w w' ⟨P, rfl, h1, h2⟩ hk; exact ⟨P, rfl, row_keep h1 hk, h2⟩), (by rintro v w w' ⟨P, rfl, h1, h2⟩ hk; exact ⟨P, rfl, row_keep h1 hk, h2⟩), trivial⟩) 31 rfl (by kernel_rfl) (by kernel_rfl) rfl rfl ?r1obl ?r1fin
  case r1obl =>
    refine And.intro ?r1o0 (And.intro ?r1o1 (And.intro ?r1o2 (And.intro ?r1o3 (And.intro ?r1o4 (And.intro ?r1o5 (And.intro ?r1o6 (And.intro ?r1o7 (And.intro ?r1o8 (And.intro ?r1o9 (And.intro ?r1o10 (And.intro ?r1o11 (And.intro ?r1o12 (And.intro ?r1o13 (And.intro ?r1o14 (And.intro ?r1o15 (And.intro ?r1o16 (And.intro ?r1o17 (And.intro ?r1o18 (And.intro ?r1o19 (And.intro ?r1o20 (And.intro ?r1o21 (And.intro ?r1o22 (And.intro ?r1o23 (And.intro ?r1o24 (And.intro ?r1o25 (And.intro ?r1o26 (And.intro ?r1o27 (And.intro ?r1o28 (True.intro)))))))))))))))))))))))))))))
    case r1o0 =>
      intro w1 hG
      refine turn_on (by rfl) ?_
      intro K hK
      go_simp
      refine hK _ _ ⟨rfl, Kept.refl _, ?_⟩
      show _ = _
      simp only [List.getD_cons_zero, List.getD_cons_succ, Array.getD_eq_getD_getElem?, List.getElem?_toArray, List.getElem?_cons_zero, List.getElem?_cons_succ, Option.getD_some]
      rfl
    case r1o1 =>
      intro w1 hG
      intro v0 h0
      change _ = _ at h0
      subst h0
      refine turn_on (by rfl) ?_
      intro K hK
      simp only [List.getD_cons_zero, List.getD_cons_succ, List.setIfInBounds_toArray, List.set_cons_zero, List.set_cons_succ]
      go_simp
      refine hK _ _ ⟨rfl, Kept.refl _, ?_⟩
      show _ = _
      simp only [List.getD_cons_zero, List.getD_cons_succ, Array.getD_eq_getD_getElem?, List.getElem?_toArray, List.getElem?_cons_zero, List.getElem?_cons_succ, Option.getD_some]
      rfl
    case r1o2 =>
      intro w1 hG
      intro v1 h1
      change _ = _ at h1
      subst h1
      refine turn_on (by rfl) ?_
      intro K hK
      simp only [List.getD_cons_zero, List.getD_cons_succ, List.setIfInBounds_toArray, List.set_cons_zero, List.set_cons_succ]
      go_simp
      refine hK _ _ ⟨rfl, Kept.refl _, ?_⟩
      show _ = _
      simp only [List.getD_cons_zero, List.getD_cons_succ, Array.getD_eq_getD_getElem?, List.getElem?_toArray, List.getElem?_cons_zero, List.getElem?_cons_succ, Option.getD_some]
      rfl
    case r1o3 =>
      intro w1 hG
      refine turn_on (by rfl) ?_
      intro K hK
      go_simp
      refine hK _ _ ⟨rfl, Kept.refl _, ?_⟩
      show _ = _
      simp only [List.getD_cons_zero, List.getD_cons_succ, Array.getD_eq_getD_getElem?, List.getElem?_toArray, List.getElem?_cons_zero, List.getElem?_cons_succ, Option.getD_some]
      rfl
    case r1o4 =>
      intro w1 hG
      intro v3 h3
      change _ = _ at h3
      subst h3
      refine turn_on (by rfl) ?_
      intro K hK
      simp only [List.getD_cons_zero, List.getD_cons_succ, List.setIfInBounds_toArray, List.set_cons_zero, List.set_cons_succ]
      go_simp
      refine hK _ _ ⟨rfl, Kept.refl _, ?_⟩
      show _ = _
      simp only [List.getD_cons_zero, List.getD_cons_succ, Array.getD_eq_getD_getElem?, List.getElem?_toArray, List.getElem?_cons_zero, List.getElem?_cons_succ, Option.getD_some]
      rfl
    case r1o5 =>
      intro w1 hG
      intro v4 h4
      change _ = _ at h4
      subst h4
      refine turn_on (by rfl) ?_
      intro K hK
      simp only [List.getD_cons_zero, List.getD_cons_succ, List.setIfInBounds_toArray, List.set_cons_zero, List.set_cons_succ]
      go_simp
      refine hK _ _ ⟨rfl, Kept.refl _, ?_⟩
      show _ = _
      simp only [List.getD_cons_zero, List.getD_cons_succ, Array.getD_eq_getD_getElem?, List.getElem?_toArray, List.getElem?_cons_zero, List.getElem?_cons_succ, Option.getD_some]
      rfl
    case r1o6 =>
      intro w1 hG
      refine turn_on (by rfl) ?_
      intro K hK
      go_simp
      refine hK _ _ ⟨rfl, Kept.refl _, ?_⟩
      show _ = _
      simp only [List.getD_cons_zero, List.getD_cons_succ, Array.getD_eq_getD_getElem?, List.getElem?_toArray, List.getElem?_cons_zero, List.getElem?_cons_succ, Option.getD_some]
      rfl
    case r1o7 =>
      intro w1 hG
      intro v6 h6
      change _ = _ at h6
      subst h6
      refine turn_on (by rfl) ?_
      intro K hK
      simp only [List.getD_cons_zero, List.getD_cons_succ, List.setIfInBounds_toArray, List.set_cons_zero, List.set_cons_succ]
      go_simp
      refine hK _ _ ⟨rfl, Kept.refl _, ?_⟩
      show _ = _
      simp only [List.getD_cons_zero, List.getD_cons_succ, Array.getD_eq_getD_getElem?, List.getElem?_toArray, List.getElem?_cons_zero, List.getElem?_cons_succ, Option.getD_some]
      rfl
    case r1o8 =>
      intro w1 hG
      intro v7 h7
      change _ = _ at h7
      subst h7
      refine turn_on (by rfl) ?_
      intro K hK
      simp only [List.getD_cons_zero, List.getD_cons_succ, List.setIfInBounds_toArray, List.set_cons_zero, List.set_cons_succ]
      go_simp
      refine hK _ _ ⟨rfl, Kept.refl _, ?_⟩
      show _ = _
      simp only [List.getD_cons_zero, List.getD_cons_succ, Array.getD_eq_getD_getElem?, List.getElem?_toArray, List.getElem?_cons_zero, List.getElem?_cons_succ, Option.getD_some]
      rfl
    case r1o9 =>
      intro w1 hG
      refine turn_on (by rfl) ?_
      intro K hK
      go_simp
      refine hK _ _ ⟨rfl, Kept.refl _, ?_⟩
      show _ = _
      simp only [List.getD_cons_zero, List.getD_cons_succ, Array.getD_eq_getD_getElem?, List.getElem?_toArray, List.getElem?_cons_zero, List.getElem?_cons_succ, Option.getD_some]
      rfl
    case r1o10 =>
      intro w1 hG
      intro v9 h9
      change _ = _ at h9
      subst h9
      refine turn_on (by rfl) ?_
      intro K hK
      simp only [List.getD_cons_zero, List.getD_cons_succ, List.setIfInBounds_toArray, List.set_cons_zero, List.set_cons_succ]
      go_simp
      refine hK _ _ ⟨rfl, Kept.refl _, ?_⟩
      show _ = _
      simp only [List.getD_cons_zero, List.getD_cons_succ, Array.getD_eq_getD_getElem?, List.getElem?_toArray, List.getElem?_cons_zero, List.getElem?_cons_succ, Option.getD_some]
      rfl
    case r1o11 =>
      intro w1 hG
      intro v10 h10
      change _ = _ at h10
      subst h10
      refine turn_on (by rfl) ?_
      intro K hK
      simp only [List.getD_cons_zero, List.getD_cons_succ, List.setIfInBounds_toArray, List.set_cons_zero, List.set_cons_succ]
      go_simp
      refine hK _ _ ⟨rfl, Kept.refl _, ?_⟩
      show _ = _
      simp only [List.getD_cons_zero, List.getD_cons_succ, Array.getD_eq_getD_getElem?, List.getElem?_toArray, List.getElem?_cons_zero, List.getElem?_cons_succ, Option.getD_some]
      rfl
    case r1o12 =>
      intro w1 hG
      refine turn_on (by rfl) ?_
      intro K hK
      go_simp
      refine hK _ _ ⟨rfl, Kept.refl _, ?_⟩
      show _ = _
      simp only [List.getD_cons_zero, List.getD_cons_succ, Array.getD_eq_getD_getElem?, List.getElem?_toArray, List.getElem?_cons_zero, List.getElem?_cons_succ, Option.getD_some]
      rfl
    case r1o13 =>
      intro w1 hG
      intro v12 h12
      change _ = _ at h12
      subst h12
      refine turn_on (by rfl) ?_
      intro K hK
      simp only [List.getD_cons_zero, List.getD_cons_succ, List.setIfInBounds_toArray, List.set_cons_zero, List.set_cons_succ]
      go_simp
      refine hK _ _ ⟨rfl, Kept.refl _, ?_⟩
      show _ = _
      simp only [List.getD_cons_zero, List.getD_cons_succ, Array.getD_eq_getD_getElem?, List.getElem?_toArray, List.getElem?_cons_zero, List.getElem?_cons_succ, Option.getD_some]
      rfl
    case r1o14 =>
      intro w1 hG
      intro v13 h13
      change _ = _ at h13
      subst h13
      refine turn_on (by rfl) ?_
      intro K hK
      simp only [List.getD_cons_zero, List.getD_cons_succ, List.setIfInBounds_toArray, List.set_cons_zero, List.set_cons_succ]
      go_simp
      refine hK _ _ ⟨rfl, Kept.refl _, ?_⟩
      show _ = _
      simp only [List.getD_cons_zero, List.getD_cons_succ, Array.getD_eq_getD_getElem?, List.getElem?_toArray, List.getElem?_cons_zero, List.getElem?_cons_succ, Option.getD_some]
      rfl
    case r1o15 =>
      intro w1 hG
      refine turn_on (by rfl) ?_
      intro K hK
      go_simp
      refine hK _ _ ⟨rfl, Kept.refl _, ?_⟩
      show _ = _
      simp only [List.getD_cons_zero, List.getD_cons_succ, Array.getD_eq_getD_getElem?, List.getElem?_toArray, List.getElem?_cons_zero, List.getElem?_cons_succ, Option.getD_some]
      rfl
    case r1o16 =>
      intro w1 hG
      intro v15 h15
      change _ = _ at h15
      subst h15
      refine turn_on (by rfl) ?_
      intro K hK
      simp only [List.getD_cons_zero, List.getD_cons_succ, List.setIfInBounds_toArray, List.set_cons_zero, List.set_cons_succ]
      go_simp
      refine hK _ _ ⟨rfl, Kept.refl _, ?_⟩
      show _ = _
      simp only [List.getD_cons_zero, List.getD_cons_succ, Array.getD_eq_getD_getElem?, List.getElem?_toArray, List.getElem?_cons_zero, List.getElem?_cons_succ, Option.getD_some]
      rfl
    case r1o17 =>
      intro w1 hG
      intro v16 h16
      change _ = _ at h16
      subst h16
      refine turn_on (by rfl) ?_
      intro K hK
      simp only [List.getD_cons_zero, List.getD_cons_succ, List.setIfInBounds_toArray, List.set_cons_zero, List.set_cons_succ]
      go_simp
      refine hK _ _ ⟨rfl, Kept.refl _, ?_⟩
      show _ = _
      simp only [List.getD_cons_zero, List.getD_cons_succ, Array.getD_eq_getD_getElem?, List.getElem?_toArray, List.getElem?_cons_zero, List.getElem?_cons_succ, Option.getD_some]
      rfl
    case r1o18 =>
      intro w1 hG
      refine turn_on (by rfl) ?_
      intro K hK
      go_simp
      refine hK _ _ ⟨rfl, Kept.refl _, ?_⟩
      show _ = _
      simp only [List.getD_cons_zero, List.getD_cons_succ, Array.getD_eq_getD_getElem?, List.getElem?_toArray, List.getElem?_cons_zero, List.getElem?_cons_succ, Option.getD_some]
      rfl
    case r1o19 =>
      intro w1 hG
      intro v18 h18
      change _ = _ at h18
      subst h18
      refine turn_on (by rfl) ?_
      intro K hK
      simp only [List.getD_cons_zero, List.getD_cons_succ, List.setIfInBounds_toArray, List.set_cons_zero, List.set_cons_succ]
      go_simp
      refine hK _ _ ⟨rfl, Kept.refl _, ?_⟩
      show _ = _
      simp only [List.getD_cons_zero, List.getD_cons_succ, Array.getD_eq_getD_getElem?, List.getElem?_toArray, List.getElem?_cons_zero, List.getElem?_cons_succ, Option.getD_some]
      rfl
    case r1o20 =>
      intro w1 hG
      intro v19 h19
      change _ = _ at h19
      subst h19
      refine turn_on (by rfl) ?_
      intro K hK
      simp only [List.getD_cons_zero, List.getD_cons_succ, List.setIfInBounds_toArray, List.set_cons_zero, List.set_cons_succ]
      go_simp
      refine hK _ _ ⟨rfl, Kept.refl _, ?_⟩
      show _ = _
      simp only [List.getD_cons_zero, List.getD_cons_succ, Array.getD_eq_getD_getElem?, List.getElem?_toArray, List.getElem?_cons_zero, List.getElem?_cons_succ, Option.getD_some]
      rfl
    case r1o21 =>
      intro w1 hG
      refine turn_on (by rfl) ?_
      intro K hK
      go_simp
      refine hK _ _ ⟨rfl, Kept.refl _, ?_⟩
      show _ = _
      simp only [List.getD_cons_zero, List.getD_cons_succ, Array.getD_eq_getD_getElem?, List.getElem?_toArray, List.getElem?_cons_zero, List.getElem?_cons_succ, Option.getD_some]
      rfl
    case r1o22 =>
      intro w1 hG
      intro v21 h21
      change _ = _ at h21
      subst h21
      refine turn_on (by rfl) ?_
      intro K hK
      simp only [List.getD_cons_zero, List.getD_cons_succ, List.setIfInBounds_toArray, List.set_cons_zero, List.set_cons_succ]
      go_simp
      refine hK _ _ ⟨rfl, Kept.refl _, ?_⟩
      show _ = _
      simp only [List.getD_cons_zero, List.getD_cons_succ, Array.getD_eq_getD_getElem?, List.getElem?_toArray, List.getElem?_cons_zero, List.getElem?_cons_succ, Option.getD_some]
      rfl
    case r1o23 =>
      intro w1 hG
      intro v22 h22
      change _ = _ at h22
      subst h22
      refine turn_on (by rfl) ?_
      intro K hK
      simp only [List.getD_cons_zero, List.getD_cons_succ, List.setIfInBounds_toArray, List.set_cons_zero, List.set_cons_succ]
      go_simp
      refine hK _ _ ⟨rfl, Kept.refl _, ?_⟩
      show _ = _
      simp only [List.getD_cons_zero, List.getD_cons_succ, Array.getD_eq_getD_getElem?, List.getElem?_toArray, List.getElem?_cons_zero, List.getElem?_cons_succ, Option.getD_some]
      rfl
    case r1o24 =>
      intro w1 hG
      refine turn_on (by rfl) ?_
      intro K hK
      go_simp
      refine hK _ _ ⟨rfl, Kept.refl _, ?_⟩
      show _ = _
      simp only [List.getD_cons_zero, List.getD_cons_succ, Array.getD_eq_getD_getElem?, List.getElem?_toArray, List.getElem?_cons_zero, List.getElem?_cons_succ, Option.getD_some]
      rfl
    case r1o25 =>
      intro w1 hG
      intro v24 h24
      change _ = _ at h24
      subst h24
      refine turn_on (by rfl) ?_
      intro K hK
      simp only [List.getD_cons_zero, List.getD_cons_succ, List.setIfInBounds_toArray, List.set_cons_zero, List.set_cons_succ]
      go_simp
      refine hK _ _ ⟨rfl, Kept.refl _, ?_⟩
      show _ = _
      simp only [List.getD_cons_zero, List.getD_cons_succ, Array.getD_eq_getD_getElem?, List.getElem?_toArray, List.getElem?_cons_zero, List.getElem?_cons_succ, Option.getD_some]
      rfl
    case r1o26 =>
      intro w1 hG
      intro v25 h25
      change _ = _ at h25
      subst h25
      refine turn_on (by rfl) ?_
      intro K hK
      simp only [List.getD_cons_zero, List.getD_cons_succ, List.setIfInBounds_toArray, List.set_cons_zero, List.set_cons_succ]
      go_simp
      refine hK _ _ ⟨rfl, Kept.refl _, ?_⟩
      show _ = _
      simp only [List.getD_cons_zero, List.getD_cons_succ, Array.getD_eq_getD_getElem?, List.getElem?_toArray, List.getElem?_cons_zero, List.getElem?_cons_succ, Option.getD_some]
      rfl
    case r1o27 =>
      intro w1 hG
      intro v2 h2
      change _ = _ at h2
      subst h2
      intro v5 h5
      change _ = _ at h5
      subst h5
      intro v8 h8
      change _ = _ at h8
      subst h8
      intro v11 h11
      change _ = _ at h11
      subst h11
      intro v14 h14
      change _ = _ at h14
      subst h14
      intro v17 h17
      change _ = _ at h17
      subst h17
      intro v20 h20
      change _ = _ at h20
      subst h20
      intro v23 h23
      change _ = _ at h23
      subst h23
      intro v26 h26
      change _ = _ at h26
      subst h26
      refine turn_on (by rfl) ?_
      intro K hK
      simp only [List.getD_cons_zero, List.getD_cons_succ, List.setIfInBounds_toArray, List.set_cons_zero, List.set_cons_succ]
      go_simp
      refine hK _ _ ⟨rfl, (Below.refl _ _).alloc (Nat.le_refl _) _, ?_⟩
      show ∃ P, _ = _ ∧ _
      simp only [List.getD_cons_zero, List.getD_cons_succ, Array.getD_eq_getD_getElem?, List.getElem?_toArray, List.getElem?_cons_zero, List.getElem?_cons_succ, Option.getD_some]
      exact ⟨_, rfl, heap_alloc_new _ _, hG.size⟩
    case r1o28 =>
      intro w1 hG
      intro v27 h27
      obtain ⟨P27, rfl, hP27, hL27⟩ := h27
      refine turn_on (by rfl) ?_
      intro K hK
      simp only [List.getD_cons_zero, List.getD_cons_succ, List.setIfInBounds_toArray, List.set_cons_zero, List.set_cons_succ]
      go_simp
      refine hK _ _ ⟨rfl, Kept.refl _, ?_⟩
      show ∃ P, _ = _ ∧ _
      simp only [List.getD_cons_zero, List.getD_cons_succ, Array.getD_eq_getD_getElem?, List.getElem?_toArray, List.getElem?_cons_zero, List.getElem?_cons_succ, Option.getD_some]
      exact ⟨_, rfl, hP27, hL27⟩
  intro w1 hG
  intro v0 h0
  change _ = _ at h0
  subst h0
  intro v1 h1
  change _ = _ at h1
  subst h1
  intro v2 h2
  change _ = _ at h2
  subst h2
  intro v3 h3
  change _ = _ at h3
  subst h3
  intro v4 h4
  change _ = _ at h4
  subst h4
  intro v5 h5
  change _ = _ at h5
  subst h5
  intro v6 h6
  change _ = _ at h6
  subst h6
  intro v7 h7
  change _ = _ at h7
  subst h7
  intro v8 h8
  change _ = _ at h8
  subst h8
  intro v9 h9
  change _ = _ at h9
  subst h9
  intro v10 h10
  change _ = _ at h10
  subst h10
  intro v11 h11
  change _ = _ at h11
  subst h11
  intro v12 h12
  change _ = _ at h12
  subst h12
  intro v13 h13
  change _ = _ at h13
  subst h13
  intro v14 h14
  change _ = _ at h14
  subst h14
  intro v15 h15
  change _ = _ at h15
  subst h15
  intro v16 h16
  change _ = _ at h16
  subst h16
  intro v17 h17
  change _ = _ at h17
  subst h17
  intro v18 h18
  change _ = _ at h18
  subst h18
  intro v19 h19
  change _ = _ at h19
  subst h19
  intro v20 h20
  change _ = _ at h20
  subst h20
  intro v21 h21
  change _ = _ at h21
  subst h21
  intro v22 h22
  change _ = _ at h22
  subst h22
  intro v23 h23
  change _ = _ at h23
  subst h23
  intro v24 h24
  change _ = _ at h24
  subst h24
  intro v25 h25
  change _ = _ at h25
  subst h25
  intro v26 h26
  change _ = _ at h26
  subst h26
  intro v27 h27
  obtain ⟨P27, rfl, hP27, hL27⟩ := h27
  intro v28 h28
  obtain ⟨P28, rfl, hP28, hL28⟩ := h28
  simp only [Given, List.getD_cons_zero, List.getD_cons_succ, List.setIfInBounds_toArray, List.set_cons_zero, List.set_cons_succ]
  have hb := (Below.refl w.heap.size w).drew.trans (Below.mono hG (Nat.le_refl _))
  go_wp2
  go_ret
  exact ⟨_, rfl, hP28, hL28, hb⟩
set_option linter.unusedSimpArgs false in
set_option linter.unusedVariables false in
set_option maxRecDepth 100000 in
set_option maxHeartbeats 2000000 in
theorem genc_any (a0 a1 a2 a3 a4 a5 a6 a7 a8 : Int) (w : World) (h0 : (Lit.int .i64 a0).wf = true) (h1 : (Lit.int .i64 a1).wf = true) (h2 : (Lit.int .i64 a2).wf = true) (h3 : (Lit.int .i64 a3).wf = true) (h4 : (Lit.int .i64 a4).wf = true) (h5 : (Lit.int .i64 a5).wf = true) (h6 : (Lit.int .i64 a6).wf = true) (h7 : (Lit.int .i64 a7).wf = true) (h8 : (Lit.int .i64 a8).wf = true) :
    Calls Try.prog 37 #[.agg #[.int .i64 a0, .int .i64 a1, .int .i64 a2, .int .i64 a3, .int .i64 a4, .int .i64 a5, .int .i64 a6, .int .i64 a7, .int .i64 a8]] w (GivesBytes (encL [a0, a1, a2, a3, a4, a5, a6, a7, a8]) w) := by
  go_enter Try.func37, Try.ntmps37
  go_wp2_with fail
  have hC0 : (w.alloc (.cells #[.int .i64 a0, .int .i64 a1, .int .i64 a2, .int .i64 a3, .int .i64 a4, .int .i64 a5, .int .i64 a6, .int .i64 a7, .int .i64 a8] 24)).heap[w.heap.size]? = some (.cells #[.int .i64 a0, .int .i64 a1, .int .i64 a2, .int .i64 a3, .int .i64 a4, .int .i64 a5, .int .i64 a6, .int .i64 a7, .int .i64 a8] 24 (0, 0)) := heap_alloc_new _ _
  have hb0 : Below w.heap.size w (w.alloc (.cells #[.int .i64 a0, .int .i64 a1, .int .i64 a2, .int .i64 a3, .int .i64 a4, .int .i64 a5, .int .i64 a6, .int .i64 a7, .int .i64 a8] 24)) := (Below.refl _ _).alloc (Nat.le_refl _) _
  have hs0 : (w.alloc (.cells #[.int .i64 a0, .int .i64 a1, .int .i64 a2, .int .i64 a3, .int .i64 a4, .int .i64 a5, .int .i64 a6, .int .i64 a7, .int .i64 a8] 24)).heap.size = w.heap.size + 1 := by simp
  generalize w.alloc (.cells #[.int .i64 a0, .int .i64 a1, .int .i64 a2, .int .i64 a3, .int .i64 a4, .int .i64 a5, .int .i64 a6, .int .i64 a7, .int .i64 a8] 24) = w1 at *
  refine (newwriter_any w1).mono ?_
  rintro e w2 ⟨rfl, ho2, hb2⟩
  have HO2 := Lib.hid ho2
  have HC2 := Lib.hid (row_keep hC0 hb2)
  have HB2 := Lib.hid (hb0.trans (hb2.mono hb0.size))
  have hlt2 := ho2.lt
  have HS0 := Lib.hid hs0
  clear hC0 hb0 hb2 ho2 hs0
  go_wp2_with fail
  refine (numbers_any w.heap.size w2).mono ?_
  rintro e w3 ⟨P, rfl, hP, hPl, hb3⟩
  have HO3 := Lib.hid (HO2.out.below hb3)
  have HC3 := Lib.hid (row_keep HC2.out hb3)
  have HB3 := Lib.hid (HB2.out.trans (hb3.mono HB2.out.size))
  have HP3 := Lib.hid hP
  have hs0 := HS0.out
  have hh : w1.heap.size < P := by omega
  have HH : Hid (w.heap.size < w1.heap.size) := by show _ < _; omega
  clear hP hb3 HO2 HC2 HB2 hs0
  obtain ⟨h, hh0⟩ : ∃ h, w1.heap.size = h := ⟨_, rfl⟩
  rw [hh0] at HO3 HH hh ⊢
  clear hh0 HS0
  go_wp2_with fail
  go_loopw [9] (fun i wr => ∃ (k : Nat) (v : Value), k ≤ 9 ∧ i = .int .i64 k ∧ VarAt .u8 121 5 wr h v (encL ([a0, a1, a2, a3, a4, a5, a6, a7, a8].take k)) ∧ (∀ g, room v = some g → P < g) ∧ Below w.heap.size w wr ∧ wr.heap[w.heap.size]? = some (.cells #[.int .i64 a0, .int .i64 a1, .int .i64 a2, .int .i64 a3, .int .i64 a4, .int .i64 a5, .int .i64 a6, .int .i64 a7, .int .i64 a8] 24 (0, 0)) ∧ wr.heap[P]? = some (.cells #[.pointer (some ⟨w.heap.size, 0, none⟩), .pointer (some ⟨w.heap.size, 1, none⟩), .pointer (some ⟨w.heap.size, 2, none⟩), .pointer (some ⟨w.heap.size, 3, none⟩), .pointer (some ⟨w.heap.size, 4, none⟩), .pointer (some ⟨w.heap.size, 5, none⟩), .pointer (some ⟨w.heap.size, 6, none⟩), .pointer (some ⟨w.heap.size, 7, none⟩), .pointer (some ⟨w.heap.size, 8, none⟩)] 125 (0, 0))) (fun i _ => 9 - (intOf i).toNat)
  case atStart => exact ⟨0, _, by omega, rfl, HO3.out, (fun g hg => by cases hg), HB3.out, HC3.out, HP3.out⟩
  case round =>
    clear HO3 HB3 HC3 HP3
    obtain ⟨k, v, hk, rfl, ho, hrm, hb, hC, hP⟩ := hrel
    have hlen := encL_len ([a0, a1, a2, a3, a4, a5, a6, a7, a8].take k)
    have hlen2 : (encL ([a0, a1, a2, a3, a4, a5, a6, a7, a8].take k)).length ≤ 100 := by rw [List.length_take] at hlen; simp at hlen; omega
    have HO := Lib.hid ho
    have HR := Lib.hid hrm
    have HB := Lib.hid hb
    have HC := Lib.hid hC
    have HP := Lib.hid hP
    have hl1 := ho.lt
    have HL2 := Lib.hid hlen2
    clear ho hrm hb hlen hlen2
    by_cases hp : k < 9
    · have c1 := nine_ptr hP hp
      have c2 := nine_int hC hp
      have hw := nine_wf h0 h1 h2 h3 h4 h5 h6 h7 h8 hp
      have hst := take_step (l := [a0, a1, a2, a3, a4, a5, a6, a7, a8]) (k := k) (by simpa using hp)
      obtain ⟨x, hx⟩ : ∃ x, nth [a0, a1, a2, a3, a4, a5, a6, a7, a8] k = x := ⟨_, rfl⟩
      rw [hx] at c2 hw hst
      have hx2 := wf_i64_bd hw
      have HST := Lib.hid hst
      clear hP hC hx hw hst
      go_wp2_with fail
      refine (wint_any h v _ x _ HO.out (by have := HL2.out; omega) hx2.1 hx2.2).mono ?_
      rintro e w4 ⟨rfl, ⟨v4, ho4, hn4⟩, hsp⟩
      have hB4 : Below w.heap.size w w4 := HB.out.trans ((hsp.below (by omega) (fun q hq => by have := HR.out q hq; have := HH.out; omega)).mono (by have := HH.out; omega))
      have hC4 : w4.heap[w.heap.size]? = some (.cells #[.int .i64 a0, .int .i64 a1, .int .i64 a2, .int .i64 a3, .int .i64 a4, .int .i64 a5, .int .i64 a6, .int .i64 a7, .int .i64 a8] 24 (0, 0)) := by
        rw [hsp.block _ (Array.getElem?_eq_some_iff.1 HC.out).1 (by have := HH.out; omega) (fun e => by have := HR.out _ e.symm; have := HH.out; omega)]; exact HC.out
      have hPlt := (Array.getElem?_eq_some_iff.1 HP.out).1
      have hP4 : w4.heap[P]? = some (.cells #[.pointer (some ⟨w.heap.size, 0, none⟩), .pointer (some ⟨w.heap.size, 1, none⟩), .pointer (some ⟨w.heap.size, 2, none⟩), .pointer (some ⟨w.heap.size, 3, none⟩), .pointer (some ⟨w.heap.size, 4, none⟩), .pointer (some ⟨w.heap.size, 5, none⟩), .pointer (some ⟨w.heap.size, 6, none⟩), .pointer (some ⟨w.heap.size, 7, none⟩), .pointer (some ⟨w.heap.size, 8, none⟩)] 125 (0, 0)) := by
        rw [hsp.block _ hPlt (by omega) (fun e => by have := HR.out _ e.symm; omega)]; exact HP.out
      have hR4 : ∀ g, room v4 = some g → P < g := by
        intro g hg
        rcases hn4 with h | h
        · exact HR.out g (by rw [← h]; exact hg)
        · have := h g hg; omega
      have HO4 := Lib.hid ho4
      have HB4 := Lib.hid hB4
      have HC4 := Lib.hid hC4
      have HP4 := Lib.hid hP4
      have HR4 := Lib.hid hR4
      clear ho4 hB4 hC4 hP4 hR4 hn4 hsp c1 c2
      go_wp2_with fail
      go_roundw
      case rel => exact ⟨k + 1, v4, by omega, by go_num, by rw [HST.out, encL_snoc]; exact HO4.out, HR4.out, HB4.out, HC4.out, HP4.out⟩
      case measure => simp [intOf] <;> omega
    · obtain rfl : k = 9 := by omega
      clear hP hC
      go_wp2_with fail
      refine (wdone_any h v _ _ HO.out (by have := HL2.out; omega)).mono ?_
      rintro e w5 ⟨v5, rfl, ho5, hb5⟩
      go_wp2_with fail
      go_ret
      exact ⟨v5, rfl, ho5.mono HB.out.size, HB.out.trans (hb5.mono HB.out.size)⟩
set_option linter.unusedSimpArgs false in
set_option linter.unusedVariables false in
set_option maxRecDepth 100000 in
set_option maxHeartbeats 2000000 in
theorem rnumbers_any (a0 a1 a2 a3 a4 a5 a6 a7 a8 : Int) (w : World) :
    Calls Try.prog 80 #[.agg #[.int .i64 a0, .int .i64 a1, .int .i64 a2, .int .i64 a3, .int .i64 a4, .int .i64 a5, .int .i64 a6, .int .i64 a7, .int .i64 a8]] w fun e w' => ∃ P, e = .returned (.slice (some ⟨P, 0, none⟩) 9 9) ∧ w'.heap[P]? = some (.cells #[.int .i64 a0, .int .i64 a1, .int .i64 a2, .int .i64 a3, .int .i64 a4, .int .i64 a5, .int .i64 a6, .int .i64 a7, .int .i64 a8] 3 (0, 0)) ∧ w.heap.size ≤ P ∧ Below w.heap.size w w' := by
  go_enter Try.func80, Try.ntmps80
  go_wp2_with fail
  go_ret
  refine ⟨_, rfl, ?_, by simp, ((Below.refl _ _).alloc (Nat.le_refl _) _).alloc (by simp) _⟩
  have := heap_alloc_new (w.alloc (.cells #[.int .i64 a0, .int .i64 a1, .int .i64 a2, .int .i64 a3, .int .i64 a4, .int .i64 a5, .int .i64 a6, .int .i64 a7, .int .i64 a8] 24)) (.cells #[.int .i64 a0, .int .i64 a1, .int .i64 a2, .int .i64 a3, .int .i64 a4, .int .i64 a5, .int .i64 a6, .int .i64 a7, .int .i64 a8] 3)
  simpa using this
set_option linter.unusedSimpArgs false in
set_option linter.unusedVariables false in
set_option maxRecDepth 100000 in
set_option maxHeartbeats 2000000 in
theorem renc_any (a0 a1 a2 a3 a4 a5 a6 a7 a8 : Int) (w : World) (h0 : (Lit.int .i64 a0).wf = true) (h1 : (Lit.int .i64 a1).wf = true) (h2 : (Lit.int .i64 a2).wf = true) (h3 : (Lit.int .i64 a3).wf = true) (h4 : (Lit.int .i64 a4).wf = true) (h5 : (Lit.int .i64 a5).wf = true) (h6 : (Lit.int .i64 a6).wf = true) (h7 : (Lit.int .i64 a7).wf = true) (h8 : (Lit.int .i64 a8).wf = true) :
    Calls Try.prog 44 #[.agg #[.int .i64 a0, .int .i64 a1, .int .i64 a2, .int .i64 a3, .int .i64 a4, .int .i64 a5, .int .i64 a6, .int .i64 a7, .int .i64 a8]] w (GivesBytes (encL [a0, a1, a2, a3, a4, a5, a6, a7, a8]) w) := by
  go_enter Try.func44, Try.ntmps44
  go_wp2_with fail
  have hb0 : Below w.heap.size w (w.alloc (.cells #[.int .i64 a0, .int .i64 a1, .int .i64 a2, .int .i64 a3, .int .i64 a4, .int .i64 a5, .int .i64 a6, .int .i64 a7, .int .i64 a8] 24)) := (Below.refl _ _).alloc (Nat.le_refl _) _
  generalize w.alloc (.cells #[.int .i64 a0, .int .i64 a1, .int .i64 a2, .int .i64 a3, .int .i64 a4, .int .i64 a5, .int .i64 a6, .int .i64 a7, .int .i64 a8] 24) = w1 at *
  refine (rnumbers_any a0 a1 a2 a3 a4 a5 a6 a7 a8 w1).mono ?_
  rintro e w2 ⟨P, rfl, hP, hPl, hb2⟩
  have HB2 := Lib.hid (hb0.trans (hb2.mono hb0.size))
  have HP2 := Lib.hid hP
  have hPw : w.heap.size ≤ P := Nat.le_trans hb0.size hPl
  clear hb0 hb2 hP hPl
  go_wp2_with fail
  go_loopw [3, 5] (fun x i wr => ∃ k : Nat, k ≤ 9 ∧ i = .int .i64 k ∧ Owns .u8 5 wr (P + 1) x (encL ([a0, a1, a2, a3, a4, a5, a6, a7, a8].take k)) ∧ Below w.heap.size w wr ∧ wr.heap[P]? = some (.cells #[.int .i64 a0, .int .i64 a1, .int .i64 a2, .int .i64 a3, .int .i64 a4, .int .i64 a5, .int .i64 a6, .int .i64 a7, .int .i64 a8] 3 (0, 0))) (fun _ i _ => 9 - (intOf i).toNat)
  case atStart => exact ⟨0, by omega, rfl, Owns.nil _ _ _ _, HB2.out, HP2.out⟩
  case round =>
    clear HB2 HP2
    obtain ⟨k, hk, rfl, ho, hb, hP⟩ := hrel
    have hlen := encL_len ([a0, a1, a2, a3, a4, a5, a6, a7, a8].take k)
    have hlen2 : (encL ([a0, a1, a2, a3, a4, a5, a6, a7, a8].take k)).length ≤ 100 := by rw [List.length_take] at hlen; simp at hlen; omega
    obtain ⟨q, hq⟩ : ∃ q, (encL ([a0, a1, a2, a3, a4, a5, a6, a7, a8].take k)).length = q := ⟨_, rfl⟩
    obtain ⟨av, cv, rfl⟩ := ho.shapeN q hq
    have HO := Lib.hid ho
    have HB := Lib.hid hb
    have HP := Lib.hid hP
    have HL2 := Lib.hid hlen2
    have hPlt := (Array.getElem?_eq_some_iff.1 hP).1
    clear ho hb hlen hlen2 hq
    by_cases hp : k < 9
    · have c2 := nine_int hP hp
      have hw := nine_wf h0 h1 h2 h3 h4 h5 h6 h7 h8 hp
      have hst := take_step (l := [a0, a1, a2, a3, a4, a5, a6, a7, a8]) (k := k) (by simpa using hp)
      obtain ⟨x, hx⟩ : ∃ x, nth [a0, a1, a2, a3, a4, a5, a6, a7, a8] k = x := ⟨_, rfl⟩
      rw [hx] at c2 hw hst
      have hx2 := wf_i64_bd hw
      have HST := Lib.hid hst
      clear hP hx hw hst
      go_wp2_with fail
      refine (rcint_any _ _ x _ (P + 1) HO.out (by omega) (by have := HL2.out; omega) hx2.1 hx2.2).mono ?_
      rintro e w4 ⟨r4, rfl, ho4, hg4⟩
      have hB4 : Below w.heap.size w w4 := HB.out.grown hg4.1 HB.out.size (fun g hg => by have := (HO.out.at_base g hg).1; omega)
      have hP4 : w4.heap[P]? = some (.cells #[.int .i64 a0, .int .i64 a1, .int .i64 a2, .int .i64 a3, .int .i64 a4, .int .i64 a5, .int .i64 a6, .int .i64 a7, .int .i64 a8] 3 (0, 0)) := by
        rw [hg4.1.block P hPlt (fun e => by have := (HO.out.at_base P e.symm).1; omega)]; exact HP.out
      obtain ⟨q4, hq4⟩ : ∃ q4, (encL ([a0, a1, a2, a3, a4, a5, a6, a7, a8].take k) ++ varF 9 (zigI x)).length = q4 := ⟨_, rfl⟩
      obtain ⟨a4, c4, rfl⟩ := ho4.shapeN q4 hq4
      have HO4 := Lib.hid ho4
      have HB4 := Lib.hid hB4
      have HP4 := Lib.hid hP4
      clear ho4 hB4 hP4 hg4 hq4 c2
      go_wp2_with fail
      go_roundw
      case rel => exact ⟨k + 1, by omega, by go_num, by rw [HST.out, encL_snoc]; exact HO4.out, HB4.out, HP4.out⟩
      case measure => simp [intOf] <;> omega
    · obtain rfl : k = 9 := by omega
      clear hP
      go_wp2_with fail
      go_ret
      exact ⟨_, rfl, HO.out.mono (by omega), HB.out⟩
end Go.Proofs.Ytcbnebcooiagmaa
namespace Go.Proofs.Ytcbnebcooiagmaa
open Go.RowKit
/-- What a reader has come to behind so many numbers. -/
def rSt (l : List Int) : Nat → Rd Int
  | 0 => ⟨0, 0, l⟩
  | k + 1 => rdFrom (rSt l k).e 0 (rSt l k).l (rdInt (rSt l k).l)
def decV (l : List Int) (k : Nat) : Int := (rSt l (k + 1)).v
def decE (l : List Int) : Int := rdEnd (rSt l 9).e (rSt l 9).l
def cfgArr (f : Nat → Int) : Array Value := #[.int .i64 (f 0), .int .i64 (f 1), .int .i64 (f 2), .int .i64 (f 3), .int .i64 (f 4), .int .i64 (f 5), .int .i64 (f 6), .int .i64 (f 7), .int .i64 (f 8)]
/-- Nine numbers laid. -/
def put9 (w : World) (b : Nat) (x0 x1 x2 x3 x4 x5 x6 x7 x8 : Int) : World :=
  ((((((((w.setCell ⟨b, 0, none⟩ (.int .i64 x0)).setCell ⟨b, 1, none⟩ (.int .i64 x1)).setCell ⟨b, 2, none⟩ (.int .i64 x2)).setCell ⟨b, 3, none⟩ (.int .i64 x3)).setCell ⟨b, 4, none⟩ (.int .i64 x4)).setCell ⟨b, 5, none⟩ (.int .i64 x5)).setCell ⟨b, 6, none⟩ (.int .i64 x6)).setCell ⟨b, 7, none⟩ (.int .i64 x7)).setCell ⟨b, 8, none⟩ (.int .i64 x8)
theorem put9_row {w : World} {b T : Nat} {y0 y1 y2 y3 y4 y5 y6 y7 y8 : Value} (h : w.heap[b]? = some (.cells #[y0, y1, y2, y3, y4, y5, y6, y7, y8] T (0, 0))) (x0 x1 x2 x3 x4 x5 x6 x7 x8 : Int) :
    (put9 w b x0 x1 x2 x3 x4 x5 x6 x7 x8).heap[b]? = some (.cells #[.int .i64 x0, .int .i64 x1, .int .i64 x2, .int .i64 x3, .int .i64 x4, .int .i64 x5, .int .i64 x6, .int .i64 x7, .int .i64 x8] T (0, 0)) := by
  unfold put9
  have s0 := heap_setCell_same w b 0 _ _ (.int .i64 x0) h
  have s1 := heap_setCell_same _ b 1 _ _ (.int .i64 x1) s0
  have s2 := heap_setCell_same _ b 2 _ _ (.int .i64 x2) s1
  have s3 := heap_setCell_same _ b 3 _ _ (.int .i64 x3) s2
  have s4 := heap_setCell_same _ b 4 _ _ (.int .i64 x4) s3
  have s5 := heap_setCell_same _ b 5 _ _ (.int .i64 x5) s4
  have s6 := heap_setCell_same _ b 6 _ _ (.int .i64 x6) s5
  have s7 := heap_setCell_same _ b 7 _ _ (.int .i64 x7) s6
  have s8 := heap_setCell_same _ b 8 _ _ (.int .i64 x8) s7
  rw [s8]
  simp only [List.setIfInBounds_toArray, List.set_cons_zero, List.set_cons_succ]
theorem put9_other {w : World} {b g : Nat} (h : g ≠ b) (x0 x1 x2 x3 x4 x5 x6 x7 x8 : Int) : (put9 w b x0 x1 x2 x3 x4 x5 x6 x7 x8).heap[g]? = w.heap[g]? := by
  unfold put9
  rw [heap_setCell_other _ ⟨b, 8, none⟩ g _ h, heap_setCell_other _ ⟨b, 7, none⟩ g _ h, heap_setCell_other _ ⟨b, 6, none⟩ g _ h, heap_setCell_other _ ⟨b, 5, none⟩ g _ h, heap_setCell_other _ ⟨b, 4, none⟩ g _ h, heap_setCell_other _ ⟨b, 3, none⟩ g _ h, heap_setCell_other _ ⟨b, 2, none⟩ g _ h, heap_setCell_other _ ⟨b, 1, none⟩ g _ h, heap_setCell_other _ ⟨b, 0, none⟩ g _ h]
theorem put9_below {B : Nat} {w0 w : World} {b : Nat} (h : Below B w0 w) (hb : B ≤ b) (x0 x1 x2 x3 x4 x5 x6 x7 x8 : Int) : Below B w0 (put9 w b x0 x1 x2 x3 x4 x5 x6 x7 x8) :=
  ((((((((h.setCell hb _).setCell hb _).setCell hb _).setCell hb _).setCell hb _).setCell hb _).setCell hb _).setCell hb _).setCell hb _
theorem cfg_set (f : Nat → Int) (x : Int) {k : Nat} (hk : k < 9) : (cfgArr f).setIfInBounds k (.int .i64 x) = cfgArr (fun i => if i = k then x else f i) := by
  have : k = 0 ∨ k = 1 ∨ k = 2 ∨ k = 3 ∨ k = 4 ∨ k = 5 ∨ k = 6 ∨ k = 7 ∨ k = 8 := by omega
  rcases this with rfl | rfl | rfl | rfl | rfl | rfl | rfl | rfl | rfl <;> simp [cfgArr]
theorem cfg_step (l : List Int) (k : Nat) : (fun i => if i = k then decV l k else (if i < k then decV l i else 0)) = (fun i => if i < k + 1 then decV l i else 0) := by
  funext i
  by_cases h : i = k
  · subst h; rw [if_pos rfl, if_pos (by omega)]
  · rw [if_neg h]
    by_cases h2 : i < k
    · rw [if_pos h2, if_pos (by omega)]
    · rw [if_neg h2, if_neg (by omega)]
theorem cfg_nine (l : List Int) : cfgArr (fun i => if i < 9 then decV l i else 0) = #[.int .i64 (decV l 0), .int .i64 (decV l 1), .int .i64 (decV l 2), .int .i64 (decV l 3), .int .i64 (decV l 4), .int .i64 (decV l 5), .int .i64 (decV l 6), .int .i64 (decV l 7), .int .i64 (decV l 8)] := rfl
theorem cfg_zero (l : List Int) : cfgArr (fun i => if i < 0 then decV l i else 0) = #[.int .i64 0, .int .i64 0, .int .i64 0, .int .i64 0, .int .i64 0, .int .i64 0, .int .i64 0, .int .i64 0, .int .i64 0] := rfl
theorem cfg_cell {w : World} {C k T : Nat} {f : Nat → Int} (h : w.heap[C]? = some (.cells (cfgArr f) T (0, 0))) (hk : k < 9) : w.cell? ⟨C, k, none⟩ = some (.int .i64 (f k)) := by
  rw [cell_of_row w _ _ _ _ _ h]
  have : k = 0 ∨ k = 1 ∨ k = 2 ∨ k = 3 ∨ k = 4 ∨ k = 5 ∨ k = 6 ∨ k = 7 ∨ k = 8 := by omega
  rcases this with rfl | rfl | rfl | rfl | rfl | rfl | rfl | rfl | rfl <;> rfl
theorem cfg_put {w : World} {C k T : Nat} {f : Nat → Int} (x : Int) (h : w.heap[C]? = some (.cells (cfgArr f) T (0, 0))) (hk : k < 9) : (w.setCell ⟨C, k, none⟩ (.int .i64 x)).heap[C]? = some (.cells (cfgArr (fun i => if i = k then x else f i)) T (0, 0)) := by
  rw [heap_setCell_same w C k _ _ _ h, cfg_set f x hk]
/-- What a shape's bytes are read as: the numbers, and whether they are none's. -/
def decB (l : List Int) : Bool := decide (decE l = 0) && chkB (decV l 0) (decV l 1) (decV l 2) (decV l 3) (decV l 4) (decV l 5) (decV l 6) (decV l 7) (decV l 8)
def decC (l : List Int) : Value := if decB l = true then .agg #[.int .i64 (decV l 0), .int .i64 (decV l 1), .int .i64 (decV l 2), .int .i64 (decV l 3), .int .i64 (decV l 4), .int .i64 (decV l 5), .int .i64 (decV l 6), .int .i64 (decV l 7), .int .i64 (decV l 8)] else .agg #[.int .i64 0, .int .i64 0, .int .i64 0, .int .i64 0, .int .i64 0, .int .i64 0, .int .i64 0, .int .i64 0, .int .i64 0]
def decN (l : List Int) : Int := if decB l = true then 0 else 22
theorem hdvb {l : List Int} {d0 d1 d2 d3 d4 d5 d6 d7 d8 : Int} (h : decV l 0 = d0 ∧ decV l 1 = d1 ∧ decV l 2 = d2 ∧ decV l 3 = d3 ∧ decV l 4 = d4 ∧ decV l 5 = d5 ∧ decV l 6 = d6 ∧ decV l 7 = d7 ∧ decV l 8 = d8) : chkB (decV l 0) (decV l 1) (decV l 2) (decV l 3) (decV l 4) (decV l 5) (decV l 6) (decV l 7) (decV l 8) = chkB d0 d1 d2 d3 d4 d5 d6 d7 d8 := by
  rw [h.1, h.2.1, h.2.2.1, h.2.2.2.1, h.2.2.2.2.1, h.2.2.2.2.2.1, h.2.2.2.2.2.2.1, h.2.2.2.2.2.2.2.1, h.2.2.2.2.2.2.2.2]
theorem hdvC {l : List Int} {d0 d1 d2 d3 d4 d5 d6 d7 d8 : Int} (h : decV l 0 = d0 ∧ decV l 1 = d1 ∧ decV l 2 = d2 ∧ decV l 3 = d3 ∧ decV l 4 = d4 ∧ decV l 5 = d5 ∧ decV l 6 = d6 ∧ decV l 7 = d7 ∧ decV l 8 = d8) : (#[.int .i64 (decV l 0), .int .i64 (decV l 1), .int .i64 (decV l 2), .int .i64 (decV l 3), .int .i64 (decV l 4), .int .i64 (decV l 5), .int .i64 (decV l 6), .int .i64 (decV l 7), .int .i64 (decV l 8)] : Array Value) = #[.int .i64 d0, .int .i64 d1, .int .i64 d2, .int .i64 d3, .int .i64 d4, .int .i64 d5, .int .i64 d6, .int .i64 d7, .int .i64 d8] := by
  rw [h.1, h.2.1, h.2.2.1, h.2.2.2.1, h.2.2.2.2.1, h.2.2.2.2.2.1, h.2.2.2.2.2.2.1, h.2.2.2.2.2.2.2.1, h.2.2.2.2.2.2.2.2]
set_option maxRecDepth 100000 in
theorem same_zero (d0 d1 d2 d3 d4 d5 d6 d7 d8 : Int) (w : World) (h : d0 ≠ 0) :
    Calls Try.prog 90 #[.agg #[.int .i64 d0, .int .i64 d1, .int .i64 d2, .int .i64 d3, .int .i64 d4, .int .i64 d5, .int .i64 d6, .int .i64 d7, .int .i64 d8], .agg #[.int .i64 0, .int .i64 0, .int .i64 0, .int .i64 0, .int .i64 0, .int .i64 0, .int .i64 0, .int .i64 0, .int .i64 0]] w fun e w' => e = .returned (.bool false) ∧ Below w.heap.size w w' := by
  have hne : (d0 == 0) = false := beq_eq_false_iff_ne.2 h
  go_enter Try.func90, Try.ntmps90
  go_wp2_with fail
  go_ret
  exact ⟨rfl, ((Below.refl _ _).alloc (Nat.le_refl _) _).alloc (by simp) _⟩
set_option linter.unusedSimpArgs false in
set_option linter.unusedVariables false in
set_option maxRecDepth 100000 in
set_option maxHeartbeats 2000000 in
theorem gdec_any (a : Option Addr) (n c : Nat) (l : List Int) (w : World) (hr : RdAt .u8 w a n c l) (hn : n ≤ 100000) :
    Calls Try.prog 52 #[.slice a n c] w fun e w' => e = .returned (.tuple #[decC l, .int .i64 (decN l)]) ∧ Below w.heap.size w w' := by
  have H := Lib.hid hr
  clear hr
  go_enter Try.func52, Try.ntmps52
  go_wp2_with fail
  have hb1 : Below w.heap.size w ((w.alloc (.cells #[.int .i64 0, .int .i64 0, .int .i64 0, .int .i64 0, .int .i64 0, .int .i64 0, .int .i64 0, .int .i64 0, .int .i64 0] 24)).alloc (.cells #[.int .i64 0, .int .i64 0, .int .i64 0, .int .i64 0, .int .i64 0, .int .i64 0, .int .i64 0, .int .i64 0, .int .i64 0] 24)) := ((Below.refl _ _).alloc (Nat.le_refl _) _).alloc (by simp) _
  have hR1 : ((w.alloc (.cells #[.int .i64 0, .int .i64 0, .int .i64 0, .int .i64 0, .int .i64 0, .int .i64 0, .int .i64 0, .int .i64 0, .int .i64 0] 24)).alloc (.cells #[.int .i64 0, .int .i64 0, .int .i64 0, .int .i64 0, .int .i64 0, .int .i64 0, .int .i64 0, .int .i64 0, .int .i64 0] 24)).heap[w.heap.size]? = some (.cells #[.int .i64 0, .int .i64 0, .int .i64 0, .int .i64 0, .int .i64 0, .int .i64 0, .int .i64 0, .int .i64 0, .int .i64 0] 24 (0, 0)) := by
    rw [heap_old _ _ (by simp)]
    exact heap_alloc_new _ _
  have hC1 : ((w.alloc (.cells #[.int .i64 0, .int .i64 0, .int .i64 0, .int .i64 0, .int .i64 0, .int .i64 0, .int .i64 0, .int .i64 0, .int .i64 0] 24)).alloc (.cells #[.int .i64 0, .int .i64 0, .int .i64 0, .int .i64 0, .int .i64 0, .int .i64 0, .int .i64 0, .int .i64 0, .int .i64 0] 24)).heap[w.heap.size + 1]? = some (.cells #[.int .i64 0, .int .i64 0, .int .i64 0, .int .i64 0, .int .i64 0, .int .i64 0, .int .i64 0, .int .i64 0, .int .i64 0] 24 (0, 0)) := by
    have := heap_alloc_new (w.alloc (.cells #[.int .i64 0, .int .i64 0, .int .i64 0, .int .i64 0, .int .i64 0, .int .i64 0, .int .i64 0, .int .i64 0, .int .i64 0] 24)) (.cells #[.int .i64 0, .int .i64 0, .int .i64 0, .int .i64 0, .int .i64 0, .int .i64 0, .int .i64 0, .int .i64 0, .int .i64 0] 24)
    simpa using this
  have hs1 : ((w.alloc (.cells #[.int .i64 0, .int .i64 0, .int .i64 0, .int .i64 0, .int .i64 0, .int .i64 0, .int .i64 0, .int .i64 0, .int .i64 0] 24)).alloc (.cells #[.int .i64 0, .int .i64 0, .int .i64 0, .int .i64 0, .int .i64 0, .int .i64 0, .int .i64 0, .int .i64 0, .int .i64 0] 24)).heap.size = w.heap.size + 2 := by simp
  generalize (w.alloc (.cells #[.int .i64 0, .int .i64 0, .int .i64 0, .int .i64 0, .int .i64 0, .int .i64 0, .int .i64 0, .int .i64 0, .int .i64 0] 24)).alloc (.cells #[.int .i64 0, .int .i64 0, .int .i64 0, .int .i64 0, .int .i64 0, .int .i64 0, .int .i64 0, .int .i64 0, .int .i64 0] 24) = w1 at *
  refine (newreader_any _ _ _ l _ (H.out.below hb1) (by omega)).mono ?_
  rintro e w2 ⟨h, rfl, hh, hr2, hb2⟩
  have HR2 := Lib.hid hr2
  have HB2 := Lib.hid (hb1.trans (hb2.mono hb1.size))
  have HRR2 := Lib.hid (row_keep hR1 hb2)
  have HC2 := Lib.hid (row_keep hC1 hb2)
  have hlt2 := hr2.lt
  have HS1 := Lib.hid hs1
  clear hb1 hR1 hC1 hs1 hr2 hb2
  go_wp2_with fail
  refine (numbers_any (w.heap.size + 1) w2).mono ?_
  rintro e w3 ⟨P, rfl, hP, hPl, hb3⟩
  have HR3 := Lib.hid (HR2.out.below hb3)
  have HB3 := Lib.hid (HB2.out.trans (hb3.mono HB2.out.size))
  have HRR3 := Lib.hid (row_keep HRR2.out hb3)
  have HC3 := Lib.hid (row_keep HC2.out hb3)
  have HP3 := Lib.hid hP
  have hPh : h < P := by omega
  clear hP hb3 HR2 HB2 HRR2 HC2
  have HW : Hid (w.heap.size + 2 ≤ h ∧ w.heap.size + 1 < w1.heap.size ∧ w1.heap.size ≤ h) := by
    show _ ∧ _
    have := HS1.out
    omega
  go_wp2_with fail
  go_loopw [12] (fun i wr => ∃ k : Nat, k ≤ 9 ∧ i = .int .i64 k ∧ RIn w1.heap.size wr h (rSt l k).l (rSt l k).e ∧ wr.heap[w.heap.size + 1]? = some (.cells (cfgArr (fun i => if i < k then decV l i else 0)) 24 (0, 0)) ∧ wr.heap[P]? = some (.cells #[.pointer (some ⟨w.heap.size + 1, 0, none⟩), .pointer (some ⟨w.heap.size + 1, 1, none⟩), .pointer (some ⟨w.heap.size + 1, 2, none⟩), .pointer (some ⟨w.heap.size + 1, 3, none⟩), .pointer (some ⟨w.heap.size + 1, 4, none⟩), .pointer (some ⟨w.heap.size + 1, 5, none⟩), .pointer (some ⟨w.heap.size + 1, 6, none⟩), .pointer (some ⟨w.heap.size + 1, 7, none⟩), .pointer (some ⟨w.heap.size + 1, 8, none⟩)] 125 (0, 0)) ∧ wr.heap[w.heap.size]? = some (.cells #[.int .i64 0, .int .i64 0, .int .i64 0, .int .i64 0, .int .i64 0, .int .i64 0, .int .i64 0, .int .i64 0, .int .i64 0] 24 (0, 0)) ∧ Below w.heap.size w wr) (fun i _ => 9 - (intOf i).toNat)
  case atStart => exact ⟨0, by omega, rfl, HR3.out, by rw [cfg_zero l]; exact HC3.out, HP3.out, HRR3.out, HB3.out⟩
  case round =>
    clear HR3 HB3 HRR3 HC3 HP3
    obtain ⟨k, hk, rfl, hr, hC, hP, hR, hb⟩ := hrel
    have HR := Lib.hid hr
    have HC := Lib.hid hC
    have HP := Lib.hid hP
    have HRR := Lib.hid hR
    have HB := Lib.hid hb
    clear hr hR hb
    by_cases hp : k < 9
    · have c1 := nine_ptr hP hp
      clear hP hC
      go_wp2_with fail
      refine (rInt_any h _ _ _ HR.out).mono ?_
      rintro e w4 ⟨hg, hr4, v, rfl, hv⟩
      replace hv : v = .int .i64 (decV l k) := hv
      subst hv
      have HR4 : Hid (RIn w1.heap.size w4 h (rSt l (k + 1)).l (rSt l (k + 1)).e) := hr4
      have hC4 := heap_kept HC.out hg (by have := HW.out; omega)
      have HC4 := Lib.hid hC4
      have HP4 := Lib.hid (heap_kept HP.out hg (by omega))
      have HRR4 := Lib.hid (heap_kept HRR.out hg (by have := HW.out; omega))
      have HB4 : Hid (Below w.heap.size w w4) := HB.out.grown hg HB.out.size (fun g hg' => by injection hg' with e; have := HW.out; omega)
      have c4 := cfg_cell hC4 hp
      have f4 : ∀ i, w4.frozen? ⟨w.heap.size + 1, i, none⟩ = false := fun i => frozen_of_row w4 _ i _ _ hC4
      clear hg hr4 hC4 c1
      go_wp2_with fail
      have HG5 := Lib.hid (rcell_grown w4 (w.heap.size + 1) k (.int .i64 (decV l k)))
      have HC5 := Lib.hid (cfg_put (decV l k) HC4.out hp)
      go_roundw
      case rel => exact ⟨k + 1, by omega, by go_num, HR4.out.apart HG5.out HW.out.2.1 HW.out.2.2, by rw [← cfg_step l k]; exact HC5.out, heap_kept HP4.out HG5.out (by have := HW.out; omega), heap_kept HRR4.out HG5.out (by omega), HB4.out.setCell (show w.heap.size ≤ w.heap.size + 1 by omega) _⟩
      case measure => simp [intOf] <;> omega
    · obtain rfl : k = 9 := by omega
      rw [cfg_nine] at hC
      have hcs := cells9 hC
      clear hP hC
      go_wp2_with fail
      refine (rEnd_any h _ _ _ HR.out).mono ?_
      rintro e w5 ⟨rfl, rfl⟩
      obtain ⟨E, hE⟩ : ∃ E, decE l = E := ⟨_, rfl⟩
      have hE2 : rdEnd (rSt l 9).e (rSt l 9).l = E := hE
      rw [hE2]
      have HE := Lib.hid hE
      clear hE hE2
      have hrs := cells9 HRR.out
      have hrf : ∀ i, wr.frozen? ⟨w.heap.size, i, none⟩ = false := fun i => frozen_of_row wr _ i _ _ HRR.out
      obtain ⟨d0, d1, d2, d3, d4, d5, d6, d7, d8, hdv⟩ : ∃ d0 d1 d2 d3 d4 d5 d6 d7 d8 : Int, decV l 0 = d0 ∧ decV l 1 = d1 ∧ decV l 2 = d2 ∧ decV l 3 = d3 ∧ decV l 4 = d4 ∧ decV l 5 = d5 ∧ decV l 6 = d6 ∧ decV l 7 = d7 ∧ decV l 8 = d8 := ⟨_, _, _, _, _, _, _, _, _, rfl, rfl, rfl, rfl, rfl, rfl, rfl, rfl, rfl⟩
      have HDV := Lib.hid hdv
      rw [hdv.1, hdv.2.1, hdv.2.2.1, hdv.2.2.2.1, hdv.2.2.2.2.1, hdv.2.2.2.2.2.1, hdv.2.2.2.2.2.2.1, hdv.2.2.2.2.2.2.2.1, hdv.2.2.2.2.2.2.2.2] at hcs
      clear hdv
      by_cases h0 : E = 0
      · subst h0
        have hcs' := hcs
        obtain ⟨q0, q1, q2, q3, q4, q5, q6, q7, q8⟩ := hcs
        clear hcs'
        cases hk : chkB d0 d1 d2 d3 d4 d5 d6 d7 d8 with
        | false =>
          have hN1 : chkN d0 d1 d2 d3 d4 d5 d6 d7 d8 = 1 := by unfold chkN; rw [hk]; rfl
          have HBB : Hid (decB l = false) := by show _ = _; unfold decB; rw [HE.out, hdvb HDV.out, hk]; rfl
          clear hk
          go_wp2_with fail
          refine (check_any d0 d1 d2 d3 d4 d5 d6 d7 d8 _).mono ?_
          rintro e w6 ⟨hee, hb6⟩
          rw [hN1] at hee
          subst hee
          have HRR6 := Lib.hid (row_keep HRR.out hb6)
          have HB6 := Lib.hid (HB.out.trans (hb6.mono HB.out.size))
          clear q0 q1 q2 q3 q4 q5 q6 q7 q8 hrs hrf hb6
          have hrs := cells9 HRR6.out
          have hrf : ∀ i, w6.frozen? ⟨w.heap.size, i, none⟩ = false := fun i => frozen_of_row w6 _ i _ _ HRR6.out
          go_wp2_with fail
          change bodyPost _ _ _ _ _ (put9 w6 w.heap.size 0 0 0 0 0 0 0 0 0)
          have hrow := put9_row HRR6.out 0 0 0 0 0 0 0 0 0
          have hbel := put9_below (b := w.heap.size) HB6.out (Nat.le_refl _) 0 0 0 0 0 0 0 0 0
          generalize put9 w6 w.heap.size 0 0 0 0 0 0 0 0 0 = w9 at *
          obtain ⟨r0, r1, r2, r3, r4, r5, r6, r7, r8⟩ := cells9 hrow
          have hC : decC l = .agg #[.int .i64 0, .int .i64 0, .int .i64 0, .int .i64 0, .int .i64 0, .int .i64 0, .int .i64 0, .int .i64 0, .int .i64 0] := by unfold decC; rw [if_neg (by rw [HBB.out]; decide)]
          have hN : decN l = 22 := by unfold decN; rw [if_neg (by rw [HBB.out]; decide)]
          refine bodyPost_ret (v := .tuple #[.agg #[.int .i64 0, .int .i64 0, .int .i64 0, .int .i64 0, .int .i64 0, .int .i64 0, .int .i64 0, .int .i64 0, .int .i64 0], .int .i64 22]) (by simp [results, Try.results52, go_sem, r0, r1, r2, r3, r4, r5, r6, r7, r8]) rfl ⟨by rw [hC, hN], hbel⟩
        | true =>
          have hN1 : chkN d0 d1 d2 d3 d4 d5 d6 d7 d8 = 0 := by unfold chkN; rw [hk]; rfl
          have HBB : Hid (decB l = true) := by show _ = _; unfold decB; rw [HE.out, hdvb HDV.out, hk]; rfl
          have hd0 : d0 ≠ 0 := by have := (of_chk hk).1; omega
          clear hk
          go_wp2_with fail
          refine (check_any d0 d1 d2 d3 d4 d5 d6 d7 d8 _).mono ?_
          rintro e w6 ⟨hee, hb6⟩
          rw [hN1] at hee
          subst hee
          have hC6 := row_keep HC.out hb6
          rw [cfg_nine, hdvC HDV.out] at hC6
          have HRR6 := Lib.hid (row_keep HRR.out hb6)
          have HB6 := Lib.hid (HB.out.trans (hb6.mono HB.out.size))
          have HC6 := Lib.hid hC6
          clear q0 q1 q2 q3 q4 q5 q6 q7 q8 hrs hrf hb6
          obtain ⟨q0, q1, q2, q3, q4, q5, q6, q7, q8⟩ := cells9 hC6
          clear hC6
          go_wp2_with fail
          refine (same_zero d0 d1 d2 d3 d4 d5 d6 d7 d8 _ hd0).mono ?_
          rintro e w7 ⟨rfl, hb7⟩
          have HRR7 := Lib.hid (row_keep HRR6.out hb7)
          have HB7 := Lib.hid (HB6.out.trans (hb7.mono HB6.out.size))
          have hC7 := row_keep HC6.out hb7
          clear q0 q1 q2 q3 q4 q5 q6 q7 q8 hb7
          obtain ⟨q0, q1, q2, q3, q4, q5, q6, q7, q8⟩ := cells9 hC7
          clear hC7
          have hrs := cells9 HRR7.out
          have hrf : ∀ i, w7.frozen? ⟨w.heap.size, i, none⟩ = false := fun i => frozen_of_row w7 _ i _ _ HRR7.out
          go_wp2_with fail
          change bodyPost _ _ _ _ _ (put9 w7 w.heap.size d0 d1 d2 d3 d4 d5 d6 d7 d8)
          have hrow := put9_row HRR7.out d0 d1 d2 d3 d4 d5 d6 d7 d8
          have hbel := put9_below (b := w.heap.size) HB7.out (Nat.le_refl _) d0 d1 d2 d3 d4 d5 d6 d7 d8
          generalize put9 w7 w.heap.size d0 d1 d2 d3 d4 d5 d6 d7 d8 = w9 at *
          clear q0 q1 q2 q3 q4 q5 q6 q7 q8
          obtain ⟨r0, r1, r2, r3, r4, r5, r6, r7, r8⟩ := cells9 hrow
          have hC : decC l = .agg #[.int .i64 d0, .int .i64 d1, .int .i64 d2, .int .i64 d3, .int .i64 d4, .int .i64 d5, .int .i64 d6, .int .i64 d7, .int .i64 d8] := by unfold decC; rw [if_pos HBB.out, hdvC HDV.out]
          have hN : decN l = 0 := by unfold decN; rw [if_pos HBB.out]
          refine bodyPost_ret (v := .tuple #[.agg #[.int .i64 d0, .int .i64 d1, .int .i64 d2, .int .i64 d3, .int .i64 d4, .int .i64 d5, .int .i64 d6, .int .i64 d7, .int .i64 d8], .int .i64 0]) (by simp [results, Try.results52, go_sem, r0, r1, r2, r3, r4, r5, r6, r7, r8]) rfl ⟨by rw [hC, hN], hbel⟩
      · have hne : (E != 0) = true := by simpa using h0
        have hB : decB l = false := by unfold decB; rw [HE.out, decide_eq_false h0]; rfl
        have HBB := Lib.hid hB
        clear hB
        go_wp2_with fail
        change bodyPost _ _ _ _ _ (put9 wr w.heap.size 0 0 0 0 0 0 0 0 0)
        have hrow := put9_row HRR.out 0 0 0 0 0 0 0 0 0
        have hbel := put9_below (b := w.heap.size) HB.out (Nat.le_refl _) 0 0 0 0 0 0 0 0 0
        generalize put9 wr w.heap.size 0 0 0 0 0 0 0 0 0 = w9 at *
        obtain ⟨r0, r1, r2, r3, r4, r5, r6, r7, r8⟩ := cells9 hrow
        have hC : decC l = .agg #[.int .i64 0, .int .i64 0, .int .i64 0, .int .i64 0, .int .i64 0, .int .i64 0, .int .i64 0, .int .i64 0, .int .i64 0] := by unfold decC; rw [if_neg (by rw [HBB.out]; decide)]
        have hN : decN l = 22 := by unfold decN; rw [if_neg (by rw [HBB.out]; decide)]
        refine bodyPost_ret (v := .tuple #[.agg #[.int .i64 0, .int .i64 0, .int .i64 0, .int .i64 0, .int .i64 0, .int .i64 0, .int .i64 0, .int .i64 0, .int .i64 0], .int .i64 22]) (by simp [results, Try.results52, go_sem, r0, r1, r2, r3, r4, r5, r6, r7, r8]) rfl ⟨by rw [hC, hN], hbel⟩
set_option linter.unusedSimpArgs false in
set_option linter.unusedVariables false in
set_option maxRecDepth 100000 in
set_option maxHeartbeats 2000000 in
theorem rdec_any (a : Option Addr) (n c : Nat) (l : List Int) (w : World) (hr : RdAt .u8 w a n c l) (hn : n ≤ 100000) :
    Calls Try.prog 58 #[.slice a n c] w fun e w' => e = .returned (.tuple #[decC l, .int .i64 (decN l)]) ∧ Below w.heap.size w w' := by
  have hlo : ∀ q, a = some q → 0 < n → q.block < w.heap.size := by
    rintro q rfl h0
    obtain ⟨b, o, e, hc⟩ := hr.cell 0 h0
    injection e with e
    rw [e]
    exact block_lt_of_cell hc
  have H := Lib.hid hr
  clear hr
  go_enter Try.func58, Try.ntmps58
  go_wp2_with fail
  obtain ⟨w1, hw1⟩ : ∃ w1, ((w.alloc (.cells #[.int .i64 0, .int .i64 0, .int .i64 0, .int .i64 0, .int .i64 0, .int .i64 0, .int .i64 0, .int .i64 0, .int .i64 0] 24)).alloc (.cells #[.slice a n c, .int .i64 0] 103)).alloc (.cells #[.int .i64 0, .int .i64 0, .int .i64 0, .int .i64 0, .int .i64 0, .int .i64 0, .int .i64 0, .int .i64 0, .int .i64 0] 143) = w1 := ⟨_, rfl⟩
  have hb1 : Below w.heap.size w w1 := by rw [← hw1]; exact (((Below.refl _ _).alloc (Nat.le_refl _) _).alloc (by simp) _).alloc (by simp; omega) _
  have hR1 : w1.heap[w.heap.size]? = some (.cells #[.int .i64 0, .int .i64 0, .int .i64 0, .int .i64 0, .int .i64 0, .int .i64 0, .int .i64 0, .int .i64 0, .int .i64 0] 24 (0, 0)) := by
    rw [← hw1, heap_old _ _ (by simp; omega), heap_old _ _ (by simp)]
    exact heap_alloc_new _ _
  have hH1 : w1.heap[w.heap.size + 1]? = some (.cells #[.slice a n c, .int .i64 0] 103 (0, 0)) := by
    rw [← hw1, heap_old _ _ (by simp)]
    have := heap_alloc_new (w.alloc (.cells #[.int .i64 0, .int .i64 0, .int .i64 0, .int .i64 0, .int .i64 0, .int .i64 0, .int .i64 0, .int .i64 0, .int .i64 0] 24)) (.cells #[.slice a n c, .int .i64 0] 103)
    simpa using this
  have hA1 : w1.heap[w.heap.size + 1 + 1]? = some (.cells #[.int .i64 0, .int .i64 0, .int .i64 0, .int .i64 0, .int .i64 0, .int .i64 0, .int .i64 0, .int .i64 0, .int .i64 0] 143 (0, 0)) := by
    rw [← hw1]
    have := heap_alloc_new ((w.alloc (.cells #[.int .i64 0, .int .i64 0, .int .i64 0, .int .i64 0, .int .i64 0, .int .i64 0, .int .i64 0, .int .i64 0, .int .i64 0] 24)).alloc (.cells #[.slice a n c, .int .i64 0] 103)) (.cells #[.int .i64 0, .int .i64 0, .int .i64 0, .int .i64 0, .int .i64 0, .int .i64 0, .int .i64 0, .int .i64 0, .int .i64 0] 143)
    simpa using this
  have hs1 : w1.heap.size = w.heap.size + 3 := by rw [← hw1]; simp
  rw [hw1]
  have HR1 : Hid (RRIn w1 (w.heap.size + 1) l 0) := RRIn.made hH1 (H.out.below hb1) (fun q h1 h2 => by have := hlo q h1 h2; omega)
  have HRR1 := Lib.hid hR1
  have HA1 := Lib.hid hA1
  have HB1 := Lib.hid hb1
  have HS1 := Lib.hid hs1
  clear hw1 hb1 hR1 hH1 hA1 hs1
  go_loopw [6] (fun i wr => ∃ k : Nat, k ≤ 9 ∧ i = .int .i64 k ∧ RRIn wr (w.heap.size + 1) (rSt l k).l (rSt l k).e ∧ wr.heap[w.heap.size + 1 + 1]? = some (.cells (cfgArr (fun i => if i < k then decV l i else 0)) 143 (0, 0)) ∧ wr.heap[w.heap.size]? = some (.cells #[.int .i64 0, .int .i64 0, .int .i64 0, .int .i64 0, .int .i64 0, .int .i64 0, .int .i64 0, .int .i64 0, .int .i64 0] 24 (0, 0)) ∧ Below w.heap.size w wr) (fun i _ => 9 - (intOf i).toNat)
  case atStart => exact ⟨0, by omega, rfl, HR1.out, by rw [cfg_zero l]; exact HA1.out, HRR1.out, HB1.out⟩
  case round =>
    clear HR1 HB1 HRR1 HA1
    obtain ⟨k, hk, rfl, hr, hA, hR, hb⟩ := hrel
    have HR := Lib.hid hr
    have HA := Lib.hid hA
    have HRR := Lib.hid hR
    have HB := Lib.hid hb
    clear hr hR hb
    by_cases hp : k < 9
    · clear hA
      go_wp2_with fail
      refine (rrInt_any (w.heap.size + 1) _ _ _ HR.out).mono ?_
      rintro e w4 ⟨hg, hr4, v, rfl, hv⟩
      replace hv : v = .int .i64 (decV l k) := hv
      subst hv
      have HR4 : Hid (RRIn w4 (w.heap.size + 1) (rSt l (k + 1)).l (rSt l (k + 1)).e) := hr4
      have hA4 := heap_kept HA.out hg (by omega)
      have HA4 := Lib.hid hA4
      have HRR4 := Lib.hid (heap_kept HRR.out hg (by omega))
      have HB4 : Hid (Below w.heap.size w w4) := HB.out.grown hg HB.out.size (fun g hg' => by injection hg' with e; omega)
      have c4 := cfg_cell hA4 hp
      have f4 : ∀ i, w4.frozen? ⟨w.heap.size + 1 + 1, i, none⟩ = false := fun i => frozen_of_row w4 _ i _ _ hA4
      clear hg hr4 hA4
      go_wp2_with fail
      have HG5 := Lib.hid (rcell_grown w4 (w.heap.size + 1 + 1) k (.int .i64 (decV l k)))
      have HA5 := Lib.hid (cfg_put (decV l k) HA4.out hp)
      go_roundw
      case rel => exact ⟨k + 1, by omega, by go_num, HR4.out.grown HG5.out (fun g hg => by injection hg with e; omega), by rw [← cfg_step l k]; exact HA5.out, heap_kept HRR4.out HG5.out (by omega), HB4.out.setCell (show w.heap.size ≤ w.heap.size + 1 + 1 by omega) _⟩
      case measure => simp [intOf] <;> omega
    · obtain rfl : k = 9 := by omega
      rw [cfg_nine] at hA
      have hcs := cells9 hA
      clear hA
      obtain ⟨E, hE⟩ : ∃ E, decE l = E := ⟨_, rfl⟩
      have HE2 : Hid (rdEnd (rSt l 9).e (rSt l 9).l = E) := hE
      have HE := Lib.hid hE
      clear hE
      obtain ⟨d0, d1, d2, d3, d4, d5, d6, d7, d8, hdv⟩ : ∃ d0 d1 d2 d3 d4 d5 d6 d7 d8 : Int, decV l 0 = d0 ∧ decV l 1 = d1 ∧ decV l 2 = d2 ∧ decV l 3 = d3 ∧ decV l 4 = d4 ∧ decV l 5 = d5 ∧ decV l 6 = d6 ∧ decV l 7 = d7 ∧ decV l 8 = d8 := ⟨_, _, _, _, _, _, _, _, _, rfl, rfl, rfl, rfl, rfl, rfl, rfl, rfl, rfl⟩
      have HDV := Lib.hid hdv
      rw [hdv.1, hdv.2.1, hdv.2.2.1, hdv.2.2.2.1, hdv.2.2.2.2.1, hdv.2.2.2.2.2.1, hdv.2.2.2.2.2.2.1, hdv.2.2.2.2.2.2.2.1, hdv.2.2.2.2.2.2.2.2] at hcs
      clear hdv
      obtain ⟨q0, q1, q2, q3, q4, q5, q6, q7, q8⟩ := hcs
      go_wp2_with fail
      have hT2 : (wr.alloc (.cells #[.int .i64 d0, .int .i64 d1, .int .i64 d2, .int .i64 d3, .int .i64 d4, .int .i64 d5, .int .i64 d6, .int .i64 d7, .int .i64 d8] 24)).heap[wr.heap.size]? = some (.cells #[.int .i64 d0, .int .i64 d1, .int .i64 d2, .int .i64 d3, .int .i64 d4, .int .i64 d5, .int .i64 d6, .int .i64 d7, .int .i64 d8] 24 (0, 0)) := heap_alloc_new _ _
      have hb2 : Below wr.heap.size wr (wr.alloc (.cells #[.int .i64 d0, .int .i64 d1, .int .i64 d2, .int .i64 d3, .int .i64 d4, .int .i64 d5, .int .i64 d6, .int .i64 d7, .int .i64 d8] 24)) := (Below.refl _ _).alloc (Nat.le_refl _) _
      obtain ⟨w5, hw5⟩ : ∃ w5, wr.alloc (.cells #[.int .i64 d0, .int .i64 d1, .int .i64 d2, .int .i64 d3, .int .i64 d4, .int .i64 d5, .int .i64 d6, .int .i64 d7, .int .i64 d8] 24) = w5 := ⟨_, rfl⟩
      rw [hw5] at hT2 hb2
      rw [hw5]
      obtain ⟨T, hT⟩ : ∃ T, wr.heap.size = T := ⟨_, rfl⟩
      have HR5 := Lib.hid (HR.out.below hb2)
      have HRR5 := Lib.hid (row_keep HRR.out hb2)
      have HB5 := Lib.hid (HB.out.trans (hb2.mono HB.out.size))
      have HT5 := Lib.hid hT2
      have hT0 : w.heap.size ≤ wr.heap.size := HB.out.size
      clear hb2 hw5 q0 q1 q2 q3 q4 q5 q6 q7 q8 hT2
      refine (rrEnd_any (w.heap.size + 1) _ _ _ HR5.out).mono ?_
      rintro e w6 ⟨rfl, rfl⟩
      rw [HE2.out]
      obtain ⟨q0, q1, q2, q3, q4, q5, q6, q7, q8⟩ := cells9 HT5.out
      have hrs := cells9 HRR5.out
      have hrf : ∀ i, w5.frozen? ⟨w.heap.size, i, none⟩ = false := fun i => frozen_of_row w5 _ i _ _ HRR5.out
      clear hT
      by_cases h0 : E = 0
      · subst h0
        cases hk : chkB d0 d1 d2 d3 d4 d5 d6 d7 d8 with
        | false =>
          have hN1 : chkN d0 d1 d2 d3 d4 d5 d6 d7 d8 = 1 := by unfold chkN; rw [hk]; rfl
          have HBB : Hid (decB l = false) := by show _ = _; unfold decB; rw [HE.out, hdvb HDV.out, hk]; rfl
          clear hk
          go_wp2_with fail
          refine (refcheck_any d0 d1 d2 d3 d4 d5 d6 d7 d8 _).mono ?_
          rintro e w6 ⟨hee, hb6⟩
          rw [hN1] at hee
          subst hee
          have HRR6 := Lib.hid (row_keep HRR5.out hb6)
          have HB6 := Lib.hid (HB5.out.trans (hb6.mono HB5.out.size))
          clear q0 q1 q2 q3 q4 q5 q6 q7 q8 hrs hrf hb6
          have hrs := cells9 HRR6.out
          have hrf : ∀ i, w6.frozen? ⟨w.heap.size, i, none⟩ = false := fun i => frozen_of_row w6 _ i _ _ HRR6.out
          go_wp2_with fail
          change bodyPost _ _ _ _ _ (put9 w6 w.heap.size 0 0 0 0 0 0 0 0 0)
          have hrow := put9_row HRR6.out 0 0 0 0 0 0 0 0 0
          have hbel := put9_below (b := w.heap.size) HB6.out (Nat.le_refl _) 0 0 0 0 0 0 0 0 0
          generalize put9 w6 w.heap.size 0 0 0 0 0 0 0 0 0 = w9 at *
          obtain ⟨r0, r1, r2, r3, r4, r5, r6, r7, r8⟩ := cells9 hrow
          have hC : decC l = .agg #[.int .i64 0, .int .i64 0, .int .i64 0, .int .i64 0, .int .i64 0, .int .i64 0, .int .i64 0, .int .i64 0, .int .i64 0] := by unfold decC; rw [if_neg (by rw [HBB.out]; decide)]
          have hN : decN l = 22 := by unfold decN; rw [if_neg (by rw [HBB.out]; decide)]
          refine bodyPost_ret (v := .tuple #[.agg #[.int .i64 0, .int .i64 0, .int .i64 0, .int .i64 0, .int .i64 0, .int .i64 0, .int .i64 0, .int .i64 0, .int .i64 0], .int .i64 22]) (by simp [results, Try.results58, go_sem, r0, r1, r2, r3, r4, r5, r6, r7, r8]) rfl ⟨by rw [hC, hN], hbel⟩
        | true =>
          have hN1 : chkN d0 d1 d2 d3 d4 d5 d6 d7 d8 = 0 := by unfold chkN; rw [hk]; rfl
          have HBB : Hid (decB l = true) := by show _ = _; unfold decB; rw [HE.out, hdvb HDV.out, hk]; rfl
          clear hk
          go_wp2_with fail
          refine (refcheck_any d0 d1 d2 d3 d4 d5 d6 d7 d8 _).mono ?_
          rintro e w6 ⟨hee, hb6⟩
          rw [hN1] at hee
          subst hee
          have HRR6 := Lib.hid (row_keep HRR5.out hb6)
          have HB6 := Lib.hid (HB5.out.trans (hb6.mono HB5.out.size))
          have hC6 := row_keep HT5.out hb6
          clear q0 q1 q2 q3 q4 q5 q6 q7 q8 hrs hrf hb6
          obtain ⟨q0, q1, q2, q3, q4, q5, q6, q7, q8⟩ := cells9 hC6
          clear hC6
          have hrs := cells9 HRR6.out
          have hrf : ∀ i, w6.frozen? ⟨w.heap.size, i, none⟩ = false := fun i => frozen_of_row w6 _ i _ _ HRR6.out
          go_wp2_with fail
          change bodyPost _ _ _ _ _ (put9 w6 w.heap.size d0 d1 d2 d3 d4 d5 d6 d7 d8)
          have hrow := put9_row HRR6.out d0 d1 d2 d3 d4 d5 d6 d7 d8
          have hbel := put9_below (b := w.heap.size) HB6.out (Nat.le_refl _) d0 d1 d2 d3 d4 d5 d6 d7 d8
          generalize put9 w6 w.heap.size d0 d1 d2 d3 d4 d5 d6 d7 d8 = w9 at *
          clear q0 q1 q2 q3 q4 q5 q6 q7 q8
          obtain ⟨r0, r1, r2, r3, r4, r5, r6, r7, r8⟩ := cells9 hrow
          have hC : decC l = .agg #[.int .i64 d0, .int .i64 d1, .int .i64 d2, .int .i64 d3, .int .i64 d4, .int .i64 d5, .int .i64 d6, .int .i64 d7, .int .i64 d8] := by unfold decC; rw [if_pos HBB.out, hdvC HDV.out]
          have hN : decN l = 0 := by unfold decN; rw [if_pos HBB.out]
          refine bodyPost_ret (v := .tuple #[.agg #[.int .i64 d0, .int .i64 d1, .int .i64 d2, .int .i64 d3, .int .i64 d4, .int .i64 d5, .int .i64 d6, .int .i64 d7, .int .i64 d8], .int .i64 0]) (by simp [results, Try.results58, go_sem, r0, r1, r2, r3, r4, r5, r6, r7, r8]) rfl ⟨by rw [hC, hN], hbel⟩
      · have hne : (E != 0) = true := by simpa using h0
        have hB : decB l = false := by unfold decB; rw [HE.out, decide_eq_false h0]; rfl
        have HBB := Lib.hid hB
        clear hB
        go_wp2_with fail
        change bodyPost _ _ _ _ _ (put9 w5 w.heap.size 0 0 0 0 0 0 0 0 0)
        have hrow := put9_row HRR5.out 0 0 0 0 0 0 0 0 0
        have hbel := put9_below (b := w.heap.size) HB5.out (Nat.le_refl _) 0 0 0 0 0 0 0 0 0
        generalize put9 w5 w.heap.size 0 0 0 0 0 0 0 0 0 = w9 at *
        obtain ⟨r0, r1, r2, r3, r4, r5, r6, r7, r8⟩ := cells9 hrow
        have hC : decC l = .agg #[.int .i64 0, .int .i64 0, .int .i64 0, .int .i64 0, .int .i64 0, .int .i64 0, .int .i64 0, .int .i64 0, .int .i64 0] := by unfold decC; rw [if_neg (by rw [HBB.out]; decide)]
        have hN : decN l = 22 := by unfold decN; rw [if_neg (by rw [HBB.out]; decide)]
        refine bodyPost_ret (v := .tuple #[.agg #[.int .i64 0, .int .i64 0, .int .i64 0, .int .i64 0, .int .i64 0, .int .i64 0, .int .i64 0, .int .i64 0, .int .i64 0], .int .i64 22]) (by simp [results, Try.results58, go_sem, r0, r1, r2, r3, r4, r5, r6, r7, r8]) rfl ⟨by rw [hC, hN], hbel⟩
end Go.Proofs.Ytcbnebcooiagmaa
