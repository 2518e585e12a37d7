/- lz's Copies. -/
import Derived.Test.YtfoabnoolmeoiaaRLz
namespace Go.Proofs.Ytfoabnoolmeoiaa
open Go.RowKit
/-- How many bytes came by copies: none where there is an error. -/
def copT (T : Tok) : Int := if T.e = 0 then T.cop else 0
set_option linter.unusedSimpArgs false in
set_option linter.unusedVariables false in
set_option maxRecDepth 100000 in
set_option maxHeartbeats 1000000 in
theorem copies_any (a : Option Addr) (n c : Nat) (x : List Int) (w : World) (r : RdAt .u8 w a n c x) :
    Calls Try.prog 12 #[.slice a n c] w fun e w' => e = .returned (.tuple #[.int .i64 (litT (allT 1048576 x)), .int .i64 (copT (allT 1048576 x)), .int .i64 (allT 1048576 x).e]) ∧ Below w.heap.size w w' := by
  have R : Hid (RdrAt (w.alloc (.cells #[.slice a n c, .slice none 0 0, .int .i64 1048576, .int .i64 0, .int .i64 0] 43 (0, 0))) w.heap.size a n c x (.slice none 0 0) [] 1048576 0 0) :=
    ⟨heap_alloc_new _ _, r.alloc _, r.lowOf, Owns.nil _ _ _ _⟩
  clear r
  obtain ⟨T, hT⟩ : ∃ T, allT 1048576 x = T := ⟨_, rfl⟩
  go_enter Try.func12, Try.ntmps12
  go_wp2_with fail
  refine (all_any _ _ _ _ _ _ _ _ R.out (by decide) (by decide)).mono ?_
  rintro e wq ⟨hee, hb, hgood⟩
  rw [hT] at hee hgood
  have HT := Lib.hid hT
  clear hT
  have hb2 : Below w.heap.size w wq := ((Below.refl _ _).alloc (Nat.le_refl _) _).trans hb
  clear hb
  obtain ⟨E, hE⟩ : ∃ E, T.e = E := ⟨_, rfl⟩
  rw [hE] at hee hgood
  subst hee
  have HE := Lib.hid hE
  clear hE
  by_cases hz : E = 0
  · obtain ⟨a1, n1, c1, x1, v1, r1⟩ := hgood hz
    subst hz
    obtain ⟨l1, hl1⟩ : ∃ l1, T.lit = l1 := ⟨_, rfl⟩
    obtain ⟨k1, hk1⟩ : ∃ k1, T.cop = k1 := ⟨_, rfl⟩
    rw [hl1, hk1] at r1
    have hrow := r1.row
    have hlt := r1.lt
    have HROW := Lib.hid hrow
    have HL := Lib.hid hl1
    have HK := Lib.hid hk1
    clear r1 hgood hrow hl1 hk1
    go_wp2_with fail
    refine' reg_free (G := Kept) (pickF [eqV _, eqV _, eqV _, eqV _, eqV _, eqV _, eqV _, eqV _, eqV _, eqV _, eqV _]) [15, 16, 17, 18, 19, 20, 21, 22, 2, 3, 4] [[], [0], [1], [2], [], [4], [5], [6], [3], [7], []] [0, 1, 2, 3, 4, 5, 6, 7, 8, 9, 10] (by kernel_rfl) Kept.refl Kept.trans (pick_stays ⟨eqV_stays _, eqV_stays _, eqV_stays _, eqV_stays _, eqV_stays _, eqV_stays _, eqV_stays _, eqV_stays _, eqV_stays _, eqV_stays _, eqV_stays _, trivial⟩) 23 rfl (by kernel_rfl) (by kernel_rfl) rfl rfl ?r1obl ?r1fin
    case r1obl =>
      refine And.intro ?r1o0 (And.intro ?r1o1 (And.intro ?r1o2 (And.intro ?r1o3 (And.intro ?r1o4 (And.intro ?r1o5 (And.intro ?r1o6 (And.intro ?r1o7 (And.intro ?r1o8 (And.intro ?r1o9 (And.intro ?r1o10 (True.intro)))))))))))
      case r1o0 =>
        intro w1 hG
        refine turn_on (by rfl) ?_
        intro K hK
        go_simp
        refine hK _ _ ⟨rfl, Kept.refl _, ?_⟩
        show _ = _
        simp only [List.getD_cons_zero, List.getD_cons_succ, Array.getD_eq_getD_getElem?, List.getElem?_toArray, List.getElem?_cons_zero, List.getElem?_cons_succ, Option.getD_some]
        rfl
      case r1o1 =>
        intro w1 hG
        intro v0 h0
        change _ = _ at h0
        subst h0
        refine turn_on (by rfl) ?_
        intro K hK
        simp only [List.getD_cons_zero, List.getD_cons_succ, List.setIfInBounds_toArray, List.set_cons_zero, List.set_cons_succ]
        go_simp
        refine hK _ _ ⟨rfl, Kept.refl _, ?_⟩
        show _ = _
        simp only [List.getD_cons_zero, List.getD_cons_succ, Array.getD_eq_getD_getElem?, List.getElem?_toArray, List.getElem?_cons_zero, List.getElem?_cons_succ, Option.getD_some]
        rfl
      case r1o2 =>
        intro w1 hG
        intro v1 h1
        change _ = _ at h1
        subst h1
        refine turn_on (by rfl) ?_
        intro K hK
        simp only [List.getD_cons_zero, List.getD_cons_succ, List.setIfInBounds_toArray, List.set_cons_zero, List.set_cons_succ]
        go_simp
        refine hK _ _ ⟨rfl, Kept.refl _, ?_⟩
        show _ = _
        simp only [List.getD_cons_zero, List.getD_cons_succ, Array.getD_eq_getD_getElem?, List.getElem?_toArray, List.getElem?_cons_zero, List.getElem?_cons_succ, Option.getD_some]
        rfl
      case r1o3 =>
        intro w1 hG
        intro v2 h2
        change _ = _ at h2
        subst h2
        refine turn_on (by rfl) ?_
        intro K hK
        simp only [List.getD_cons_zero, List.getD_cons_succ, List.setIfInBounds_toArray, List.set_cons_zero, List.set_cons_succ]
        obtain ⟨c0, d1, d2, d3, d4, cf⟩ := cells5 (row_keep (w := wq.drew) HROW.out hG)
        clear cf
        go_simp
        refine hK _ _ ⟨rfl, Kept.refl _, ?_⟩
        show _ = _
        simp only [List.getD_cons_zero, List.getD_cons_succ, Array.getD_eq_getD_getElem?, List.getElem?_toArray, List.getElem?_cons_zero, List.getElem?_cons_succ, Option.getD_some]
        rfl
      case r1o4 =>
        intro w1 hG
        refine turn_on (by rfl) ?_
        intro K hK
        go_simp
        refine hK _ _ ⟨rfl, Kept.refl _, ?_⟩
        show _ = _
        simp only [List.getD_cons_zero, List.getD_cons_succ, Array.getD_eq_getD_getElem?, List.getElem?_toArray, List.getElem?_cons_zero, List.getElem?_cons_succ, Option.getD_some]
        rfl
      case r1o5 =>
        intro w1 hG
        intro v4 h4
        change _ = _ at h4
        subst h4
        refine turn_on (by rfl) ?_
        intro K hK
        simp only [List.getD_cons_zero, List.getD_cons_succ, List.setIfInBounds_toArray, List.set_cons_zero, List.set_cons_succ]
        go_simp
        refine hK _ _ ⟨rfl, Kept.refl _, ?_⟩
        show _ = _
        simp only [List.getD_cons_zero, List.getD_cons_succ, Array.getD_eq_getD_getElem?, List.getElem?_toArray, List.getElem?_cons_zero, List.getElem?_cons_succ, Option.getD_some]
        rfl
      case r1o6 =>
        intro w1 hG
        intro v5 h5
        change _ = _ at h5
        subst h5
        refine turn_on (by rfl) ?_
        intro K hK
        simp only [List.getD_cons_zero, List.getD_cons_succ, List.setIfInBounds_toArray, List.set_cons_zero, List.set_cons_succ]
        go_simp
        refine hK _ _ ⟨rfl, Kept.refl _, ?_⟩
        show _ = _
        simp only [List.getD_cons_zero, List.getD_cons_succ, Array.getD_eq_getD_getElem?, List.getElem?_toArray, List.getElem?_cons_zero, List.getElem?_cons_succ, Option.getD_some]
        rfl
      case r1o7 =>
        intro w1 hG
        intro v6 h6
        change _ = _ at h6
        subst h6
        refine turn_on (by rfl) ?_
        intro K hK
        simp only [List.getD_cons_zero, List.getD_cons_succ, List.setIfInBounds_toArray, List.set_cons_zero, List.set_cons_succ]
        obtain ⟨c0, d1, d2, d3, d4, cf⟩ := cells5 (row_keep (w := wq.drew) HROW.out hG)
        clear cf
        go_simp
        refine hK _ _ ⟨rfl, Kept.refl _, ?_⟩
        show _ = _
        simp only [List.getD_cons_zero, List.getD_cons_succ, Array.getD_eq_getD_getElem?, List.getElem?_toArray, List.getElem?_cons_zero, List.getElem?_cons_succ, Option.getD_some]
        rfl
      case r1o8 =>
        intro w1 hG
        intro v3 h3
        change _ = _ at h3
        subst h3
        refine turn_on (by rfl) ?_
        intro K hK
        simp only [List.getD_cons_zero, List.getD_cons_succ, List.setIfInBounds_toArray, List.set_cons_zero, List.set_cons_succ]
        go_simp
        refine hK _ _ ⟨rfl, Kept.refl _, ?_⟩
        show _ = _
        simp only [List.getD_cons_zero, List.getD_cons_succ, Array.getD_eq_getD_getElem?, List.getElem?_toArray, List.getElem?_cons_zero, List.getElem?_cons_succ, Option.getD_some]
        rfl
      case r1o9 =>
        intro w1 hG
        intro v7 h7
        change _ = _ at h7
        subst h7
        refine turn_on (by rfl) ?_
        intro K hK
        simp only [List.getD_cons_zero, List.getD_cons_succ, List.setIfInBounds_toArray, List.set_cons_zero, List.set_cons_succ]
        go_simp
        refine hK _ _ ⟨rfl, Kept.refl _, ?_⟩
        show _ = _
        simp only [List.getD_cons_zero, List.getD_cons_succ, Array.getD_eq_getD_getElem?, List.getElem?_toArray, List.getElem?_cons_zero, List.getElem?_cons_succ, Option.getD_some]
        rfl
      case r1o10 =>
        intro w1 hG
        refine turn_on (by rfl) ?_
        intro K hK
        go_simp
        refine hK _ _ ⟨rfl, Kept.refl _, ?_⟩
        show _ = _
        simp only [List.getD_cons_zero, List.getD_cons_succ, Array.getD_eq_getD_getElem?, List.getElem?_toArray, List.getElem?_cons_zero, List.getElem?_cons_succ, Option.getD_some]
        rfl
    intro w1 hG
    intro v0 h0
    change _ = _ at h0
    subst h0
    intro v1 h1
    change _ = _ at h1
    subst h1
    intro v2 h2
    change _ = _ at h2
    subst h2
    intro v3 h3
    change _ = _ at h3
    subst h3
    intro v4 h4
    change _ = _ at h4
    subst h4
    intro v5 h5
    change _ = _ at h5
    subst h5
    intro v6 h6
    change _ = _ at h6
    subst h6
    intro v7 h7
    change _ = _ at h7
    subst h7
    intro v8 h8
    change _ = _ at h8
    subst h8
    intro v9 h9
    change _ = _ at h9
    subst h9
    intro v10 h10
    change _ = _ at h10
    subst h10
    simp only [Given, List.getD_cons_zero, List.getD_cons_succ, List.setIfInBounds_toArray, List.set_cons_zero, List.set_cons_succ]
    have hb3 : Below w.heap.size w w1 := hb2.drew.trans (Below.mono hG (Nat.le_of_lt hlt))
    go_wp2_with fail
    go_ret3
    exact ⟨by rw [HT.out]; unfold litT copT; rw [HE.out, if_pos rfl, if_pos rfl, HL.out, HK.out]; rfl, hb3⟩
  · have hz2 : (E == 0) = false := beq_eq_false_iff_ne.2 hz
    clear hgood
    go_wp2_with fail
    go_ret3
    exact ⟨by rw [HT.out]; unfold litT copT; rw [HE.out, if_neg hz, if_neg hz]; rfl, hb2⟩
end Go.Proofs.Ytfoabnoolmeoiaa
