/- lz's all: raw bytes. -/
import Derived.Test.YtfoabnoolmeoiaaLzAllLaw
import Derived.Test.YtfoabnoolmeoiaaClone
namespace Go.Proofs.Ytfoabnoolmeoiaa
open Go.RowKit
set_option linter.unusedSimpArgs false in
set_option linter.unusedVariables false in
set_option maxRecDepth 100000 in
set_option maxHeartbeats 2000000 in
theorem all_l2 (h : Nat) (a : Option Addr) (n c : Nat) (x : List Int) (v : Value) (most : Int) (w : World) (r : RdrAt w h a n c x v [] most 0 0) (hn : 1 ≤ n) (hk : nth x 0 = 0) (hc : 1 < c) (hm0 : 0 ≤ most) (hm : most < ((n - 1 : Nat) : Int)) :
    Calls Try.prog 15 #[.pointer (some ⟨h, 0, none⟩)] w fun e w' => e = .returned (.int .i64 24) ∧ Below h w w' := by
  obtain ⟨b, ad, rfl, hcell⟩ := r.rd.cell 0 (by omega)
  rw [hk] at hcell
  have hcell2 := hcell
  rw [Nat.add_zero] at hcell2
  have hcap := r.rd.cap
  have hmax := r.rd.max
  unfold maxLen at hmax
  have hlow := r.low _ rfl (by omega)
  obtain ⟨c0, d1, d2, d3, d4, cf⟩ := cells5 r.row
  have cf0 := cf 0
  have hlt := r.lt
  have R := Lib.hid r
  clear r cf
  have HBB : Hid (RdrAt (w.setCell ⟨h, 0, none⟩ (.slice (some ⟨b, ad + 1, none⟩) (n - 1) (c - 1))) h (some ⟨b, ad + 1, none⟩) (n - 1) (c - 1) (x.drop 1) v [] most 0 0) := R.out.setB (rd_drop R.out.rd 1 (by omega)) (fun q hq _ => by injection hq with hq; subst hq; exact hlow)
  obtain ⟨w1, hw1⟩ : ∃ w1 : World, w1 = w.setCell ⟨h, 0, none⟩ (.slice (some ⟨b, ad + 1, none⟩) (n - 1) (c - 1)) := ⟨_, rfl⟩
  rw [← hw1] at HBB
  have hb1 : Below h w w1 := by rw [hw1]; exact below_cell w h 0 _
  have hnz : (((n : Nat) : Int) == 0) = false := beq_eq_false_iff_ne.2 (by omega)
  go_enter Try.func15, Try.ntmps15
  go_wp2_with fail
  simp only [← hw1]
  clear c0 d1 d2 d3 d4 cf0 hcell hcell2
  have hrow := HBB.out.row
  have hlt1 := HBB.out.lt
  have HROW := Lib.hid hrow
  clear hrow hw1
  have hgt : decide (most < ((n - 1 : Nat) : Int)) = true := decide_eq_true (by omega)
  go_wp2_with fail
  refine' reg_free (G := Kept) (pickF [eqV _, eqV _, eqV _, eqV _, eqV _, eqV _, eqV _, eqV _, eqV _, eqV _]) [28, 29, 30, 31, 32, 33, 34, 35, 36, 37] [[], [0], [1], [2], [3], [], [5], [6], [7], [4, 8]] [0, 1, 2, 3, 4, 5, 6, 7, 8, 9] (by kernel_rfl) Kept.refl Kept.trans (pick_stays ⟨eqV_stays _, eqV_stays _, eqV_stays _, eqV_stays _, eqV_stays _, eqV_stays _, eqV_stays _, eqV_stays _, eqV_stays _, eqV_stays _, trivial⟩) 67 rfl (by kernel_rfl) (by kernel_rfl) rfl rfl ?r3obl ?r3fin
  case r3obl =>
    refine And.intro ?r3o0 (And.intro ?r3o1 (And.intro ?r3o2 (And.intro ?r3o3 (And.intro ?r3o4 (And.intro ?r3o5 (And.intro ?r3o6 (And.intro ?r3o7 (And.intro ?r3o8 (And.intro ?r3o9 (True.intro))))))))))
    case r3o0 =>
      intro w9 hG
      refine turn_on (by rfl) ?_
      intro K hK
      go_simp
      refine hK _ _ ⟨rfl, Kept.refl _, ?_⟩
      show _ = _
      simp only [List.getD_cons_zero, List.getD_cons_succ, Array.getD_eq_getD_getElem?, List.getElem?_toArray, List.getElem?_cons_zero, List.getElem?_cons_succ, Option.getD_some]
      rfl
    case r3o1 =>
      intro w9 hG
      intro v0 h0
      change _ = _ at h0
      subst h0
      refine turn_on (by rfl) ?_
      intro K hK
      simp only [List.getD_cons_zero, List.getD_cons_succ, List.setIfInBounds_toArray, List.set_cons_zero, List.set_cons_succ]
      go_simp
      refine hK _ _ ⟨rfl, Kept.refl _, ?_⟩
      show _ = _
      simp only [List.getD_cons_zero, List.getD_cons_succ, Array.getD_eq_getD_getElem?, List.getElem?_toArray, List.getElem?_cons_zero, List.getElem?_cons_succ, Option.getD_some]
      rfl
    case r3o2 =>
      intro w9 hG
      intro v1 h1
      change _ = _ at h1
      subst h1
      refine turn_on (by rfl) ?_
      intro K hK
      simp only [List.getD_cons_zero, List.getD_cons_succ, List.setIfInBounds_toArray, List.set_cons_zero, List.set_cons_succ]
      go_simp
      refine hK _ _ ⟨rfl, Kept.refl _, ?_⟩
      show _ = _
      simp only [List.getD_cons_zero, List.getD_cons_succ, Array.getD_eq_getD_getElem?, List.getElem?_toArray, List.getElem?_cons_zero, List.getElem?_cons_succ, Option.getD_some]
      rfl
    case r3o3 =>
      intro w9 hG
      intro v2 h2
      change _ = _ at h2
      subst h2
      refine turn_on (by rfl) ?_
      intro K hK
      simp only [List.getD_cons_zero, List.getD_cons_succ, List.setIfInBounds_toArray, List.set_cons_zero, List.set_cons_succ]
      obtain ⟨c0, d1, d2, d3, d4, cf⟩ := cells5 (row_keep (w := w1.drew) HROW.out hG)
      clear cf
      go_simp
      refine hK _ _ ⟨rfl, Kept.refl _, ?_⟩
      show _ = _
      simp only [List.getD_cons_zero, List.getD_cons_succ, Array.getD_eq_getD_getElem?, List.getElem?_toArray, List.getElem?_cons_zero, List.getElem?_cons_succ, Option.getD_some]
      rfl
    case r3o4 =>
      intro w9 hG
      intro v3 h3
      change _ = _ at h3
      subst h3
      refine turn_on (by rfl) ?_
      intro K hK
      simp only [List.getD_cons_zero, List.getD_cons_succ, List.setIfInBounds_toArray, List.set_cons_zero, List.set_cons_succ]
      go_simp
      refine hK _ _ ⟨rfl, Kept.refl _, ?_⟩
      show _ = _
      simp only [List.getD_cons_zero, List.getD_cons_succ, Array.getD_eq_getD_getElem?, List.getElem?_toArray, List.getElem?_cons_zero, List.getElem?_cons_succ, Option.getD_some]
      rfl
    case r3o5 =>
      intro w9 hG
      refine turn_on (by rfl) ?_
      intro K hK
      go_simp
      refine hK _ _ ⟨rfl, Kept.refl _, ?_⟩
      show _ = _
      simp only [List.getD_cons_zero, List.getD_cons_succ, Array.getD_eq_getD_getElem?, List.getElem?_toArray, List.getElem?_cons_zero, List.getElem?_cons_succ, Option.getD_some]
      rfl
    case r3o6 =>
      intro w9 hG
      intro v5 h5
      change _ = _ at h5
      subst h5
      refine turn_on (by rfl) ?_
      intro K hK
      simp only [List.getD_cons_zero, List.getD_cons_succ, List.setIfInBounds_toArray, List.set_cons_zero, List.set_cons_succ]
      go_simp
      refine hK _ _ ⟨rfl, Kept.refl _, ?_⟩
      show _ = _
      simp only [List.getD_cons_zero, List.getD_cons_succ, Array.getD_eq_getD_getElem?, List.getElem?_toArray, List.getElem?_cons_zero, List.getElem?_cons_succ, Option.getD_some]
      rfl
    case r3o7 =>
      intro w9 hG
      intro v6 h6
      change _ = _ at h6
      subst h6
      refine turn_on (by rfl) ?_
      intro K hK
      simp only [List.getD_cons_zero, List.getD_cons_succ, List.setIfInBounds_toArray, List.set_cons_zero, List.set_cons_succ]
      go_simp
      refine hK _ _ ⟨rfl, Kept.refl _, ?_⟩
      show _ = _
      simp only [List.getD_cons_zero, List.getD_cons_succ, Array.getD_eq_getD_getElem?, List.getElem?_toArray, List.getElem?_cons_zero, List.getElem?_cons_succ, Option.getD_some]
      rfl
    case r3o8 =>
      intro w9 hG
      intro v7 h7
      change _ = _ at h7
      subst h7
      refine turn_on (by rfl) ?_
      intro K hK
      simp only [List.getD_cons_zero, List.getD_cons_succ, List.setIfInBounds_toArray, List.set_cons_zero, List.set_cons_succ]
      obtain ⟨c0, d1, d2, d3, d4, cf⟩ := cells5 (row_keep (w := w1.drew) HROW.out hG)
      clear cf
      go_simp
      refine hK _ _ ⟨rfl, Kept.refl _, ?_⟩
      show _ = _
      simp only [List.getD_cons_zero, List.getD_cons_succ, Array.getD_eq_getD_getElem?, List.getElem?_toArray, List.getElem?_cons_zero, List.getElem?_cons_succ, Option.getD_some]
      rfl
    case r3o9 =>
      intro w9 hG
      intro v4 h4
      change _ = _ at h4
      subst h4
      intro v8 h8
      change _ = _ at h8
      subst h8
      refine turn_on (by rfl) ?_
      intro K hK
      simp only [List.getD_cons_zero, List.getD_cons_succ, List.setIfInBounds_toArray, List.set_cons_zero, List.set_cons_succ]
      go_simp
      refine hK _ _ ⟨rfl, Kept.refl _, ?_⟩
      show _ = _
      simp only [List.getD_cons_zero, List.getD_cons_succ, Array.getD_eq_getD_getElem?, List.getElem?_toArray, List.getElem?_cons_zero, List.getElem?_cons_succ, Option.getD_some]
      rfl
  intro w9 hG
  intro v0 h0
  change _ = _ at h0
  subst h0
  intro v1 h1
  change _ = _ at h1
  subst h1
  intro v2 h2
  change _ = _ at h2
  subst h2
  intro v3 h3
  change _ = _ at h3
  subst h3
  intro v4 h4
  change _ = _ at h4
  subst h4
  intro v5 h5
  change _ = _ at h5
  subst h5
  intro v6 h6
  change _ = _ at h6
  subst h6
  intro v7 h7
  change _ = _ at h7
  subst h7
  intro v8 h8
  change _ = _ at h8
  subst h8
  intro v9 h9
  change _ = _ at h9
  subst h9
  simp only [Given, List.getD_cons_zero, List.getD_cons_succ, List.setIfInBounds_toArray, List.set_cons_zero, List.set_cons_succ]
  have hb9 : Below h w w9 := hb1.drew.trans (Below.mono hG (Nat.le_of_lt hlt1))
  have r9 : RdrAt w9 h (some ⟨b, ad + 1, none⟩) (n - 1) (c - 1) (x.drop 1) v [] most 0 0 := ⟨row_keep (w := w1.drew) HROW.out hG, HBB.out.rd.keptW hG, HBB.out.low, HBB.out.own.keptD hG⟩
  have R9 := Lib.hid r9
  clear r9 hG hb1
  go_wp2_with fail
  go_ret
  exact ⟨rfl, hb9⟩
set_option linter.unusedSimpArgs false in
set_option linter.unusedVariables false in
set_option maxRecDepth 100000 in
set_option maxHeartbeats 2000000 in
theorem all_r1 (h : Nat) (a : Option Addr) (n c : Nat) (x : List Int) (v : Value) (most : Int) (w : World) (r : RdrAt w h a n c x v [] most 0 0) (hn : 1 ≤ n) (hk : nth x 0 = 0) (hc : c = 1) (hm0 : 0 ≤ most) (hmm : most ≤ 2097152) (hm : ((n - 1 : Nat) : Int) ≤ most) :
    Calls Try.prog 15 #[.pointer (some ⟨h, 0, none⟩)] w fun e w' => e = .returned (.int .i64 0) ∧ Below h w w' ∧ ∃ a' n' c' x' v', RdrAt w' h a' n' c' x' v' (x.drop 1) most ((n - 1 : Nat) : Int) 0 := by
  obtain ⟨b, ad, rfl, hcell⟩ := r.rd.cell 0 (by omega)
  rw [hk] at hcell
  have hcell2 := hcell
  rw [Nat.add_zero] at hcell2
  have hcap := r.rd.cap
  have hmax := r.rd.max
  unfold maxLen at hmax
  have hlow := r.low _ rfl (by omega)
  obtain ⟨c0, d1, d2, d3, d4, cf⟩ := cells5 r.row
  have cf0 := cf 0
  have hlt := r.lt
  have R := Lib.hid r
  clear r cf
  obtain rfl : n = 1 := by omega
  subst hc
  have HBB : Hid (RdrAt (w.setCell ⟨h, 0, none⟩ (.slice (some ⟨b, ad, none⟩) 0 0)) h (some ⟨b, ad, none⟩) 0 0 (x.drop 1) v [] most 0 0) := R.out.setB (by rw [List.drop_of_length_le (by rw [R.out.rd.len]; omega)]; exact rd_empty _ _ (by simp) (by unfold maxLen; omega)) (fun q hq hn => by omega)
  obtain ⟨w1, hw1⟩ : ∃ w1 : World, w1 = w.setCell ⟨h, 0, none⟩ (.slice (some ⟨b, ad, none⟩) 0 0) := ⟨_, rfl⟩
  rw [← hw1] at HBB
  have hb1 : Below h w w1 := by rw [hw1]; exact below_cell w h 0 _
  have hnz : (((1 : Nat) : Int) == 0) = false := beq_eq_false_iff_ne.2 (by omega)
  go_enter Try.func15, Try.ntmps15
  go_wp2_with fail
  simp only [← hw1]
  clear c0 d1 d2 d3 d4 cf0 hcell hcell2
  have hrow := HBB.out.row
  have hlt1 := HBB.out.lt
  have HROW := Lib.hid hrow
  clear hrow hw1
  have hgt : decide (most < 0) = false := decide_eq_false (by omega)
  go_wp2_with fail
  refine' reg_free (G := Kept) (pickF [eqV _, eqV _, eqV _, eqV _, eqV _, eqV _, eqV _, eqV _, eqV _, eqV _]) [28, 29, 30, 31, 32, 33, 34, 35, 36, 37] [[], [0], [1], [2], [3], [], [5], [6], [7], [4, 8]] [0, 1, 2, 3, 4, 5, 6, 7, 8, 9] (by kernel_rfl) Kept.refl Kept.trans (pick_stays ⟨eqV_stays _, eqV_stays _, eqV_stays _, eqV_stays _, eqV_stays _, eqV_stays _, eqV_stays _, eqV_stays _, eqV_stays _, eqV_stays _, trivial⟩) 67 rfl (by kernel_rfl) (by kernel_rfl) rfl rfl ?r4obl ?r4fin
  case r4obl =>
    refine And.intro ?r4o0 (And.intro ?r4o1 (And.intro ?r4o2 (And.intro ?r4o3 (And.intro ?r4o4 (And.intro ?r4o5 (And.intro ?r4o6 (And.intro ?r4o7 (And.intro ?r4o8 (And.intro ?r4o9 (True.intro))))))))))
    case r4o0 =>
      intro w9 hG
      refine turn_on (by rfl) ?_
      intro K hK
      go_simp
      refine hK _ _ ⟨rfl, Kept.refl _, ?_⟩
      show _ = _
      simp only [List.getD_cons_zero, List.getD_cons_succ, Array.getD_eq_getD_getElem?, List.getElem?_toArray, List.getElem?_cons_zero, List.getElem?_cons_succ, Option.getD_some]
      rfl
    case r4o1 =>
      intro w9 hG
      intro v0 h0
      change _ = _ at h0
      subst h0
      refine turn_on (by rfl) ?_
      intro K hK
      simp only [List.getD_cons_zero, List.getD_cons_succ, List.setIfInBounds_toArray, List.set_cons_zero, List.set_cons_succ]
      go_simp
      refine hK _ _ ⟨rfl, Kept.refl _, ?_⟩
      show _ = _
      simp only [List.getD_cons_zero, List.getD_cons_succ, Array.getD_eq_getD_getElem?, List.getElem?_toArray, List.getElem?_cons_zero, List.getElem?_cons_succ, Option.getD_some]
      rfl
    case r4o2 =>
      intro w9 hG
      intro v1 h1
      change _ = _ at h1
      subst h1
      refine turn_on (by rfl) ?_
      intro K hK
      simp only [List.getD_cons_zero, List.getD_cons_succ, List.setIfInBounds_toArray, List.set_cons_zero, List.set_cons_succ]
      go_simp
      refine hK _ _ ⟨rfl, Kept.refl _, ?_⟩
      show _ = _
      simp only [List.getD_cons_zero, List.getD_cons_succ, Array.getD_eq_getD_getElem?, List.getElem?_toArray, List.getElem?_cons_zero, List.getElem?_cons_succ, Option.getD_some]
      rfl
    case r4o3 =>
      intro w9 hG
      intro v2 h2
      change _ = _ at h2
      subst h2
      refine turn_on (by rfl) ?_
      intro K hK
      simp only [List.getD_cons_zero, List.getD_cons_succ, List.setIfInBounds_toArray, List.set_cons_zero, List.set_cons_succ]
      obtain ⟨c0, d1, d2, d3, d4, cf⟩ := cells5 (row_keep (w := w1.drew) HROW.out hG)
      clear cf
      go_simp
      refine hK _ _ ⟨rfl, Kept.refl _, ?_⟩
      show _ = _
      simp only [List.getD_cons_zero, List.getD_cons_succ, Array.getD_eq_getD_getElem?, List.getElem?_toArray, List.getElem?_cons_zero, List.getElem?_cons_succ, Option.getD_some]
      rfl
    case r4o4 =>
      intro w9 hG
      intro v3 h3
      change _ = _ at h3
      subst h3
      refine turn_on (by rfl) ?_
      intro K hK
      simp only [List.getD_cons_zero, List.getD_cons_succ, List.setIfInBounds_toArray, List.set_cons_zero, List.set_cons_succ]
      go_simp
      refine hK _ _ ⟨rfl, Kept.refl _, ?_⟩
      show _ = _
      simp only [List.getD_cons_zero, List.getD_cons_succ, Array.getD_eq_getD_getElem?, List.getElem?_toArray, List.getElem?_cons_zero, List.getElem?_cons_succ, Option.getD_some]
      rfl
    case r4o5 =>
      intro w9 hG
      refine turn_on (by rfl) ?_
      intro K hK
      go_simp
      refine hK _ _ ⟨rfl, Kept.refl _, ?_⟩
      show _ = _
      simp only [List.getD_cons_zero, List.getD_cons_succ, Array.getD_eq_getD_getElem?, List.getElem?_toArray, List.getElem?_cons_zero, List.getElem?_cons_succ, Option.getD_some]
      rfl
    case r4o6 =>
      intro w9 hG
      intro v5 h5
      change _ = _ at h5
      subst h5
      refine turn_on (by rfl) ?_
      intro K hK
      simp only [List.getD_cons_zero, List.getD_cons_succ, List.setIfInBounds_toArray, List.set_cons_zero, List.set_cons_succ]
      go_simp
      refine hK _ _ ⟨rfl, Kept.refl _, ?_⟩
      show _ = _
      simp only [List.getD_cons_zero, List.getD_cons_succ, Array.getD_eq_getD_getElem?, List.getElem?_toArray, List.getElem?_cons_zero, List.getElem?_cons_succ, Option.getD_some]
      rfl
    case r4o7 =>
      intro w9 hG
      intro v6 h6
      change _ = _ at h6
      subst h6
      refine turn_on (by rfl) ?_
      intro K hK
      simp only [List.getD_cons_zero, List.getD_cons_succ, List.setIfInBounds_toArray, List.set_cons_zero, List.set_cons_succ]
      go_simp
      refine hK _ _ ⟨rfl, Kept.refl _, ?_⟩
      show _ = _
      simp only [List.getD_cons_zero, List.getD_cons_succ, Array.getD_eq_getD_getElem?, List.getElem?_toArray, List.getElem?_cons_zero, List.getElem?_cons_succ, Option.getD_some]
      rfl
    case r4o8 =>
      intro w9 hG
      intro v7 h7
      change _ = _ at h7
      subst h7
      refine turn_on (by rfl) ?_
      intro K hK
      simp only [List.getD_cons_zero, List.getD_cons_succ, List.setIfInBounds_toArray, List.set_cons_zero, List.set_cons_succ]
      obtain ⟨c0, d1, d2, d3, d4, cf⟩ := cells5 (row_keep (w := w1.drew) HROW.out hG)
      clear cf
      go_simp
      refine hK _ _ ⟨rfl, Kept.refl _, ?_⟩
      show _ = _
      simp only [List.getD_cons_zero, List.getD_cons_succ, Array.getD_eq_getD_getElem?, List.getElem?_toArray, List.getElem?_cons_zero, List.getElem?_cons_succ, Option.getD_some]
      rfl
    case r4o9 =>
      intro w9 hG
      intro v4 h4
      change _ = _ at h4
      subst h4
      intro v8 h8
      change _ = _ at h8
      subst h8
      refine turn_on (by rfl) ?_
      intro K hK
      simp only [List.getD_cons_zero, List.getD_cons_succ, List.setIfInBounds_toArray, List.set_cons_zero, List.set_cons_succ]
      go_simp
      refine hK _ _ ⟨rfl, Kept.refl _, ?_⟩
      show _ = _
      simp only [List.getD_cons_zero, List.getD_cons_succ, Array.getD_eq_getD_getElem?, List.getElem?_toArray, List.getElem?_cons_zero, List.getElem?_cons_succ, Option.getD_some]
      rfl
  intro w9 hG
  intro v0 h0
  change _ = _ at h0
  subst h0
  intro v1 h1
  change _ = _ at h1
  subst h1
  intro v2 h2
  change _ = _ at h2
  subst h2
  intro v3 h3
  change _ = _ at h3
  subst h3
  intro v4 h4
  change _ = _ at h4
  subst h4
  intro v5 h5
  change _ = _ at h5
  subst h5
  intro v6 h6
  change _ = _ at h6
  subst h6
  intro v7 h7
  change _ = _ at h7
  subst h7
  intro v8 h8
  change _ = _ at h8
  subst h8
  intro v9 h9
  change _ = _ at h9
  subst h9
  simp only [Given, List.getD_cons_zero, List.getD_cons_succ, List.setIfInBounds_toArray, List.set_cons_zero, List.set_cons_succ]
  have hb9 : Below h w w9 := hb1.drew.trans (Below.mono hG (Nat.le_of_lt hlt1))
  have r9 : RdrAt w9 h (some ⟨b, ad, none⟩) 0 0 (x.drop 1) v [] most 0 0 := ⟨row_keep (w := w1.drew) HROW.out hG, HBB.out.rd.keptW hG, HBB.out.low, HBB.out.own.keptD hG⟩
  have R9 := Lib.hid r9
  clear r9 hG hb1
  go_wp2_with fail
  obtain ⟨w0, hw0⟩ : ∃ w0 : World, w0 = w9 := ⟨_, rfl⟩
  have hsz0 : w0.heap.size = w9.heap.size := by rw [hw0]
  have hlt9 : h < w9.heap.size := R9.out.lt
  have hlt0 : h ≤ w0.heap.size := by omega
  have hlt2 : h < w9.drew.heap.size := hlt9
  have hrow0 := R9.out.row
  have hrow : w9.drew.heap[h]? = some (.cells #[.slice (some ⟨b, ad, none⟩) 0 0, v, .int .i64 most, .int .i64 0, .int .i64 0] 43 (0, 0)) := hrow0
  have hrd0 : RdAt .u8 w9.drew (some ⟨b, ad, none⟩) 0 0 (x.drop 1) := rd_low R9.out.rd R9.out.low (Below.refl h w9).drew
  have hB0 : Below h w0 w9.drew := by rw [hw0]; exact (Below.refl h w9).drew
  refine' reg_order [eqV _, eqV _, eqV _, eqV _, eqV _, eqV _, (fun v' w => Owns .u8 5 w (h + 1) v' (x.drop 1)), eqV _, eqV _, eqV _, eqV _, eqV _, eqV _, eqV _, (fun _ w => ∃ (v' : Value) (l : Int), w.heap[h]? = some (.cells #[.slice (some ⟨b, ad, none⟩) 0 0, v', .int .i64 most, .int .i64 l, .int .i64 0] 43 (0, 0)) ∧ Owns .u8 5 w (h + 1) v' (x.drop 1)), eqV _, eqV _, (fun _ w => ∃ (v' : Value), w.heap[h]? = some (.cells #[.slice (some ⟨b, ad, none⟩) 0 0, v', .int .i64 most, .int .i64 0, .int .i64 0] 43 (0, 0)) ∧ Owns .u8 5 w (h + 1) v' (x.drop 1))] [(14, fun w w' => World.grownBy w w' (some h)), (17, fun w w' => w' = w.setCell ⟨h, 3, none⟩ (.int .i64 0))] [(5, fun w => w.heap[h]? = some (.cells #[.slice (some ⟨b, ad, none⟩) 0 0, v, .int .i64 most, .int .i64 0, .int .i64 0] 43 (0, 0))), (6, fun w => RdAt .u8 w (some ⟨b, ad, none⟩) 0 0 (x.drop 1) ∧ h < w.heap.size), (10, fun w => w.heap[h]? = some (.cells #[.slice (some ⟨b, ad, none⟩) 0 0, v, .int .i64 most, .int .i64 0, .int .i64 0] 43 (0, 0))), (14, fun w => w.heap[h]? = some (.cells #[.slice (some ⟨b, ad, none⟩) 0 0, v, .int .i64 most, .int .i64 0, .int .i64 0] 43 (0, 0))), (18, fun w => Below h w0 w)] [38, 39, 40, 41, 42, 43, 44, 45, 46, 47, 48, 49, 50, 51, 81, 52, 53, 84] [[], [], [], [2], [3], [4], [5], [], [7], [8], [9], [10], [0], [12], [6, 13], [1], [15], [11, 14, 16]] [0, 1, 2, 3, 4, 5, 6, 7, 8, 9, 10, 11, 12, 13, 14, 15, 16, 17] 18 (by kernel_rfl) ⟨eqV_stays _, eqV_stays _, eqV_stays _, eqV_stays _, eqV_stays _, eqV_stays _, fun _ _ _ p b => Owns.below p b, eqV_stays _, eqV_stays _, eqV_stays _, eqV_stays _, eqV_stays _, eqV_stays _, eqV_stays _, fun _ _ _ ⟨y, l, p, q⟩ b => ⟨y, l, row_keep p b, Owns.below q b⟩, eqV_stays _, eqV_stays _, fun _ _ _ ⟨y, p, q⟩ b => ⟨y, row_keep p b, Owns.below q b⟩, trivial⟩ ⟨⟨.inl (eqV_stays _), .inl (eqV_stays _), .inl (eqV_stays _), .inl (eqV_stays _), .inl (eqV_stays _), .inl (eqV_stays _), .inl (fun _ _ _ p g => Owns.grown p g (fun b hb e => room_ne p (by rw [hb, e]))), .inl (eqV_stays _), .inl (eqV_stays _), .inl (eqV_stays _), .inl (eqV_stays _), .inl (eqV_stays _), .inl (eqV_stays _), .inl (eqV_stays _), .inr (.inr rfl), .inl (eqV_stays _), .inl (eqV_stays _), .inr (.inl (by kernel_rfl)), trivial⟩, ⟨.inl (eqV_stays _), .inl (eqV_stays _), .inl (eqV_stays _), .inl (eqV_stays _), .inl (eqV_stays _), .inl (eqV_stays _), .inl (fun _ _ _ p g => by rw [g]; exact own_cell p _ _), .inl (eqV_stays _), .inl (eqV_stays _), .inl (eqV_stays _), .inl (eqV_stays _), .inl (eqV_stays _), .inl (eqV_stays _), .inl (eqV_stays _), .inl (fun _ _ _ ⟨y, l, p, q⟩ g => by rw [g]; exact ⟨y, _, heap_setCell_same _ _ _ _ _ _ p, own_cell q _ _⟩), .inl (eqV_stays _), .inl (eqV_stays _), .inr (.inr rfl), trivial⟩, trivial⟩ ⟨fun _ _ p b => row_keep p b, fun _ _ p b => ⟨p.1.below b, Nat.lt_of_lt_of_le p.2 b.size⟩, fun _ _ p b => row_keep p b, fun _ _ p b => row_keep p b, fun _ _ p b => p.trans (Below.mono b (Nat.le_trans hlt0 p.size)), trivial⟩ ⟨⟨.inr (.inl (by kernel_rfl)), .inr (.inl (by kernel_rfl)), .inr (.inl (by kernel_rfl)), .inr (.inr rfl), .inl (fun _ _ p g => p.grown g (Nat.le_trans hlt0 p.size) (fun q hq => by injection hq with hq; omega)), trivial⟩, ⟨.inr (.inl (by kernel_rfl)), .inr (.inl (by kernel_rfl)), .inr (.inl (by kernel_rfl)), .inr (.inl (by kernel_rfl)), .inl (fun _ _ p g => by rw [g]; exact p.trans (below_cell _ _ _ _)), trivial⟩, trivial⟩ ⟨hrow, ⟨hrd0, hlt2⟩, hrow, hrow, hB0, trivial⟩ 67 rfl (by kernel_rfl) (by kernel_rfl) rfl rfl 18 rfl ?q5obl ?q5fin
  case q5obl =>
    refine And.intro ?q5o0 (And.intro ?q5o1 (And.intro ?q5o2 (And.intro ?q5o3 (And.intro ?q5o4 (And.intro ?q5o5 (And.intro ?q5o6 (And.intro ?q5o7 (And.intro ?q5o8 (And.intro ?q5o9 (And.intro ?q5o10 (And.intro ?q5o11 (And.intro ?q5o12 (And.intro ?q5o13 (And.intro ?q5o14 (And.intro ?q5o15 (And.intro ?q5o16 (And.intro ?q5o17 (True.intro))))))))))))))))))
    case q5o0 =>
      intro w1 hI
      refine turn2_on (by rfl) ?_
      intro K hK
      go_simp
      refine hK _ _ ⟨rfl, Kept.refl _, ?_⟩
      show _ = _
      simp only [List.getD_cons_zero, List.getD_cons_succ, Array.getD_eq_getD_getElem?, List.getElem?_toArray, List.getElem?_cons_zero, List.getElem?_cons_succ, Option.getD_some]
      rfl
    case q5o1 =>
      intro w1 hI
      refine turn2_on (by rfl) ?_
      intro K hK
      go_simp
      refine hK _ _ ⟨rfl, Kept.refl _, ?_⟩
      show _ = _
      simp only [List.getD_cons_zero, List.getD_cons_succ, Array.getD_eq_getD_getElem?, List.getElem?_toArray, List.getElem?_cons_zero, List.getElem?_cons_succ, Option.getD_some]
      rfl
    case q5o2 =>
      intro w1 hI
      refine turn2_on (by rfl) ?_
      intro K hK
      go_simp
      refine hK _ _ ⟨rfl, Kept.refl _, ?_⟩
      show _ = _
      simp only [List.getD_cons_zero, List.getD_cons_succ, Array.getD_eq_getD_getElem?, List.getElem?_toArray, List.getElem?_cons_zero, List.getElem?_cons_succ, Option.getD_some]
      rfl
    case q5o3 =>
      intro w1 hI
      intro v2 h2
      change _ = _ at h2
      subst v2
      refine turn2_on (by rfl) ?_
      intro K hK
      simp only [List.getD_cons_zero, List.getD_cons_succ, List.setIfInBounds_toArray, List.set_cons_zero, List.set_cons_succ]
      go_simp
      refine hK _ _ ⟨rfl, Kept.refl _, ?_⟩
      show _ = _
      simp only [List.getD_cons_zero, List.getD_cons_succ, Array.getD_eq_getD_getElem?, List.getElem?_toArray, List.getElem?_cons_zero, List.getElem?_cons_succ, Option.getD_some]
      rfl
    case q5o4 =>
      intro w1 hI
      intro v3 h3
      change _ = _ at h3
      subst v3
      refine turn2_on (by rfl) ?_
      intro K hK
      simp only [List.getD_cons_zero, List.getD_cons_succ, List.setIfInBounds_toArray, List.set_cons_zero, List.set_cons_succ]
      go_simp
      refine hK _ _ ⟨rfl, Kept.refl _, ?_⟩
      show _ = _
      simp only [List.getD_cons_zero, List.getD_cons_succ, Array.getD_eq_getD_getElem?, List.getElem?_toArray, List.getElem?_cons_zero, List.getElem?_cons_succ, Option.getD_some]
      rfl
    case q5o5 =>
      intro w1 hI
      replace hI : (fun w => w.heap[h]? = some (.cells #[.slice (some ⟨b, ad, none⟩) 0 0, v, .int .i64 most, .int .i64 0, .int .i64 0] 43 (0, 0))) w1 := hI
      intro v4 h4
      change _ = _ at h4
      subst v4
      refine turn2_on (by rfl) ?_
      intro K hK
      simp only [List.getD_cons_zero, List.getD_cons_succ, List.setIfInBounds_toArray, List.set_cons_zero, List.set_cons_succ]
      obtain ⟨c0, c1, c2, c3, c4, cf⟩ := cells5 hI
      go_simp
      refine hK _ _ ⟨rfl, Kept.refl _, ?_⟩
      show _ = _
      simp only [List.getD_cons_zero, List.getD_cons_succ, Array.getD_eq_getD_getElem?, List.getElem?_toArray, List.getElem?_cons_zero, List.getElem?_cons_succ, Option.getD_some]
      rfl
    case q5o6 =>
      intro w1 hI
      replace hI : (fun w => RdAt .u8 w (some ⟨b, ad, none⟩) 0 0 (x.drop 1) ∧ h < w.heap.size) w1 := hI
      intro v5 h5
      change _ = _ at h5
      subst v5
      refine turn2_on (by rfl) ?_
      intro K hK
      simp only [List.getD_cons_zero, List.getD_cons_succ, List.setIfInBounds_toArray, List.set_cons_zero, List.set_cons_succ]
      obtain ⟨hrd, hhl⟩ := hI
      go_simp
      refine Calls.mono (clone_any _ _ _ _ _ hrd (by omega)) ?_
      rintro e w2 ⟨vv, rfl, hov, hbx⟩
      refine hK _ _ ⟨rfl, hbx, ?_⟩
      show Owns _ _ _ _ _ _
      simp only [List.getD_cons_zero, List.getD_cons_succ, Array.getD_eq_getD_getElem?, List.getElem?_toArray, List.getElem?_cons_zero, List.getElem?_cons_succ, Option.getD_some]
      exact hov.mono (by omega)
    case q5o7 =>
      intro w1 hI
      refine turn2_on (by rfl) ?_
      intro K hK
      go_simp
      refine hK _ _ ⟨rfl, Kept.refl _, ?_⟩
      show _ = _
      simp only [List.getD_cons_zero, List.getD_cons_succ, Array.getD_eq_getD_getElem?, List.getElem?_toArray, List.getElem?_cons_zero, List.getElem?_cons_succ, Option.getD_some]
      rfl
    case q5o8 =>
      intro w1 hI
      intro v7 h7
      change _ = _ at h7
      subst v7
      refine turn2_on (by rfl) ?_
      intro K hK
      simp only [List.getD_cons_zero, List.getD_cons_succ, List.setIfInBounds_toArray, List.set_cons_zero, List.set_cons_succ]
      go_simp
      refine hK _ _ ⟨rfl, Kept.refl _, ?_⟩
      show _ = _
      simp only [List.getD_cons_zero, List.getD_cons_succ, Array.getD_eq_getD_getElem?, List.getElem?_toArray, List.getElem?_cons_zero, List.getElem?_cons_succ, Option.getD_some]
      rfl
    case q5o9 =>
      intro w1 hI
      intro v8 h8
      change _ = _ at h8
      subst v8
      refine turn2_on (by rfl) ?_
      intro K hK
      simp only [List.getD_cons_zero, List.getD_cons_succ, List.setIfInBounds_toArray, List.set_cons_zero, List.set_cons_succ]
      go_simp
      refine hK _ _ ⟨rfl, Kept.refl _, ?_⟩
      show _ = _
      simp only [List.getD_cons_zero, List.getD_cons_succ, Array.getD_eq_getD_getElem?, List.getElem?_toArray, List.getElem?_cons_zero, List.getElem?_cons_succ, Option.getD_some]
      rfl
    case q5o10 =>
      intro w1 hI
      replace hI : (fun w => w.heap[h]? = some (.cells #[.slice (some ⟨b, ad, none⟩) 0 0, v, .int .i64 most, .int .i64 0, .int .i64 0] 43 (0, 0))) w1 := hI
      intro v9 h9
      change _ = _ at h9
      subst v9
      refine turn2_on (by rfl) ?_
      intro K hK
      simp only [List.getD_cons_zero, List.getD_cons_succ, List.setIfInBounds_toArray, List.set_cons_zero, List.set_cons_succ]
      obtain ⟨c0, c1, c2, c3, c4, cf⟩ := cells5 hI
      go_simp
      refine hK _ _ ⟨rfl, Kept.refl _, ?_⟩
      show _ = _
      simp only [List.getD_cons_zero, List.getD_cons_succ, Array.getD_eq_getD_getElem?, List.getElem?_toArray, List.getElem?_cons_zero, List.getElem?_cons_succ, Option.getD_some]
      rfl
    case q5o11 =>
      intro w1 hI
      intro v10 h10
      change _ = _ at h10
      subst v10
      refine turn2_on (by rfl) ?_
      intro K hK
      simp only [List.getD_cons_zero, List.getD_cons_succ, List.setIfInBounds_toArray, List.set_cons_zero, List.set_cons_succ]
      go_simp
      refine hK _ _ ⟨rfl, Kept.refl _, ?_⟩
      show _ = _
      simp only [List.getD_cons_zero, List.getD_cons_succ, Array.getD_eq_getD_getElem?, List.getElem?_toArray, List.getElem?_cons_zero, List.getElem?_cons_succ, Option.getD_some]
      rfl
    case q5o12 =>
      intro w1 hI
      intro v0 h0
      change _ = _ at h0
      subst v0
      refine turn2_on (by rfl) ?_
      intro K hK
      simp only [List.getD_cons_zero, List.getD_cons_succ, List.setIfInBounds_toArray, List.set_cons_zero, List.set_cons_succ]
      go_simp
      refine hK _ _ ⟨rfl, Kept.refl _, ?_⟩
      show _ = _
      simp only [List.getD_cons_zero, List.getD_cons_succ, Array.getD_eq_getD_getElem?, List.getElem?_toArray, List.getElem?_cons_zero, List.getElem?_cons_succ, Option.getD_some]
      rfl
    case q5o13 =>
      intro w1 hI
      intro v12 h12
      change _ = _ at h12
      subst v12
      refine turn2_on (by rfl) ?_
      intro K hK
      simp only [List.getD_cons_zero, List.getD_cons_succ, List.setIfInBounds_toArray, List.set_cons_zero, List.set_cons_succ]
      go_simp
      refine hK _ _ ⟨rfl, Kept.refl _, ?_⟩
      show _ = _
      simp only [List.getD_cons_zero, List.getD_cons_succ, Array.getD_eq_getD_getElem?, List.getElem?_toArray, List.getElem?_cons_zero, List.getElem?_cons_succ, Option.getD_some]
      rfl
    case q5o14 =>
      intro w1 hI
      replace hI : (fun w => w.heap[h]? = some (.cells #[.slice (some ⟨b, ad, none⟩) 0 0, v, .int .i64 most, .int .i64 0, .int .i64 0] 43 (0, 0))) w1 := hI
      intro v6 h6
      intro v13 h13
      change _ = _ at h13
      subst v13
      refine turn2_on (by rfl) ?_
      intro K hK
      simp only [List.getD_cons_zero, List.getD_cons_succ, List.setIfInBounds_toArray, List.set_cons_zero, List.set_cons_succ]
      obtain ⟨c0, c1, c2, c3, c4, cf⟩ := cells5 hI
      have cf1 := cf 1
      clear cf
      obtain ⟨z9, hz9⟩ : ∃ z9, ((x.drop 1)).length = z9 := ⟨_, rfl⟩
      obtain ⟨av2, cv2, rfl⟩ := Owns.shapeN h6 z9 hz9
      clear hz9
      go_simp
      refine hK _ _ ⟨rfl, cell_grown _ _ _ _, ?_⟩
      exact ⟨_, _, heap_setCell_same _ _ _ _ _ _ hI, own_cell h6 _ _⟩
    case q5o15 =>
      intro w1 hI
      intro v1 h1
      change _ = _ at h1
      subst v1
      refine turn2_on (by rfl) ?_
      intro K hK
      simp only [List.getD_cons_zero, List.getD_cons_succ, List.setIfInBounds_toArray, List.set_cons_zero, List.set_cons_succ]
      go_simp
      refine hK _ _ ⟨rfl, Kept.refl _, ?_⟩
      show _ = _
      simp only [List.getD_cons_zero, List.getD_cons_succ, Array.getD_eq_getD_getElem?, List.getElem?_toArray, List.getElem?_cons_zero, List.getElem?_cons_succ, Option.getD_some]
      rfl
    case q5o16 =>
      intro w1 hI
      intro v15 h15
      change _ = _ at h15
      subst v15
      refine turn2_on (by rfl) ?_
      intro K hK
      simp only [List.getD_cons_zero, List.getD_cons_succ, List.setIfInBounds_toArray, List.set_cons_zero, List.set_cons_succ]
      go_simp
      refine hK _ _ ⟨rfl, Kept.refl _, ?_⟩
      show _ = _
      simp only [List.getD_cons_zero, List.getD_cons_succ, Array.getD_eq_getD_getElem?, List.getElem?_toArray, List.getElem?_cons_zero, List.getElem?_cons_succ, Option.getD_some]
      rfl
    case q5o17 =>
      intro w1 hI
      intro v11 h11
      change _ = _ at h11
      subst v11
      intro v14 h14
      intro v16 h16
      change _ = _ at h16
      subst v16
      refine turn2_on (by rfl) ?_
      intro K hK
      simp only [List.getD_cons_zero, List.getD_cons_succ, List.setIfInBounds_toArray, List.set_cons_zero, List.set_cons_succ]
      obtain ⟨y14, l14, p14, q14⟩ := h14
      obtain ⟨c0, c1, c2, c3, c4, cf⟩ := cells5 p14
      have cf3 := cf 3
      clear cf
      go_simp
      refine hK _ _ ⟨rfl, rfl, ?_⟩
      exact ⟨_, heap_setCell_same _ _ _ _ _ _ p14, own_cell q14 _ _⟩
  intro w1 hI
  replace hI : (fun w => Below h w0 w) w1 := hI
  intro v0 h0
  change _ = _ at h0
  subst v0
  intro v1 h1
  change _ = _ at h1
  subst v1
  intro v2 h2
  change _ = _ at h2
  subst v2
  intro v3 h3
  change _ = _ at h3
  subst v3
  intro v4 h4
  change _ = _ at h4
  subst v4
  intro v5 h5
  change _ = _ at h5
  subst v5
  intro v6 h6
  intro v7 h7
  change _ = _ at h7
  subst v7
  intro v8 h8
  change _ = _ at h8
  subst v8
  intro v9 h9
  change _ = _ at h9
  subst v9
  intro v10 h10
  change _ = _ at h10
  subst v10
  intro v11 h11
  change _ = _ at h11
  subst v11
  intro v12 h12
  change _ = _ at h12
  subst v12
  intro v13 h13
  change _ = _ at h13
  subst v13
  intro v14 h14
  intro v15 h15
  change _ = _ at h15
  subst v15
  intro v16 h16
  change _ = _ at h16
  subst v16
  intro v17 h17
  simp only [Given, List.getD_cons_zero, List.getD_cons_succ, List.setIfInBounds_toArray, List.set_cons_zero, List.set_cons_succ]
  obtain ⟨v', hrow', hown'⟩ := h17
  have hI2 : Below h w9 w1 := by rw [← hw0]; exact hI
  have R6 : Hid (RdrAt w1 h (some ⟨b, ad, none⟩) 0 0 (x.drop 1) v' (x.drop 1) most ((0 : Nat) : Int) 0) := ⟨hrow', rd_low R9.out.rd R9.out.low hI2, R9.out.low, hown'⟩
  have hb6 := hb9.trans hI2
  go_wp2_with fail
  go_ret
  exact ⟨rfl, hb6, ⟨_, _, _, _, _, by simpa using R6.out⟩⟩
set_option linter.unusedSimpArgs false in
set_option linter.unusedVariables false in
set_option maxRecDepth 100000 in
set_option maxHeartbeats 2000000 in
theorem all_r2 (h : Nat) (a : Option Addr) (n c : Nat) (x : List Int) (v : Value) (most : Int) (w : World) (r : RdrAt w h a n c x v [] most 0 0) (hn : 1 ≤ n) (hk : nth x 0 = 0) (hc : 1 < c) (hm0 : 0 ≤ most) (hmm : most ≤ 2097152) (hm : ((n - 1 : Nat) : Int) ≤ most) :
    Calls Try.prog 15 #[.pointer (some ⟨h, 0, none⟩)] w fun e w' => e = .returned (.int .i64 0) ∧ Below h w w' ∧ ∃ a' n' c' x' v', RdrAt w' h a' n' c' x' v' (x.drop 1) most ((n - 1 : Nat) : Int) 0 := by
  obtain ⟨b, ad, rfl, hcell⟩ := r.rd.cell 0 (by omega)
  rw [hk] at hcell
  have hcell2 := hcell
  rw [Nat.add_zero] at hcell2
  have hcap := r.rd.cap
  have hmax := r.rd.max
  unfold maxLen at hmax
  have hlow := r.low _ rfl (by omega)
  obtain ⟨c0, d1, d2, d3, d4, cf⟩ := cells5 r.row
  have cf0 := cf 0
  have hlt := r.lt
  have R := Lib.hid r
  clear r cf
  have HBB : Hid (RdrAt (w.setCell ⟨h, 0, none⟩ (.slice (some ⟨b, ad + 1, none⟩) (n - 1) (c - 1))) h (some ⟨b, ad + 1, none⟩) (n - 1) (c - 1) (x.drop 1) v [] most 0 0) := R.out.setB (rd_drop R.out.rd 1 (by omega)) (fun q hq _ => by injection hq with hq; subst hq; exact hlow)
  obtain ⟨w1, hw1⟩ : ∃ w1 : World, w1 = w.setCell ⟨h, 0, none⟩ (.slice (some ⟨b, ad + 1, none⟩) (n - 1) (c - 1)) := ⟨_, rfl⟩
  rw [← hw1] at HBB
  have hb1 : Below h w w1 := by rw [hw1]; exact below_cell w h 0 _
  have hnz : (((n : Nat) : Int) == 0) = false := beq_eq_false_iff_ne.2 (by omega)
  go_enter Try.func15, Try.ntmps15
  go_wp2_with fail
  simp only [← hw1]
  clear c0 d1 d2 d3 d4 cf0 hcell hcell2
  have hrow := HBB.out.row
  have hlt1 := HBB.out.lt
  have HROW := Lib.hid hrow
  clear hrow hw1
  have hgt : decide (most < ((n - 1 : Nat) : Int)) = false := decide_eq_false (by omega)
  go_wp2_with fail
  refine' reg_free (G := Kept) (pickF [eqV _, eqV _, eqV _, eqV _, eqV _, eqV _, eqV _, eqV _, eqV _, eqV _]) [28, 29, 30, 31, 32, 33, 34, 35, 36, 37] [[], [0], [1], [2], [3], [], [5], [6], [7], [4, 8]] [0, 1, 2, 3, 4, 5, 6, 7, 8, 9] (by kernel_rfl) Kept.refl Kept.trans (pick_stays ⟨eqV_stays _, eqV_stays _, eqV_stays _, eqV_stays _, eqV_stays _, eqV_stays _, eqV_stays _, eqV_stays _, eqV_stays _, eqV_stays _, trivial⟩) 67 rfl (by kernel_rfl) (by kernel_rfl) rfl rfl ?r6obl ?r6fin
  case r6obl =>
    refine And.intro ?r6o0 (And.intro ?r6o1 (And.intro ?r6o2 (And.intro ?r6o3 (And.intro ?r6o4 (And.intro ?r6o5 (And.intro ?r6o6 (And.intro ?r6o7 (And.intro ?r6o8 (And.intro ?r6o9 (True.intro))))))))))
    case r6o0 =>
      intro w9 hG
      refine turn_on (by rfl) ?_
      intro K hK
      go_simp
      refine hK _ _ ⟨rfl, Kept.refl _, ?_⟩
      show _ = _
      simp only [List.getD_cons_zero, List.getD_cons_succ, Array.getD_eq_getD_getElem?, List.getElem?_toArray, List.getElem?_cons_zero, List.getElem?_cons_succ, Option.getD_some]
      rfl
    case r6o1 =>
      intro w9 hG
      intro v0 h0
      change _ = _ at h0
      subst h0
      refine turn_on (by rfl) ?_
      intro K hK
      simp only [List.getD_cons_zero, List.getD_cons_succ, List.setIfInBounds_toArray, List.set_cons_zero, List.set_cons_succ]
      go_simp
      refine hK _ _ ⟨rfl, Kept.refl _, ?_⟩
      show _ = _
      simp only [List.getD_cons_zero, List.getD_cons_succ, Array.getD_eq_getD_getElem?, List.getElem?_toArray, List.getElem?_cons_zero, List.getElem?_cons_succ, Option.getD_some]
      rfl
    case r6o2 =>
      intro w9 hG
      intro v1 h1
      change _ = _ at h1
      subst h1
      refine turn_on (by rfl) ?_
      intro K hK
      simp only [List.getD_cons_zero, List.getD_cons_succ, List.setIfInBounds_toArray, List.set_cons_zero, List.set_cons_succ]
      go_simp
      refine hK _ _ ⟨rfl, Kept.refl _, ?_⟩
      show _ = _
      simp only [List.getD_cons_zero, List.getD_cons_succ, Array.getD_eq_getD_getElem?, List.getElem?_toArray, List.getElem?_cons_zero, List.getElem?_cons_succ, Option.getD_some]
      rfl
    case r6o3 =>
      intro w9 hG
      intro v2 h2
      change _ = _ at h2
      subst h2
      refine turn_on (by rfl) ?_
      intro K hK
      simp only [List.getD_cons_zero, List.getD_cons_succ, List.setIfInBounds_toArray, List.set_cons_zero, List.set_cons_succ]
      obtain ⟨c0, d1, d2, d3, d4, cf⟩ := cells5 (row_keep (w := w1.drew) HROW.out hG)
      clear cf
      go_simp
      refine hK _ _ ⟨rfl, Kept.refl _, ?_⟩
      show _ = _
      simp only [List.getD_cons_zero, List.getD_cons_succ, Array.getD_eq_getD_getElem?, List.getElem?_toArray, List.getElem?_cons_zero, List.getElem?_cons_succ, Option.getD_some]
      rfl
    case r6o4 =>
      intro w9 hG
      intro v3 h3
      change _ = _ at h3
      subst h3
      refine turn_on (by rfl) ?_
      intro K hK
      simp only [List.getD_cons_zero, List.getD_cons_succ, List.setIfInBounds_toArray, List.set_cons_zero, List.set_cons_succ]
      go_simp
      refine hK _ _ ⟨rfl, Kept.refl _, ?_⟩
      show _ = _
      simp only [List.getD_cons_zero, List.getD_cons_succ, Array.getD_eq_getD_getElem?, List.getElem?_toArray, List.getElem?_cons_zero, List.getElem?_cons_succ, Option.getD_some]
      rfl
    case r6o5 =>
      intro w9 hG
      refine turn_on (by rfl) ?_
      intro K hK
      go_simp
      refine hK _ _ ⟨rfl, Kept.refl _, ?_⟩
      show _ = _
      simp only [List.getD_cons_zero, List.getD_cons_succ, Array.getD_eq_getD_getElem?, List.getElem?_toArray, List.getElem?_cons_zero, List.getElem?_cons_succ, Option.getD_some]
      rfl
    case r6o6 =>
      intro w9 hG
      intro v5 h5
      change _ = _ at h5
      subst h5
      refine turn_on (by rfl) ?_
      intro K hK
      simp only [List.getD_cons_zero, List.getD_cons_succ, List.setIfInBounds_toArray, List.set_cons_zero, List.set_cons_succ]
      go_simp
      refine hK _ _ ⟨rfl, Kept.refl _, ?_⟩
      show _ = _
      simp only [List.getD_cons_zero, List.getD_cons_succ, Array.getD_eq_getD_getElem?, List.getElem?_toArray, List.getElem?_cons_zero, List.getElem?_cons_succ, Option.getD_some]
      rfl
    case r6o7 =>
      intro w9 hG
      intro v6 h6
      change _ = _ at h6
      subst h6
      refine turn_on (by rfl) ?_
      intro K hK
      simp only [List.getD_cons_zero, List.getD_cons_succ, List.setIfInBounds_toArray, List.set_cons_zero, List.set_cons_succ]
      go_simp
      refine hK _ _ ⟨rfl, Kept.refl _, ?_⟩
      show _ = _
      simp only [List.getD_cons_zero, List.getD_cons_succ, Array.getD_eq_getD_getElem?, List.getElem?_toArray, List.getElem?_cons_zero, List.getElem?_cons_succ, Option.getD_some]
      rfl
    case r6o8 =>
      intro w9 hG
      intro v7 h7
      change _ = _ at h7
      subst h7
      refine turn_on (by rfl) ?_
      intro K hK
      simp only [List.getD_cons_zero, List.getD_cons_succ, List.setIfInBounds_toArray, List.set_cons_zero, List.set_cons_succ]
      obtain ⟨c0, d1, d2, d3, d4, cf⟩ := cells5 (row_keep (w := w1.drew) HROW.out hG)
      clear cf
      go_simp
      refine hK _ _ ⟨rfl, Kept.refl _, ?_⟩
      show _ = _
      simp only [List.getD_cons_zero, List.getD_cons_succ, Array.getD_eq_getD_getElem?, List.getElem?_toArray, List.getElem?_cons_zero, List.getElem?_cons_succ, Option.getD_some]
      rfl
    case r6o9 =>
      intro w9 hG
      intro v4 h4
      change _ = _ at h4
      subst h4
      intro v8 h8
      change _ = _ at h8
      subst h8
      refine turn_on (by rfl) ?_
      intro K hK
      simp only [List.getD_cons_zero, List.getD_cons_succ, List.setIfInBounds_toArray, List.set_cons_zero, List.set_cons_succ]
      go_simp
      refine hK _ _ ⟨rfl, Kept.refl _, ?_⟩
      show _ = _
      simp only [List.getD_cons_zero, List.getD_cons_succ, Array.getD_eq_getD_getElem?, List.getElem?_toArray, List.getElem?_cons_zero, List.getElem?_cons_succ, Option.getD_some]
      rfl
  intro w9 hG
  intro v0 h0
  change _ = _ at h0
  subst h0
  intro v1 h1
  change _ = _ at h1
  subst h1
  intro v2 h2
  change _ = _ at h2
  subst h2
  intro v3 h3
  change _ = _ at h3
  subst h3
  intro v4 h4
  change _ = _ at h4
  subst h4
  intro v5 h5
  change _ = _ at h5
  subst h5
  intro v6 h6
  change _ = _ at h6
  subst h6
  intro v7 h7
  change _ = _ at h7
  subst h7
  intro v8 h8
  change _ = _ at h8
  subst h8
  intro v9 h9
  change _ = _ at h9
  subst h9
  simp only [Given, List.getD_cons_zero, List.getD_cons_succ, List.setIfInBounds_toArray, List.set_cons_zero, List.set_cons_succ]
  have hb9 : Below h w w9 := hb1.drew.trans (Below.mono hG (Nat.le_of_lt hlt1))
  have r9 : RdrAt w9 h (some ⟨b, ad + 1, none⟩) (n - 1) (c - 1) (x.drop 1) v [] most 0 0 := ⟨row_keep (w := w1.drew) HROW.out hG, HBB.out.rd.keptW hG, HBB.out.low, HBB.out.own.keptD hG⟩
  have R9 := Lib.hid r9
  clear r9 hG hb1
  go_wp2_with fail
  obtain ⟨w0, hw0⟩ : ∃ w0 : World, w0 = w9 := ⟨_, rfl⟩
  have hsz0 : w0.heap.size = w9.heap.size := by rw [hw0]
  have hlt9 : h < w9.heap.size := R9.out.lt
  have hlt0 : h ≤ w0.heap.size := by omega
  have hlt2 : h < w9.drew.heap.size := hlt9
  have hrow0 := R9.out.row
  have hrow : w9.drew.heap[h]? = some (.cells #[.slice (some ⟨b, ad + 1, none⟩) (n - 1) (c - 1), v, .int .i64 most, .int .i64 0, .int .i64 0] 43 (0, 0)) := hrow0
  have hrd0 : RdAt .u8 w9.drew (some ⟨b, ad + 1, none⟩) (n - 1) (c - 1) (x.drop 1) := rd_low R9.out.rd R9.out.low (Below.refl h w9).drew
  have hB0 : Below h w0 w9.drew := by rw [hw0]; exact (Below.refl h w9).drew
  refine' reg_order [eqV _, eqV _, eqV _, eqV _, eqV _, eqV _, (fun v' w => Owns .u8 5 w (h + 1) v' (x.drop 1)), eqV _, eqV _, eqV _, eqV _, eqV _, eqV _, eqV _, (fun _ w => ∃ (v' : Value) (l : Int), w.heap[h]? = some (.cells #[.slice (some ⟨b, ad + 1, none⟩) (n - 1) (c - 1), v', .int .i64 most, .int .i64 l, .int .i64 0] 43 (0, 0)) ∧ Owns .u8 5 w (h + 1) v' (x.drop 1)), eqV _, eqV _, (fun _ w => ∃ (v' : Value), w.heap[h]? = some (.cells #[.slice (some ⟨b, ad + 1, none⟩) (n - 1) (c - 1), v', .int .i64 most, .int .i64 ((n - 1 : Nat) : Int), .int .i64 0] 43 (0, 0)) ∧ Owns .u8 5 w (h + 1) v' (x.drop 1))] [(14, fun w w' => World.grownBy w w' (some h)), (17, fun w w' => w' = w.setCell ⟨h, 3, none⟩ (.int .i64 ((n - 1 : Nat) : Int)))] [(5, fun w => w.heap[h]? = some (.cells #[.slice (some ⟨b, ad + 1, none⟩) (n - 1) (c - 1), v, .int .i64 most, .int .i64 0, .int .i64 0] 43 (0, 0))), (6, fun w => RdAt .u8 w (some ⟨b, ad + 1, none⟩) (n - 1) (c - 1) (x.drop 1) ∧ h < w.heap.size), (10, fun w => w.heap[h]? = some (.cells #[.slice (some ⟨b, ad + 1, none⟩) (n - 1) (c - 1), v, .int .i64 most, .int .i64 0, .int .i64 0] 43 (0, 0))), (14, fun w => w.heap[h]? = some (.cells #[.slice (some ⟨b, ad + 1, none⟩) (n - 1) (c - 1), v, .int .i64 most, .int .i64 0, .int .i64 0] 43 (0, 0))), (18, fun w => Below h w0 w)] [38, 39, 40, 41, 42, 43, 44, 45, 46, 47, 48, 49, 50, 51, 81, 52, 53, 84] [[], [], [], [2], [3], [4], [5], [], [7], [8], [9], [10], [0], [12], [6, 13], [1], [15], [11, 14, 16]] [0, 1, 2, 3, 4, 5, 6, 7, 8, 9, 10, 11, 12, 13, 14, 15, 16, 17] 18 (by kernel_rfl) ⟨eqV_stays _, eqV_stays _, eqV_stays _, eqV_stays _, eqV_stays _, eqV_stays _, fun _ _ _ p b => Owns.below p b, eqV_stays _, eqV_stays _, eqV_stays _, eqV_stays _, eqV_stays _, eqV_stays _, eqV_stays _, fun _ _ _ ⟨y, l, p, q⟩ b => ⟨y, l, row_keep p b, Owns.below q b⟩, eqV_stays _, eqV_stays _, fun _ _ _ ⟨y, p, q⟩ b => ⟨y, row_keep p b, Owns.below q b⟩, trivial⟩ ⟨⟨.inl (eqV_stays _), .inl (eqV_stays _), .inl (eqV_stays _), .inl (eqV_stays _), .inl (eqV_stays _), .inl (eqV_stays _), .inl (fun _ _ _ p g => Owns.grown p g (fun b hb e => room_ne p (by rw [hb, e]))), .inl (eqV_stays _), .inl (eqV_stays _), .inl (eqV_stays _), .inl (eqV_stays _), .inl (eqV_stays _), .inl (eqV_stays _), .inl (eqV_stays _), .inr (.inr rfl), .inl (eqV_stays _), .inl (eqV_stays _), .inr (.inl (by kernel_rfl)), trivial⟩, ⟨.inl (eqV_stays _), .inl (eqV_stays _), .inl (eqV_stays _), .inl (eqV_stays _), .inl (eqV_stays _), .inl (eqV_stays _), .inl (fun _ _ _ p g => by rw [g]; exact own_cell p _ _), .inl (eqV_stays _), .inl (eqV_stays _), .inl (eqV_stays _), .inl (eqV_stays _), .inl (eqV_stays _), .inl (eqV_stays _), .inl (eqV_stays _), .inl (fun _ _ _ ⟨y, l, p, q⟩ g => by rw [g]; exact ⟨y, _, heap_setCell_same _ _ _ _ _ _ p, own_cell q _ _⟩), .inl (eqV_stays _), .inl (eqV_stays _), .inr (.inr rfl), trivial⟩, trivial⟩ ⟨fun _ _ p b => row_keep p b, fun _ _ p b => ⟨p.1.below b, Nat.lt_of_lt_of_le p.2 b.size⟩, fun _ _ p b => row_keep p b, fun _ _ p b => row_keep p b, fun _ _ p b => p.trans (Below.mono b (Nat.le_trans hlt0 p.size)), trivial⟩ ⟨⟨.inr (.inl (by kernel_rfl)), .inr (.inl (by kernel_rfl)), .inr (.inl (by kernel_rfl)), .inr (.inr rfl), .inl (fun _ _ p g => p.grown g (Nat.le_trans hlt0 p.size) (fun q hq => by injection hq with hq; omega)), trivial⟩, ⟨.inr (.inl (by kernel_rfl)), .inr (.inl (by kernel_rfl)), .inr (.inl (by kernel_rfl)), .inr (.inl (by kernel_rfl)), .inl (fun _ _ p g => by rw [g]; exact p.trans (below_cell _ _ _ _)), trivial⟩, trivial⟩ ⟨hrow, ⟨hrd0, hlt2⟩, hrow, hrow, hB0, trivial⟩ 67 rfl (by kernel_rfl) (by kernel_rfl) rfl rfl 18 rfl ?q7obl ?q7fin
  case q7obl =>
    refine And.intro ?q7o0 (And.intro ?q7o1 (And.intro ?q7o2 (And.intro ?q7o3 (And.intro ?q7o4 (And.intro ?q7o5 (And.intro ?q7o6 (And.intro ?q7o7 (And.intro ?q7o8 (And.intro ?q7o9 (And.intro ?q7o10 (And.intro ?q7o11 (And.intro ?q7o12 (And.intro ?q7o13 (And.intro ?q7o14 (And.intro ?q7o15 (And.intro ?q7o16 (And.intro ?q7o17 (True.intro))))))))))))))))))
    case q7o0 =>
      intro w1 hI
      refine turn2_on (by rfl) ?_
      intro K hK
      go_simp
      refine hK _ _ ⟨rfl, Kept.refl _, ?_⟩
      show _ = _
      simp only [List.getD_cons_zero, List.getD_cons_succ, Array.getD_eq_getD_getElem?, List.getElem?_toArray, List.getElem?_cons_zero, List.getElem?_cons_succ, Option.getD_some]
      rfl
    case q7o1 =>
      intro w1 hI
      refine turn2_on (by rfl) ?_
      intro K hK
      go_simp
      refine hK _ _ ⟨rfl, Kept.refl _, ?_⟩
      show _ = _
      simp only [List.getD_cons_zero, List.getD_cons_succ, Array.getD_eq_getD_getElem?, List.getElem?_toArray, List.getElem?_cons_zero, List.getElem?_cons_succ, Option.getD_some]
      rfl
    case q7o2 =>
      intro w1 hI
      refine turn2_on (by rfl) ?_
      intro K hK
      go_simp
      refine hK _ _ ⟨rfl, Kept.refl _, ?_⟩
      show _ = _
      simp only [List.getD_cons_zero, List.getD_cons_succ, Array.getD_eq_getD_getElem?, List.getElem?_toArray, List.getElem?_cons_zero, List.getElem?_cons_succ, Option.getD_some]
      rfl
    case q7o3 =>
      intro w1 hI
      intro v2 h2
      change _ = _ at h2
      subst v2
      refine turn2_on (by rfl) ?_
      intro K hK
      simp only [List.getD_cons_zero, List.getD_cons_succ, List.setIfInBounds_toArray, List.set_cons_zero, List.set_cons_succ]
      go_simp
      refine hK _ _ ⟨rfl, Kept.refl _, ?_⟩
      show _ = _
      simp only [List.getD_cons_zero, List.getD_cons_succ, Array.getD_eq_getD_getElem?, List.getElem?_toArray, List.getElem?_cons_zero, List.getElem?_cons_succ, Option.getD_some]
      rfl
    case q7o4 =>
      intro w1 hI
      intro v3 h3
      change _ = _ at h3
      subst v3
      refine turn2_on (by rfl) ?_
      intro K hK
      simp only [List.getD_cons_zero, List.getD_cons_succ, List.setIfInBounds_toArray, List.set_cons_zero, List.set_cons_succ]
      go_simp
      refine hK _ _ ⟨rfl, Kept.refl _, ?_⟩
      show _ = _
      simp only [List.getD_cons_zero, List.getD_cons_succ, Array.getD_eq_getD_getElem?, List.getElem?_toArray, List.getElem?_cons_zero, List.getElem?_cons_succ, Option.getD_some]
      rfl
    case q7o5 =>
      intro w1 hI
      replace hI : (fun w => w.heap[h]? = some (.cells #[.slice (some ⟨b, ad + 1, none⟩) (n - 1) (c - 1), v, .int .i64 most, .int .i64 0, .int .i64 0] 43 (0, 0))) w1 := hI
      intro v4 h4
      change _ = _ at h4
      subst v4
      refine turn2_on (by rfl) ?_
      intro K hK
      simp only [List.getD_cons_zero, List.getD_cons_succ, List.setIfInBounds_toArray, List.set_cons_zero, List.set_cons_succ]
      obtain ⟨c0, c1, c2, c3, c4, cf⟩ := cells5 hI
      go_simp
      refine hK _ _ ⟨rfl, Kept.refl _, ?_⟩
      show _ = _
      simp only [List.getD_cons_zero, List.getD_cons_succ, Array.getD_eq_getD_getElem?, List.getElem?_toArray, List.getElem?_cons_zero, List.getElem?_cons_succ, Option.getD_some]
      rfl
    case q7o6 =>
      intro w1 hI
      replace hI : (fun w => RdAt .u8 w (some ⟨b, ad + 1, none⟩) (n - 1) (c - 1) (x.drop 1) ∧ h < w.heap.size) w1 := hI
      intro v5 h5
      change _ = _ at h5
      subst v5
      refine turn2_on (by rfl) ?_
      intro K hK
      simp only [List.getD_cons_zero, List.getD_cons_succ, List.setIfInBounds_toArray, List.set_cons_zero, List.set_cons_succ]
      obtain ⟨hrd, hhl⟩ := hI
      go_simp
      refine Calls.mono (clone_any _ _ _ _ _ hrd (by omega)) ?_
      rintro e w2 ⟨vv, rfl, hov, hbx⟩
      refine hK _ _ ⟨rfl, hbx, ?_⟩
      show Owns _ _ _ _ _ _
      simp only [List.getD_cons_zero, List.getD_cons_succ, Array.getD_eq_getD_getElem?, List.getElem?_toArray, List.getElem?_cons_zero, List.getElem?_cons_succ, Option.getD_some]
      exact hov.mono (by omega)
    case q7o7 =>
      intro w1 hI
      refine turn2_on (by rfl) ?_
      intro K hK
      go_simp
      refine hK _ _ ⟨rfl, Kept.refl _, ?_⟩
      show _ = _
      simp only [List.getD_cons_zero, List.getD_cons_succ, Array.getD_eq_getD_getElem?, List.getElem?_toArray, List.getElem?_cons_zero, List.getElem?_cons_succ, Option.getD_some]
      rfl
    case q7o8 =>
      intro w1 hI
      intro v7 h7
      change _ = _ at h7
      subst v7
      refine turn2_on (by rfl) ?_
      intro K hK
      simp only [List.getD_cons_zero, List.getD_cons_succ, List.setIfInBounds_toArray, List.set_cons_zero, List.set_cons_succ]
      go_simp
      refine hK _ _ ⟨rfl, Kept.refl _, ?_⟩
      show _ = _
      simp only [List.getD_cons_zero, List.getD_cons_succ, Array.getD_eq_getD_getElem?, List.getElem?_toArray, List.getElem?_cons_zero, List.getElem?_cons_succ, Option.getD_some]
      rfl
    case q7o9 =>
      intro w1 hI
      intro v8 h8
      change _ = _ at h8
      subst v8
      refine turn2_on (by rfl) ?_
      intro K hK
      simp only [List.getD_cons_zero, List.getD_cons_succ, List.setIfInBounds_toArray, List.set_cons_zero, List.set_cons_succ]
      go_simp
      refine hK _ _ ⟨rfl, Kept.refl _, ?_⟩
      show _ = _
      simp only [List.getD_cons_zero, List.getD_cons_succ, Array.getD_eq_getD_getElem?, List.getElem?_toArray, List.getElem?_cons_zero, List.getElem?_cons_succ, Option.getD_some]
      rfl
    case q7o10 =>
      intro w1 hI
      replace hI : (fun w => w.heap[h]? = some (.cells #[.slice (some ⟨b, ad + 1, none⟩) (n - 1) (c - 1), v, .int .i64 most, .int .i64 0, .int .i64 0] 43 (0, 0))) w1 := hI
      intro v9 h9
      change _ = _ at h9
      subst v9
      refine turn2_on (by rfl) ?_
      intro K hK
      simp only [List.getD_cons_zero, List.getD_cons_succ, List.setIfInBounds_toArray, List.set_cons_zero, List.set_cons_succ]
      obtain ⟨c0, c1, c2, c3, c4, cf⟩ := cells5 hI
      go_simp
      refine hK _ _ ⟨rfl, Kept.refl _, ?_⟩
      show _ = _
      simp only [List.getD_cons_zero, List.getD_cons_succ, Array.getD_eq_getD_getElem?, List.getElem?_toArray, List.getElem?_cons_zero, List.getElem?_cons_succ, Option.getD_some]
      rfl
    case q7o11 =>
      intro w1 hI
      intro v10 h10
      change _ = _ at h10
      subst v10
      refine turn2_on (by rfl) ?_
      intro K hK
      simp only [List.getD_cons_zero, List.getD_cons_succ, List.setIfInBounds_toArray, List.set_cons_zero, List.set_cons_succ]
      go_simp
      refine hK _ _ ⟨rfl, Kept.refl _, ?_⟩
      show _ = _
      simp only [List.getD_cons_zero, List.getD_cons_succ, Array.getD_eq_getD_getElem?, List.getElem?_toArray, List.getElem?_cons_zero, List.getElem?_cons_succ, Option.getD_some]
      rfl
    case q7o12 =>
      intro w1 hI
      intro v0 h0
      change _ = _ at h0
      subst v0
      refine turn2_on (by rfl) ?_
      intro K hK
      simp only [List.getD_cons_zero, List.getD_cons_succ, List.setIfInBounds_toArray, List.set_cons_zero, List.set_cons_succ]
      go_simp
      refine hK _ _ ⟨rfl, Kept.refl _, ?_⟩
      show _ = _
      simp only [List.getD_cons_zero, List.getD_cons_succ, Array.getD_eq_getD_getElem?, List.getElem?_toArray, List.getElem?_cons_zero, List.getElem?_cons_succ, Option.getD_some]
      rfl
    case q7o13 =>
      intro w1 hI
      intro v12 h12
      change _ = _ at h12
      subst v12
      refine turn2_on (by rfl) ?_
      intro K hK
      simp only [List.getD_cons_zero, List.getD_cons_succ, List.setIfInBounds_toArray, List.set_cons_zero, List.set_cons_succ]
      go_simp
      refine hK _ _ ⟨rfl, Kept.refl _, ?_⟩
      show _ = _
      simp only [List.getD_cons_zero, List.getD_cons_succ, Array.getD_eq_getD_getElem?, List.getElem?_toArray, List.getElem?_cons_zero, List.getElem?_cons_succ, Option.getD_some]
      rfl
    case q7o14 =>
      intro w1 hI
      replace hI : (fun w => w.heap[h]? = some (.cells #[.slice (some ⟨b, ad + 1, none⟩) (n - 1) (c - 1), v, .int .i64 most, .int .i64 0, .int .i64 0] 43 (0, 0))) w1 := hI
      intro v6 h6
      intro v13 h13
      change _ = _ at h13
      subst v13
      refine turn2_on (by rfl) ?_
      intro K hK
      simp only [List.getD_cons_zero, List.getD_cons_succ, List.setIfInBounds_toArray, List.set_cons_zero, List.set_cons_succ]
      obtain ⟨c0, c1, c2, c3, c4, cf⟩ := cells5 hI
      have cf1 := cf 1
      clear cf
      obtain ⟨z9, hz9⟩ : ∃ z9, ((x.drop 1)).length = z9 := ⟨_, rfl⟩
      obtain ⟨av2, cv2, rfl⟩ := Owns.shapeN h6 z9 hz9
      clear hz9
      go_simp
      refine hK _ _ ⟨rfl, cell_grown _ _ _ _, ?_⟩
      exact ⟨_, _, heap_setCell_same _ _ _ _ _ _ hI, own_cell h6 _ _⟩
    case q7o15 =>
      intro w1 hI
      intro v1 h1
      change _ = _ at h1
      subst v1
      refine turn2_on (by rfl) ?_
      intro K hK
      simp only [List.getD_cons_zero, List.getD_cons_succ, List.setIfInBounds_toArray, List.set_cons_zero, List.set_cons_succ]
      go_simp
      refine hK _ _ ⟨rfl, Kept.refl _, ?_⟩
      show _ = _
      simp only [List.getD_cons_zero, List.getD_cons_succ, Array.getD_eq_getD_getElem?, List.getElem?_toArray, List.getElem?_cons_zero, List.getElem?_cons_succ, Option.getD_some]
      rfl
    case q7o16 =>
      intro w1 hI
      intro v15 h15
      change _ = _ at h15
      subst v15
      refine turn2_on (by rfl) ?_
      intro K hK
      simp only [List.getD_cons_zero, List.getD_cons_succ, List.setIfInBounds_toArray, List.set_cons_zero, List.set_cons_succ]
      go_simp
      refine hK _ _ ⟨rfl, Kept.refl _, ?_⟩
      show _ = _
      simp only [List.getD_cons_zero, List.getD_cons_succ, Array.getD_eq_getD_getElem?, List.getElem?_toArray, List.getElem?_cons_zero, List.getElem?_cons_succ, Option.getD_some]
      rfl
    case q7o17 =>
      intro w1 hI
      intro v11 h11
      change _ = _ at h11
      subst v11
      intro v14 h14
      intro v16 h16
      change _ = _ at h16
      subst v16
      refine turn2_on (by rfl) ?_
      intro K hK
      simp only [List.getD_cons_zero, List.getD_cons_succ, List.setIfInBounds_toArray, List.set_cons_zero, List.set_cons_succ]
      obtain ⟨y14, l14, p14, q14⟩ := h14
      obtain ⟨c0, c1, c2, c3, c4, cf⟩ := cells5 p14
      have cf3 := cf 3
      clear cf
      go_simp
      refine hK _ _ ⟨rfl, rfl, ?_⟩
      exact ⟨_, heap_setCell_same _ _ _ _ _ _ p14, own_cell q14 _ _⟩
  intro w1 hI
  replace hI : (fun w => Below h w0 w) w1 := hI
  intro v0 h0
  change _ = _ at h0
  subst v0
  intro v1 h1
  change _ = _ at h1
  subst v1
  intro v2 h2
  change _ = _ at h2
  subst v2
  intro v3 h3
  change _ = _ at h3
  subst v3
  intro v4 h4
  change _ = _ at h4
  subst v4
  intro v5 h5
  change _ = _ at h5
  subst v5
  intro v6 h6
  intro v7 h7
  change _ = _ at h7
  subst v7
  intro v8 h8
  change _ = _ at h8
  subst v8
  intro v9 h9
  change _ = _ at h9
  subst v9
  intro v10 h10
  change _ = _ at h10
  subst v10
  intro v11 h11
  change _ = _ at h11
  subst v11
  intro v12 h12
  change _ = _ at h12
  subst v12
  intro v13 h13
  change _ = _ at h13
  subst v13
  intro v14 h14
  intro v15 h15
  change _ = _ at h15
  subst v15
  intro v16 h16
  change _ = _ at h16
  subst v16
  intro v17 h17
  simp only [Given, List.getD_cons_zero, List.getD_cons_succ, List.setIfInBounds_toArray, List.set_cons_zero, List.set_cons_succ]
  obtain ⟨v', hrow', hown'⟩ := h17
  have hI2 : Below h w9 w1 := by rw [← hw0]; exact hI
  have R6 : Hid (RdrAt w1 h (some ⟨b, ad + 1, none⟩) (n - 1) (c - 1) (x.drop 1) v' (x.drop 1) most (((n - 1) : Nat) : Int) 0) := ⟨hrow', rd_low R9.out.rd R9.out.low hI2, R9.out.low, hown'⟩
  have hb6 := hb9.trans hI2
  go_wp2_with fail
  go_ret
  exact ⟨rfl, hb6, ⟨_, _, _, _, _, by simpa using R6.out⟩⟩
end Go.Proofs.Ytfoabnoolmeoiaa
