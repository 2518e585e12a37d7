/- lz's token: what it answers where the row of tokens is sound, and where it is not. -/
import Derived.Test.YtfoabnoolmeoiaaLzPre
namespace Go.Proofs.Ytfoabnoolmeoiaa
open Go.RowKit
set_option linter.unusedSimpArgs false in
set_option linter.unusedVariables false in
set_option maxRecDepth 100000 in
set_option maxHeartbeats 2000000 in
theorem tok_e5 (h : Nat) (a : Option Addr) (n c : Nat) (x : List Int) (v : Value) (o0 : List Int) (most lit cop : Int) (w : World) (r : RdrAt w h a n c x v o0 most lit cop) (k : Nat) (he : rvE x n = 0) (hv : rvV x n = 2 * (k : Int) + 1) (hk : 1 ≤ k) (hkb : k ≤ 9223372036854775807) (x2 : List Int) (n2 : Nat) (hx2 : x.drop (rvN x n).toNat = x2) (hn2 : n - (rvN x n).toNat = n2) (d : Nat) (he2 : rvE x2 n2 = 0) (hv2 : rvV x2 n2 = d) (hdb : d ≤ 18446744073709551615) (hd1 : 1 ≤ d) (hd : d ≤ o0.length) (ho : (o0.length : Int) ≤ most) (hmm : most ≤ 2097152) (hm : most < (o0.length : Int) + k) :
    Calls Try.prog 19 #[.pointer (some ⟨h, 0, none⟩)] w fun e w' => e = .returned (.int .i64 24) ∧ Below h w w' := by
  have HE2 := Lib.hid he2
  have HV2 := Lib.hid hv2
  clear he2 hv2
  have hdz : ((d : Int) == 0) = false := beq_eq_false_iff_ne.2 (by omega)
  have R1 := Lib.hid r
  have HE1 := Lib.hid he
  have HV1 := Lib.hid hv
  have HX2 := Lib.hid hx2
  have HN2 := Lib.hid hn2
  have hbit : bits .and .u64 (2 * (k : Int) + 1) 1 = 1 := by rw [u64_and_one _ (by omega) (by omega)]; omega
  have hdiv : (2 * (k : Int) + 1) / 2 = k := by omega
  have hkz : ((k : Int) == 0) = false := beq_eq_false_iff_ne.2 (by omega)
  clear r he hv hx2 hn2
  go_enter Try.func19, Try.ntmps19
  go_wp2_with fail
  refine (next_ok _ _ _ _ _ _ _ _ _ _ _ R1.out HE1.out).mono ?_
  rintro e w1 ⟨hee, ⟨a1, c1, r1⟩, hb1⟩
  rw [HV1.out] at hee
  subst hee
  rw [HX2.out, HN2.out] at r1
  have R2 := Lib.hid r1
  clear r1
  go_wp2_with fail
  refine (next_ok _ _ _ _ _ _ _ _ _ _ _ R2.out HE2.out).mono ?_
  rintro e w2 ⟨hee, ⟨a2, c2, r2⟩, hb2⟩
  rw [HV2.out] at hee
  subst hee
  have hb := hb1.trans hb2
  clear hb1 hb2
  obtain ⟨q0, hq0⟩ : ∃ q0, o0.length = q0 := ⟨_, rfl⟩
  have HQ0 := Lib.hid hq0
  obtain ⟨av, cv0, rfl⟩ := r2.own.shapeN q0 HQ0.out
  have hrow2 := r2.row
  have hlt2 := r2.lt
  have R3 := Lib.hid r2
  have HROW2 := Lib.hid hrow2
  obtain ⟨c0, d1, d2, d3, d4, cf⟩ := cells5 hrow2
  clear r2 hrow2 cf
  rw [hq0] at hd ho hm
  clear hq0
  have hgt : decide ((q0 : Int) < d) = false := decide_eq_false (by omega)
  have hgtn : decide (q0 < d) = false := decide_eq_false (by omega)
  go_wp2_with fail
  have hw1 : IntKind.i64.wrap (most - q0) = most - q0 := IntWalk.i64_in _ (by omega)
  have hw2 : IntKind.u64.wrap (most - q0) = most - q0 := by rw [IntKind.wrap_u64]; omega
  have hgt2 : decide (most - (q0 : Int) < k) = true := decide_eq_true (by omega)
  clear c0 d1 d2 d3 d4
  refine' reg_free (G := Kept) (pickF [eqV _, eqV _, eqV _, eqV _, eqV _, eqV _, eqV _, eqV _, eqV _, eqV _, eqV _, eqV _, eqV _]) [42, 43, 44, 45, 46, 47, 48, 49, 50, 51, 52, 53, 54] [[], [], [1], [2], [3], [], [5], [6], [7], [8], [4, 9], [10], [0, 11]] [0, 1, 2, 3, 4, 5, 6, 7, 8, 9, 10, 11, 12] (by kernel_rfl) Kept.refl Kept.trans (pick_stays ⟨eqV_stays _, eqV_stays _, eqV_stays _, eqV_stays _, eqV_stays _, eqV_stays _, eqV_stays _, eqV_stays _, eqV_stays _, eqV_stays _, eqV_stays _, eqV_stays _, eqV_stays _, trivial⟩) 135 rfl (by kernel_rfl) (by kernel_rfl) rfl rfl ?r3obl ?r3fin
  case r3obl =>
    refine And.intro ?r3o0 (And.intro ?r3o1 (And.intro ?r3o2 (And.intro ?r3o3 (And.intro ?r3o4 (And.intro ?r3o5 (And.intro ?r3o6 (And.intro ?r3o7 (And.intro ?r3o8 (And.intro ?r3o9 (And.intro ?r3o10 (And.intro ?r3o11 (And.intro ?r3o12 (True.intro)))))))))))))
    case r3o0 =>
      intro w9 hG
      refine turn_on (by rfl) ?_
      intro K hK
      go_simp
      refine hK _ _ ⟨rfl, Kept.refl _, ?_⟩
      show _ = _
      simp only [List.getD_cons_zero, List.getD_cons_succ, Array.getD_eq_getD_getElem?, List.getElem?_toArray, List.getElem?_cons_zero, List.getElem?_cons_succ, Option.getD_some]
      rfl
    case r3o1 =>
      intro w9 hG
      refine turn_on (by rfl) ?_
      intro K hK
      go_simp
      refine hK _ _ ⟨rfl, Kept.refl _, ?_⟩
      show _ = _
      simp only [List.getD_cons_zero, List.getD_cons_succ, Array.getD_eq_getD_getElem?, List.getElem?_toArray, List.getElem?_cons_zero, List.getElem?_cons_succ, Option.getD_some]
      rfl
    case r3o2 =>
      intro w9 hG
      intro v1 h1
      change _ = _ at h1
      subst h1
      refine turn_on (by rfl) ?_
      intro K hK
      simp only [List.getD_cons_zero, List.getD_cons_succ, List.setIfInBounds_toArray, List.set_cons_zero, List.set_cons_succ]
      go_simp
      refine hK _ _ ⟨rfl, Kept.refl _, ?_⟩
      show _ = _
      simp only [List.getD_cons_zero, List.getD_cons_succ, Array.getD_eq_getD_getElem?, List.getElem?_toArray, List.getElem?_cons_zero, List.getElem?_cons_succ, Option.getD_some]
      rfl
    case r3o3 =>
      intro w9 hG
      intro v2 h2
      change _ = _ at h2
      subst h2
      refine turn_on (by rfl) ?_
      intro K hK
      simp only [List.getD_cons_zero, List.getD_cons_succ, List.setIfInBounds_toArray, List.set_cons_zero, List.set_cons_succ]
      go_simp
      refine hK _ _ ⟨rfl, Kept.refl _, ?_⟩
      show _ = _
      simp only [List.getD_cons_zero, List.getD_cons_succ, Array.getD_eq_getD_getElem?, List.getElem?_toArray, List.getElem?_cons_zero, List.getElem?_cons_succ, Option.getD_some]
      rfl
    case r3o4 =>
      intro w9 hG
      intro v3 h3
      change _ = _ at h3
      subst h3
      refine turn_on (by rfl) ?_
      intro K hK
      simp only [List.getD_cons_zero, List.getD_cons_succ, List.setIfInBounds_toArray, List.set_cons_zero, List.set_cons_succ]
      obtain ⟨c0, d1, d2, d3, d4, cf⟩ := cells5 (row_keep (w := w2.drew) HROW2.out hG)
      clear cf
      go_simp
      refine hK _ _ ⟨rfl, Kept.refl _, ?_⟩
      show _ = _
      simp only [List.getD_cons_zero, List.getD_cons_succ, Array.getD_eq_getD_getElem?, List.getElem?_toArray, List.getElem?_cons_zero, List.getElem?_cons_succ, Option.getD_some]
      rfl
    case r3o5 =>
      intro w9 hG
      refine turn_on (by rfl) ?_
      intro K hK
      go_simp
      refine hK _ _ ⟨rfl, Kept.refl _, ?_⟩
      show _ = _
      simp only [List.getD_cons_zero, List.getD_cons_succ, Array.getD_eq_getD_getElem?, List.getElem?_toArray, List.getElem?_cons_zero, List.getElem?_cons_succ, Option.getD_some]
      rfl
    case r3o6 =>
      intro w9 hG
      intro v5 h5
      change _ = _ at h5
      subst h5
      refine turn_on (by rfl) ?_
      intro K hK
      simp only [List.getD_cons_zero, List.getD_cons_succ, List.setIfInBounds_toArray, List.set_cons_zero, List.set_cons_succ]
      go_simp
      refine hK _ _ ⟨rfl, Kept.refl _, ?_⟩
      show _ = _
      simp only [List.getD_cons_zero, List.getD_cons_succ, Array.getD_eq_getD_getElem?, List.getElem?_toArray, List.getElem?_cons_zero, List.getElem?_cons_succ, Option.getD_some]
      rfl
    case r3o7 =>
      intro w9 hG
      intro v6 h6
      change _ = _ at h6
      subst h6
      refine turn_on (by rfl) ?_
      intro K hK
      simp only [List.getD_cons_zero, List.getD_cons_succ, List.setIfInBounds_toArray, List.set_cons_zero, List.set_cons_succ]
      go_simp
      refine hK _ _ ⟨rfl, Kept.refl _, ?_⟩
      show _ = _
      simp only [List.getD_cons_zero, List.getD_cons_succ, Array.getD_eq_getD_getElem?, List.getElem?_toArray, List.getElem?_cons_zero, List.getElem?_cons_succ, Option.getD_some]
      rfl
    case r3o8 =>
      intro w9 hG
      intro v7 h7
      change _ = _ at h7
      subst h7
      refine turn_on (by rfl) ?_
      intro K hK
      simp only [List.getD_cons_zero, List.getD_cons_succ, List.setIfInBounds_toArray, List.set_cons_zero, List.set_cons_succ]
      obtain ⟨c0, d1, d2, d3, d4, cf⟩ := cells5 (row_keep (w := w2.drew) HROW2.out hG)
      clear cf
      go_simp
      refine hK _ _ ⟨rfl, Kept.refl _, ?_⟩
      show _ = _
      simp only [List.getD_cons_zero, List.getD_cons_succ, Array.getD_eq_getD_getElem?, List.getElem?_toArray, List.getElem?_cons_zero, List.getElem?_cons_succ, Option.getD_some]
      rfl
    case r3o9 =>
      intro w9 hG
      intro v8 h8
      change _ = _ at h8
      subst h8
      refine turn_on (by rfl) ?_
      intro K hK
      simp only [List.getD_cons_zero, List.getD_cons_succ, List.setIfInBounds_toArray, List.set_cons_zero, List.set_cons_succ]
      go_simp
      refine hK _ _ ⟨rfl, Kept.refl _, ?_⟩
      show _ = _
      simp only [List.getD_cons_zero, List.getD_cons_succ, Array.getD_eq_getD_getElem?, List.getElem?_toArray, List.getElem?_cons_zero, List.getElem?_cons_succ, Option.getD_some]
      rfl
    case r3o10 =>
      intro w9 hG
      intro v4 h4
      change _ = _ at h4
      subst h4
      intro v9 h9
      change _ = _ at h9
      subst h9
      refine turn_on (by rfl) ?_
      intro K hK
      simp only [List.getD_cons_zero, List.getD_cons_succ, List.setIfInBounds_toArray, List.set_cons_zero, List.set_cons_succ]
      go_simp
      refine hK _ _ ⟨rfl, Kept.refl _, ?_⟩
      show _ = _
      simp only [List.getD_cons_zero, List.getD_cons_succ, Array.getD_eq_getD_getElem?, List.getElem?_toArray, List.getElem?_cons_zero, List.getElem?_cons_succ, Option.getD_some]
      rfl
    case r3o11 =>
      intro w9 hG
      intro v10 h10
      change _ = _ at h10
      subst h10
      refine turn_on (by rfl) ?_
      intro K hK
      simp only [List.getD_cons_zero, List.getD_cons_succ, List.setIfInBounds_toArray, List.set_cons_zero, List.set_cons_succ]
      go_simp
      refine hK _ _ ⟨rfl, Kept.refl _, ?_⟩
      show _ = _
      simp only [List.getD_cons_zero, List.getD_cons_succ, Array.getD_eq_getD_getElem?, List.getElem?_toArray, List.getElem?_cons_zero, List.getElem?_cons_succ, Option.getD_some]
      rfl
    case r3o12 =>
      intro w9 hG
      intro v0 h0
      change _ = _ at h0
      subst h0
      intro v11 h11
      change _ = _ at h11
      subst h11
      refine turn_on (by rfl) ?_
      intro K hK
      simp only [List.getD_cons_zero, List.getD_cons_succ, List.setIfInBounds_toArray, List.set_cons_zero, List.set_cons_succ]
      go_simp
      refine hK _ _ ⟨rfl, Kept.refl _, ?_⟩
      show _ = _
      simp only [List.getD_cons_zero, List.getD_cons_succ, Array.getD_eq_getD_getElem?, List.getElem?_toArray, List.getElem?_cons_zero, List.getElem?_cons_succ, Option.getD_some]
      rfl
  intro w9 hG
  intro v0 h0
  change _ = _ at h0
  subst h0
  intro v1 h1
  change _ = _ at h1
  subst h1
  intro v2 h2
  change _ = _ at h2
  subst h2
  intro v3 h3
  change _ = _ at h3
  subst h3
  intro v4 h4
  change _ = _ at h4
  subst h4
  intro v5 h5
  change _ = _ at h5
  subst h5
  intro v6 h6
  change _ = _ at h6
  subst h6
  intro v7 h7
  change _ = _ at h7
  subst h7
  intro v8 h8
  change _ = _ at h8
  subst h8
  intro v9 h9
  change _ = _ at h9
  subst h9
  intro v10 h10
  change _ = _ at h10
  subst h10
  intro v11 h11
  change _ = _ at h11
  subst h11
  intro v12 h12
  change _ = _ at h12
  subst h12
  simp only [Given, List.getD_cons_zero, List.getD_cons_succ, List.setIfInBounds_toArray, List.set_cons_zero, List.set_cons_succ]
  have hb4 : Below h w w9 := hb.drew.trans (Below.mono hG (Nat.le_of_lt hlt2))
  clear hG hb
  go_wp2_with fail
  go_ret
  exact ⟨rfl, hb4⟩

set_option linter.unusedSimpArgs false in
set_option linter.unusedVariables false in
set_option maxRecDepth 100000 in
set_option maxHeartbeats 2000000 in
theorem tok_e6 (h : Nat) (a : Option Addr) (n c : Nat) (x : List Int) (v : Value) (o0 : List Int) (most lit cop : Int) (w : World) (r : RdrAt w h a n c x v o0 most lit cop) (k : Nat) (he : rvE x n = 0) (hv : rvV x n = 2 * (k : Int)) (hk : 1 ≤ k) (hkb : k ≤ 9223372036854775807) (x2 : List Int) (n2 : Nat) (hx2 : x.drop (rvN x n).toNat = x2) (hn2 : n - (rvN x n).toNat = n2) (ho : (o0.length : Int) ≤ most) (hmm : most ≤ 2097152) (hm : most < (o0.length : Int) + k) :
    Calls Try.prog 19 #[.pointer (some ⟨h, 0, none⟩)] w fun e w' => e = .returned (.int .i64 24) ∧ Below h w w' := by
  have R1 := Lib.hid r
  have HE1 := Lib.hid he
  have HV1 := Lib.hid hv
  have HX2 := Lib.hid hx2
  have HN2 := Lib.hid hn2
  have hbit : bits .and .u64 (2 * (k : Int)) 1 = 0 := by rw [u64_and_one _ (by omega) (by omega)]; omega
  have hdiv : (2 * (k : Int)) / 2 = k := by omega
  have hkz : ((k : Int) == 0) = false := beq_eq_false_iff_ne.2 (by omega)
  clear r he hv hx2 hn2
  go_enter Try.func19, Try.ntmps19
  go_wp2_with fail
  refine (next_ok _ _ _ _ _ _ _ _ _ _ _ R1.out HE1.out).mono ?_
  rintro e w1 ⟨hee, ⟨a1, c1, r1⟩, hb1⟩
  rw [HV1.out] at hee
  subst hee
  rw [HX2.out, HN2.out] at r1
  have R2 := Lib.hid r1
  obtain ⟨q0, hq0⟩ : ∃ q0, o0.length = q0 := ⟨_, rfl⟩
  have HQ0 := Lib.hid hq0
  obtain ⟨av, cv0, rfl⟩ := r1.own.shapeN q0 HQ0.out
  have hrow2 := r1.row
  have hlt2 := r1.lt
  have HROW2 := Lib.hid hrow2
  obtain ⟨c0, d1, d2, d3, d4, cf⟩ := cells5 hrow2
  clear r1 hrow2 cf
  rw [hq0] at ho hm
  clear hq0
  go_wp2_with fail
  have hw1 : IntKind.i64.wrap (most - q0) = most - q0 := IntWalk.i64_in _ (by omega)
  have hw2 : IntKind.u64.wrap (most - q0) = most - q0 := by rw [IntKind.wrap_u64]; omega
  have hgt2 : decide (most - (q0 : Int) < k) = true := decide_eq_true (by omega)
  clear c0 d1 d2 d3 d4
  refine' reg_free (G := Kept) (pickF [eqV _, eqV _, eqV _, eqV _, eqV _, eqV _, eqV _, eqV _, eqV _, eqV _, eqV _, eqV _, eqV _]) [42, 43, 44, 45, 46, 47, 48, 49, 50, 51, 52, 53, 54] [[], [], [1], [2], [3], [], [5], [6], [7], [8], [4, 9], [10], [0, 11]] [0, 1, 2, 3, 4, 5, 6, 7, 8, 9, 10, 11, 12] (by kernel_rfl) Kept.refl Kept.trans (pick_stays ⟨eqV_stays _, eqV_stays _, eqV_stays _, eqV_stays _, eqV_stays _, eqV_stays _, eqV_stays _, eqV_stays _, eqV_stays _, eqV_stays _, eqV_stays _, eqV_stays _, eqV_stays _, trivial⟩) 135 rfl (by kernel_rfl) (by kernel_rfl) rfl rfl ?r4obl ?r4fin
  case r4obl =>
    refine And.intro ?r4o0 (And.intro ?r4o1 (And.intro ?r4o2 (And.intro ?r4o3 (And.intro ?r4o4 (And.intro ?r4o5 (And.intro ?r4o6 (And.intro ?r4o7 (And.intro ?r4o8 (And.intro ?r4o9 (And.intro ?r4o10 (And.intro ?r4o11 (And.intro ?r4o12 (True.intro)))))))))))))
    case r4o0 =>
      intro w9 hG
      refine turn_on (by rfl) ?_
      intro K hK
      go_simp
      refine hK _ _ ⟨rfl, Kept.refl _, ?_⟩
      show _ = _
      simp only [List.getD_cons_zero, List.getD_cons_succ, Array.getD_eq_getD_getElem?, List.getElem?_toArray, List.getElem?_cons_zero, List.getElem?_cons_succ, Option.getD_some]
      rfl
    case r4o1 =>
      intro w9 hG
      refine turn_on (by rfl) ?_
      intro K hK
      go_simp
      refine hK _ _ ⟨rfl, Kept.refl _, ?_⟩
      show _ = _
      simp only [List.getD_cons_zero, List.getD_cons_succ, Array.getD_eq_getD_getElem?, List.getElem?_toArray, List.getElem?_cons_zero, List.getElem?_cons_succ, Option.getD_some]
      rfl
    case r4o2 =>
      intro w9 hG
      intro v1 h1
      change _ = _ at h1
      subst h1
      refine turn_on (by rfl) ?_
      intro K hK
      simp only [List.getD_cons_zero, List.getD_cons_succ, List.setIfInBounds_toArray, List.set_cons_zero, List.set_cons_succ]
      go_simp
      refine hK _ _ ⟨rfl, Kept.refl _, ?_⟩
      show _ = _
      simp only [List.getD_cons_zero, List.getD_cons_succ, Array.getD_eq_getD_getElem?, List.getElem?_toArray, List.getElem?_cons_zero, List.getElem?_cons_succ, Option.getD_some]
      rfl
    case r4o3 =>
      intro w9 hG
      intro v2 h2
      change _ = _ at h2
      subst h2
      refine turn_on (by rfl) ?_
      intro K hK
      simp only [List.getD_cons_zero, List.getD_cons_succ, List.setIfInBounds_toArray, List.set_cons_zero, List.set_cons_succ]
      go_simp
      refine hK _ _ ⟨rfl, Kept.refl _, ?_⟩
      show _ = _
      simp only [List.getD_cons_zero, List.getD_cons_succ, Array.getD_eq_getD_getElem?, List.getElem?_toArray, List.getElem?_cons_zero, List.getElem?_cons_succ, Option.getD_some]
      rfl
    case r4o4 =>
      intro w9 hG
      intro v3 h3
      change _ = _ at h3
      subst h3
      refine turn_on (by rfl) ?_
      intro K hK
      simp only [List.getD_cons_zero, List.getD_cons_succ, List.setIfInBounds_toArray, List.set_cons_zero, List.set_cons_succ]
      obtain ⟨c0, d1, d2, d3, d4, cf⟩ := cells5 (row_keep (w := w1.drew) HROW2.out hG)
      clear cf
      go_simp
      refine hK _ _ ⟨rfl, Kept.refl _, ?_⟩
      show _ = _
      simp only [List.getD_cons_zero, List.getD_cons_succ, Array.getD_eq_getD_getElem?, List.getElem?_toArray, List.getElem?_cons_zero, List.getElem?_cons_succ, Option.getD_some]
      rfl
    case r4o5 =>
      intro w9 hG
      refine turn_on (by rfl) ?_
      intro K hK
      go_simp
      refine hK _ _ ⟨rfl, Kept.refl _, ?_⟩
      show _ = _
      simp only [List.getD_cons_zero, List.getD_cons_succ, Array.getD_eq_getD_getElem?, List.getElem?_toArray, List.getElem?_cons_zero, List.getElem?_cons_succ, Option.getD_some]
      rfl
    case r4o6 =>
      intro w9 hG
      intro v5 h5
      change _ = _ at h5
      subst h5
      refine turn_on (by rfl) ?_
      intro K hK
      simp only [List.getD_cons_zero, List.getD_cons_succ, List.setIfInBounds_toArray, List.set_cons_zero, List.set_cons_succ]
      go_simp
      refine hK _ _ ⟨rfl, Kept.refl _, ?_⟩
      show _ = _
      simp only [List.getD_cons_zero, List.getD_cons_succ, Array.getD_eq_getD_getElem?, List.getElem?_toArray, List.getElem?_cons_zero, List.getElem?_cons_succ, Option.getD_some]
      rfl
    case r4o7 =>
      intro w9 hG
      intro v6 h6
      change _ = _ at h6
      subst h6
      refine turn_on (by rfl) ?_
      intro K hK
      simp only [List.getD_cons_zero, List.getD_cons_succ, List.setIfInBounds_toArray, List.set_cons_zero, List.set_cons_succ]
      go_simp
      refine hK _ _ ⟨rfl, Kept.refl _, ?_⟩
      show _ = _
      simp only [List.getD_cons_zero, List.getD_cons_succ, Array.getD_eq_getD_getElem?, List.getElem?_toArray, List.getElem?_cons_zero, List.getElem?_cons_succ, Option.getD_some]
      rfl
    case r4o8 =>
      intro w9 hG
      intro v7 h7
      change _ = _ at h7
      subst h7
      refine turn_on (by rfl) ?_
      intro K hK
      simp only [List.getD_cons_zero, List.getD_cons_succ, List.setIfInBounds_toArray, List.set_cons_zero, List.set_cons_succ]
      obtain ⟨c0, d1, d2, d3, d4, cf⟩ := cells5 (row_keep (w := w1.drew) HROW2.out hG)
      clear cf
      go_simp
      refine hK _ _ ⟨rfl, Kept.refl _, ?_⟩
      show _ = _
      simp only [List.getD_cons_zero, List.getD_cons_succ, Array.getD_eq_getD_getElem?, List.getElem?_toArray, List.getElem?_cons_zero, List.getElem?_cons_succ, Option.getD_some]
      rfl
    case r4o9 =>
      intro w9 hG
      intro v8 h8
      change _ = _ at h8
      subst h8
      refine turn_on (by rfl) ?_
      intro K hK
      simp only [List.getD_cons_zero, List.getD_cons_succ, List.setIfInBounds_toArray, List.set_cons_zero, List.set_cons_succ]
      go_simp
      refine hK _ _ ⟨rfl, Kept.refl _, ?_⟩
      show _ = _
      simp only [List.getD_cons_zero, List.getD_cons_succ, Array.getD_eq_getD_getElem?, List.getElem?_toArray, List.getElem?_cons_zero, List.getElem?_cons_succ, Option.getD_some]
      rfl
    case r4o10 =>
      intro w9 hG
      intro v4 h4
      change _ = _ at h4
      subst h4
      intro v9 h9
      change _ = _ at h9
      subst h9
      refine turn_on (by rfl) ?_
      intro K hK
      simp only [List.getD_cons_zero, List.getD_cons_succ, List.setIfInBounds_toArray, List.set_cons_zero, List.set_cons_succ]
      go_simp
      refine hK _ _ ⟨rfl, Kept.refl _, ?_⟩
      show _ = _
      simp only [List.getD_cons_zero, List.getD_cons_succ, Array.getD_eq_getD_getElem?, List.getElem?_toArray, List.getElem?_cons_zero, List.getElem?_cons_succ, Option.getD_some]
      rfl
    case r4o11 =>
      intro w9 hG
      intro v10 h10
      change _ = _ at h10
      subst h10
      refine turn_on (by rfl) ?_
      intro K hK
      simp only [List.getD_cons_zero, List.getD_cons_succ, List.setIfInBounds_toArray, List.set_cons_zero, List.set_cons_succ]
      go_simp
      refine hK _ _ ⟨rfl, Kept.refl _, ?_⟩
      show _ = _
      simp only [List.getD_cons_zero, List.getD_cons_succ, Array.getD_eq_getD_getElem?, List.getElem?_toArray, List.getElem?_cons_zero, List.getElem?_cons_succ, Option.getD_some]
      rfl
    case r4o12 =>
      intro w9 hG
      intro v0 h0
      change _ = _ at h0
      subst h0
      intro v11 h11
      change _ = _ at h11
      subst h11
      refine turn_on (by rfl) ?_
      intro K hK
      simp only [List.getD_cons_zero, List.getD_cons_succ, List.setIfInBounds_toArray, List.set_cons_zero, List.set_cons_succ]
      go_simp
      refine hK _ _ ⟨rfl, Kept.refl _, ?_⟩
      show _ = _
      simp only [List.getD_cons_zero, List.getD_cons_succ, Array.getD_eq_getD_getElem?, List.getElem?_toArray, List.getElem?_cons_zero, List.getElem?_cons_succ, Option.getD_some]
      rfl
  intro w9 hG
  intro v0 h0
  change _ = _ at h0
  subst h0
  intro v1 h1
  change _ = _ at h1
  subst h1
  intro v2 h2
  change _ = _ at h2
  subst h2
  intro v3 h3
  change _ = _ at h3
  subst h3
  intro v4 h4
  change _ = _ at h4
  subst h4
  intro v5 h5
  change _ = _ at h5
  subst h5
  intro v6 h6
  change _ = _ at h6
  subst h6
  intro v7 h7
  change _ = _ at h7
  subst h7
  intro v8 h8
  change _ = _ at h8
  subst h8
  intro v9 h9
  change _ = _ at h9
  subst h9
  intro v10 h10
  change _ = _ at h10
  subst h10
  intro v11 h11
  change _ = _ at h11
  subst h11
  intro v12 h12
  change _ = _ at h12
  subst h12
  simp only [Given, List.getD_cons_zero, List.getD_cons_succ, List.setIfInBounds_toArray, List.set_cons_zero, List.set_cons_succ]
  have hb4 : Below h w w9 := hb1.drew.trans (Below.mono hG (Nat.le_of_lt hlt2))
  clear hG hb1
  go_wp2_with fail
  go_ret
  exact ⟨rfl, hb4⟩

set_option linter.unusedSimpArgs false in
set_option linter.unusedVariables false in
set_option maxRecDepth 100000 in
set_option maxHeartbeats 2000000 in
theorem tok_e7 (h : Nat) (a : Option Addr) (n c : Nat) (x : List Int) (v : Value) (o0 : List Int) (most lit cop : Int) (w : World) (r : RdrAt w h a n c x v o0 most lit cop) (k : Nat) (he : rvE x n = 0) (hv : rvV x n = 2 * (k : Int)) (hk : 1 ≤ k) (hkb : k ≤ 9223372036854775807) (x2 : List Int) (n2 : Nat) (hx2 : x.drop (rvN x n).toNat = x2) (hn2 : n - (rvN x n).toNat = n2) (ho : (o0.length : Int) ≤ most) (hmm : most ≤ 2097152) (hm : (o0.length : Int) + k ≤ most) (hkn : n2 < k) :
    Calls Try.prog 19 #[.pointer (some ⟨h, 0, none⟩)] w fun e w' => e = .returned (.int .i64 21) ∧ Below h w w' := by
  have R1 := Lib.hid r
  have HE1 := Lib.hid he
  have HV1 := Lib.hid hv
  have HX2 := Lib.hid hx2
  have HN2 := Lib.hid hn2
  have hbit : bits .and .u64 (2 * (k : Int)) 1 = 0 := by rw [u64_and_one _ (by omega) (by omega)]; omega
  have hdiv : (2 * (k : Int)) / 2 = k := by omega
  have hkz : ((k : Int) == 0) = false := beq_eq_false_iff_ne.2 (by omega)
  clear r he hv hx2 hn2
  go_enter Try.func19, Try.ntmps19
  go_wp2_with fail
  refine (next_ok _ _ _ _ _ _ _ _ _ _ _ R1.out HE1.out).mono ?_
  rintro e w1 ⟨hee, ⟨a1, c1, r1⟩, hb1⟩
  rw [HV1.out] at hee
  subst hee
  rw [HX2.out, HN2.out] at r1
  have R2 := Lib.hid r1
  obtain ⟨q0, hq0⟩ : ∃ q0, o0.length = q0 := ⟨_, rfl⟩
  have HQ0 := Lib.hid hq0
  obtain ⟨av, cv0, rfl⟩ := r1.own.shapeN q0 HQ0.out
  have hrow2 := r1.row
  have hlt2 := r1.lt
  have HROW2 := Lib.hid hrow2
  obtain ⟨c0, d1, d2, d3, d4, cf⟩ := cells5 hrow2
  clear r1 hrow2 cf
  rw [hq0] at ho hm
  clear hq0
  have hgt3 : decide ((n2 : Int) < k) = true := decide_eq_true (by omega)
  have hgt4 : decide (n2 < k) = true := decide_eq_true (by omega)
  go_wp2_with fail
  have hw1 : IntKind.i64.wrap (most - q0) = most - q0 := IntWalk.i64_in _ (by omega)
  have hw2 : IntKind.u64.wrap (most - q0) = most - q0 := by rw [IntKind.wrap_u64]; omega
  have hgt2 : decide (most - (q0 : Int) < k) = false := decide_eq_false (by omega)
  clear c0 d1 d2 d3 d4
  refine' reg_free (G := Kept) (pickF [eqV _, eqV _, eqV _, eqV _, eqV _, eqV _, eqV _, eqV _, eqV _, eqV _, eqV _, eqV _, eqV _]) [42, 43, 44, 45, 46, 47, 48, 49, 50, 51, 52, 53, 54] [[], [], [1], [2], [3], [], [5], [6], [7], [8], [4, 9], [10], [0, 11]] [0, 1, 2, 3, 4, 5, 6, 7, 8, 9, 10, 11, 12] (by kernel_rfl) Kept.refl Kept.trans (pick_stays ⟨eqV_stays _, eqV_stays _, eqV_stays _, eqV_stays _, eqV_stays _, eqV_stays _, eqV_stays _, eqV_stays _, eqV_stays _, eqV_stays _, eqV_stays _, eqV_stays _, eqV_stays _, trivial⟩) 135 rfl (by kernel_rfl) (by kernel_rfl) rfl rfl ?r5obl ?r5fin
  case r5obl =>
    refine And.intro ?r5o0 (And.intro ?r5o1 (And.intro ?r5o2 (And.intro ?r5o3 (And.intro ?r5o4 (And.intro ?r5o5 (And.intro ?r5o6 (And.intro ?r5o7 (And.intro ?r5o8 (And.intro ?r5o9 (And.intro ?r5o10 (And.intro ?r5o11 (And.intro ?r5o12 (True.intro)))))))))))))
    case r5o0 =>
      intro w9 hG
      refine turn_on (by rfl) ?_
      intro K hK
      go_simp
      refine hK _ _ ⟨rfl, Kept.refl _, ?_⟩
      show _ = _
      simp only [List.getD_cons_zero, List.getD_cons_succ, Array.getD_eq_getD_getElem?, List.getElem?_toArray, List.getElem?_cons_zero, List.getElem?_cons_succ, Option.getD_some]
      rfl
    case r5o1 =>
      intro w9 hG
      refine turn_on (by rfl) ?_
      intro K hK
      go_simp
      refine hK _ _ ⟨rfl, Kept.refl _, ?_⟩
      show _ = _
      simp only [List.getD_cons_zero, List.getD_cons_succ, Array.getD_eq_getD_getElem?, List.getElem?_toArray, List.getElem?_cons_zero, List.getElem?_cons_succ, Option.getD_some]
      rfl
    case r5o2 =>
      intro w9 hG
      intro v1 h1
      change _ = _ at h1
      subst h1
      refine turn_on (by rfl) ?_
      intro K hK
      simp only [List.getD_cons_zero, List.getD_cons_succ, List.setIfInBounds_toArray, List.set_cons_zero, List.set_cons_succ]
      go_simp
      refine hK _ _ ⟨rfl, Kept.refl _, ?_⟩
      show _ = _
      simp only [List.getD_cons_zero, List.getD_cons_succ, Array.getD_eq_getD_getElem?, List.getElem?_toArray, List.getElem?_cons_zero, List.getElem?_cons_succ, Option.getD_some]
      rfl
    case r5o3 =>
      intro w9 hG
      intro v2 h2
      change _ = _ at h2
      subst h2
      refine turn_on (by rfl) ?_
      intro K hK
      simp only [List.getD_cons_zero, List.getD_cons_succ, List.setIfInBounds_toArray, List.set_cons_zero, List.set_cons_succ]
      go_simp
      refine hK _ _ ⟨rfl, Kept.refl _, ?_⟩
      show _ = _
      simp only [List.getD_cons_zero, List.getD_cons_succ, Array.getD_eq_getD_getElem?, List.getElem?_toArray, List.getElem?_cons_zero, List.getElem?_cons_succ, Option.getD_some]
      rfl
    case r5o4 =>
      intro w9 hG
      intro v3 h3
      change _ = _ at h3
      subst h3
      refine turn_on (by rfl) ?_
      intro K hK
      simp only [List.getD_cons_zero, List.getD_cons_succ, List.setIfInBounds_toArray, List.set_cons_zero, List.set_cons_succ]
      obtain ⟨c0, d1, d2, d3, d4, cf⟩ := cells5 (row_keep (w := w1.drew) HROW2.out hG)
      clear cf
      go_simp
      refine hK _ _ ⟨rfl, Kept.refl _, ?_⟩
      show _ = _
      simp only [List.getD_cons_zero, List.getD_cons_succ, Array.getD_eq_getD_getElem?, List.getElem?_toArray, List.getElem?_cons_zero, List.getElem?_cons_succ, Option.getD_some]
      rfl
    case r5o5 =>
      intro w9 hG
      refine turn_on (by rfl) ?_
      intro K hK
      go_simp
      refine hK _ _ ⟨rfl, Kept.refl _, ?_⟩
      show _ = _
      simp only [List.getD_cons_zero, List.getD_cons_succ, Array.getD_eq_getD_getElem?, List.getElem?_toArray, List.getElem?_cons_zero, List.getElem?_cons_succ, Option.getD_some]
      rfl
    case r5o6 =>
      intro w9 hG
      intro v5 h5
      change _ = _ at h5
      subst h5
      refine turn_on (by rfl) ?_
      intro K hK
      simp only [List.getD_cons_zero, List.getD_cons_succ, List.setIfInBounds_toArray, List.set_cons_zero, List.set_cons_succ]
      go_simp
      refine hK _ _ ⟨rfl, Kept.refl _, ?_⟩
      show _ = _
      simp only [List.getD_cons_zero, List.getD_cons_succ, Array.getD_eq_getD_getElem?, List.getElem?_toArray, List.getElem?_cons_zero, List.getElem?_cons_succ, Option.getD_some]
      rfl
    case r5o7 =>
      intro w9 hG
      intro v6 h6
      change _ = _ at h6
      subst h6
      refine turn_on (by rfl) ?_
      intro K hK
      simp only [List.getD_cons_zero, List.getD_cons_succ, List.setIfInBounds_toArray, List.set_cons_zero, List.set_cons_succ]
      go_simp
      refine hK _ _ ⟨rfl, Kept.refl _, ?_⟩
      show _ = _
      simp only [List.getD_cons_zero, List.getD_cons_succ, Array.getD_eq_getD_getElem?, List.getElem?_toArray, List.getElem?_cons_zero, List.getElem?_cons_succ, Option.getD_some]
      rfl
    case r5o8 =>
      intro w9 hG
      intro v7 h7
      change _ = _ at h7
      subst h7
      refine turn_on (by rfl) ?_
      intro K hK
      simp only [List.getD_cons_zero, List.getD_cons_succ, List.setIfInBounds_toArray, List.set_cons_zero, List.set_cons_succ]
      obtain ⟨c0, d1, d2, d3, d4, cf⟩ := cells5 (row_keep (w := w1.drew) HROW2.out hG)
      clear cf
      go_simp
      refine hK _ _ ⟨rfl, Kept.refl _, ?_⟩
      show _ = _
      simp only [List.getD_cons_zero, List.getD_cons_succ, Array.getD_eq_getD_getElem?, List.getElem?_toArray, List.getElem?_cons_zero, List.getElem?_cons_succ, Option.getD_some]
      rfl
    case r5o9 =>
      intro w9 hG
      intro v8 h8
      change _ = _ at h8
      subst h8
      refine turn_on (by rfl) ?_
      intro K hK
      simp only [List.getD_cons_zero, List.getD_cons_succ, List.setIfInBounds_toArray, List.set_cons_zero, List.set_cons_succ]
      go_simp
      refine hK _ _ ⟨rfl, Kept.refl _, ?_⟩
      show _ = _
      simp only [List.getD_cons_zero, List.getD_cons_succ, Array.getD_eq_getD_getElem?, List.getElem?_toArray, List.getElem?_cons_zero, List.getElem?_cons_succ, Option.getD_some]
      rfl
    case r5o10 =>
      intro w9 hG
      intro v4 h4
      change _ = _ at h4
      subst h4
      intro v9 h9
      change _ = _ at h9
      subst h9
      refine turn_on (by rfl) ?_
      intro K hK
      simp only [List.getD_cons_zero, List.getD_cons_succ, List.setIfInBounds_toArray, List.set_cons_zero, List.set_cons_succ]
      go_simp
      refine hK _ _ ⟨rfl, Kept.refl _, ?_⟩
      show _ = _
      simp only [List.getD_cons_zero, List.getD_cons_succ, Array.getD_eq_getD_getElem?, List.getElem?_toArray, List.getElem?_cons_zero, List.getElem?_cons_succ, Option.getD_some]
      rfl
    case r5o11 =>
      intro w9 hG
      intro v10 h10
      change _ = _ at h10
      subst h10
      refine turn_on (by rfl) ?_
      intro K hK
      simp only [List.getD_cons_zero, List.getD_cons_succ, List.setIfInBounds_toArray, List.set_cons_zero, List.set_cons_succ]
      go_simp
      refine hK _ _ ⟨rfl, Kept.refl _, ?_⟩
      show _ = _
      simp only [List.getD_cons_zero, List.getD_cons_succ, Array.getD_eq_getD_getElem?, List.getElem?_toArray, List.getElem?_cons_zero, List.getElem?_cons_succ, Option.getD_some]
      rfl
    case r5o12 =>
      intro w9 hG
      intro v0 h0
      change _ = _ at h0
      subst h0
      intro v11 h11
      change _ = _ at h11
      subst h11
      refine turn_on (by rfl) ?_
      intro K hK
      simp only [List.getD_cons_zero, List.getD_cons_succ, List.setIfInBounds_toArray, List.set_cons_zero, List.set_cons_succ]
      go_simp
      refine hK _ _ ⟨rfl, Kept.refl _, ?_⟩
      show _ = _
      simp only [List.getD_cons_zero, List.getD_cons_succ, Array.getD_eq_getD_getElem?, List.getElem?_toArray, List.getElem?_cons_zero, List.getElem?_cons_succ, Option.getD_some]
      rfl
  intro w9 hG
  intro v0 h0
  change _ = _ at h0
  subst h0
  intro v1 h1
  change _ = _ at h1
  subst h1
  intro v2 h2
  change _ = _ at h2
  subst h2
  intro v3 h3
  change _ = _ at h3
  subst h3
  intro v4 h4
  change _ = _ at h4
  subst h4
  intro v5 h5
  change _ = _ at h5
  subst h5
  intro v6 h6
  change _ = _ at h6
  subst h6
  intro v7 h7
  change _ = _ at h7
  subst h7
  intro v8 h8
  change _ = _ at h8
  subst h8
  intro v9 h9
  change _ = _ at h9
  subst h9
  intro v10 h10
  change _ = _ at h10
  subst h10
  intro v11 h11
  change _ = _ at h11
  subst h11
  intro v12 h12
  change _ = _ at h12
  subst h12
  simp only [Given, List.getD_cons_zero, List.getD_cons_succ, List.setIfInBounds_toArray, List.set_cons_zero, List.set_cons_succ]
  have hb4 : Below h w w9 := hb1.drew.trans (Below.mono hG (Nat.le_of_lt hlt2))
  obtain ⟨c0, d1, d2, d3, d4, cf⟩ := cells5 (row_keep (w := w1.drew) HROW2.out hG)
  clear hG hb1 cf
  go_wp2_with fail
  go_ret
  exact ⟨rfl, hb4⟩
end Go.Proofs.Ytfoabnoolmeoiaa
