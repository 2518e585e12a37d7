/- lz's token: what it answers where the row of tokens is sound, and where it is not. -/
import Derived.Test.YtfoabnoolmeoiaaLzPre
namespace Go.Proofs.Ytfoabnoolmeoiaa
open Go.RowKit
set_option linter.unusedSimpArgs false in
set_option linter.unusedVariables false in
set_option maxRecDepth 100000 in
set_option maxHeartbeats 2000000 in
theorem tok_copy (h : Nat) (a : Option Addr) (n c : Nat) (x : List Int) (v : Value) (o0 : List Int) (most lit cop : Int) (w : World) (k d : Nat) (r : RdrAt w h a n c x v o0 most lit cop)
    (he : rvE x n = 0) (hv : rvV x n = 2 * (k : Int) + 1) (hk : 1 ≤ k) (x2 : List Int) (n2 : Nat) (hx2 : x.drop (rvN x n).toNat = x2) (hn2 : n - (rvN x n).toNat = n2) (he2 : rvE x2 n2 = 0) (hv2 : rvV x2 n2 = d) (hd1 : 1 ≤ d) (hd2 : d ≤ o0.length)
    (hm : (o0.length : Int) + k ≤ most) (hmm : most ≤ 2097152) (hc0 : 0 ≤ cop) (hc1 : cop ≤ 2097152) :
    Calls Try.prog 19 #[.pointer (some ⟨h, 0, none⟩)] w fun e w' => e = .returned (.int .i64 0) ∧ (∃ a' c' v', RdrAt w' h a' (n2 - (rvN x2 n2).toNat) c' (x2.drop (rvN x2 n2).toNat) v' (copyN o0 d k) most lit (cop + k)) ∧ Below h w w' := by
  have R1 := Lib.hid r
  have HE1 := Lib.hid he
  have HE2 := Lib.hid he2
  have HV1 := Lib.hid hv
  have HV2 := Lib.hid hv2
  have HX2 := Lib.hid hx2
  have HN2 := Lib.hid hn2
  have hbit : bits .and .u64 (2 * (k : Int) + 1) 1 = 1 := by rw [u64_and_one _ (by omega) (by omega)]; omega
  have hdiv : (2 * (k : Int) + 1) / 2 = k := by omega
  have hdz : ((d : Int) == 0) = false := beq_eq_false_iff_ne.2 (by omega)
  have hkz : ((k : Int) == 0) = false := beq_eq_false_iff_ne.2 (by omega)
  clear r he hv hx2 hn2 he2 hv2
  go_enter Try.func19, Try.ntmps19
  go_wp2_with fail
  refine (next_ok _ _ _ _ _ _ _ _ _ _ _ R1.out HE1.out).mono ?_
  rintro e w1 ⟨hee, ⟨a1, c1, r1⟩, hb1⟩
  rw [HV1.out] at hee
  subst hee
  rw [HX2.out, HN2.out] at r1
  have R2 := Lib.hid r1
  clear r1
  go_wp2_with fail
  refine (next_ok _ _ _ _ _ _ _ _ _ _ _ R2.out HE2.out).mono ?_
  rintro e w2 ⟨hee, ⟨a2, c2, r2⟩, hb2⟩
  rw [HV2.out] at hee
  subst hee
  have hb := hb1.trans hb2
  clear hb1 hb2
  obtain ⟨n3, hn3⟩ : ∃ n3, n2 - (rvN x2 n2).toNat = n3 := ⟨_, rfl⟩
  obtain ⟨x3, hx3⟩ : ∃ x3, x2.drop (rvN x2 n2).toNat = x3 := ⟨_, rfl⟩
  rw [hn3, hx3] at r2
  have HN3 := Lib.hid hn3
  have HX3 := Lib.hid hx3
  clear hn3 hx3
  obtain ⟨q0, hq0⟩ : ∃ q0, o0.length = q0 := ⟨_, rfl⟩
  rw [hq0] at hd2 hm
  have HQ0 := Lib.hid hq0
  clear hq0
  obtain ⟨av, cv0, rfl⟩ := r2.own.shapeN q0 HQ0.out
  obtain ⟨g0, hga, hgb, hgs, _, _⟩ := r2.own.cellAt 0 (by rw [HQ0.out]; omega)
  subst hga
  have hrow2 := r2.row
  have hlt2 := r2.lt
  have R3 := Lib.hid r2
  have HROW2 := Lib.hid hrow2
  have hgt : decide ((q0 : Int) < d) = false := decide_eq_false (by omega)
  have hgtn : decide (q0 < d) = false := decide_eq_false (by omega)
  obtain ⟨c0, d1, d2, d3, d4, cf⟩ := cells5 hrow2
  clear r2 hrow2 cf
  go_wp2_with fail
  have hw1 : IntKind.i64.wrap (most - q0) = most - q0 := IntWalk.i64_in _ (by omega)
  have hw2 : IntKind.u64.wrap (most - q0) = most - q0 := by rw [IntKind.wrap_u64]; omega
  have hgt2 : decide (most - (q0 : Int) < k) = false := decide_eq_false (by omega)
  clear c0 d1 d2 d3 d4
  refine' reg_free (G := Kept) (pickF [eqV _, eqV _, eqV _, eqV _, eqV _, eqV _, eqV _, eqV _, eqV _, eqV _, eqV _, eqV _, eqV _]) [42, 43, 44, 45, 46, 47, 48, 49, 50, 51, 52, 53, 54] [[], [], [1], [2], [3], [], [5], [6], [7], [8], [4, 9], [10], [0, 11]] [0, 1, 2, 3, 4, 5, 6, 7, 8, 9, 10, 11, 12] (by kernel_rfl) Kept.refl Kept.trans (pick_stays ⟨eqV_stays _, eqV_stays _, eqV_stays _, eqV_stays _, eqV_stays _, eqV_stays _, eqV_stays _, eqV_stays _, eqV_stays _, eqV_stays _, eqV_stays _, eqV_stays _, eqV_stays _, trivial⟩) 135 rfl (by kernel_rfl) (by kernel_rfl) rfl rfl ?r2obl ?r2fin
  case r2obl =>
    refine And.intro ?r2o0 (And.intro ?r2o1 (And.intro ?r2o2 (And.intro ?r2o3 (And.intro ?r2o4 (And.intro ?r2o5 (And.intro ?r2o6 (And.intro ?r2o7 (And.intro ?r2o8 (And.intro ?r2o9 (And.intro ?r2o10 (And.intro ?r2o11 (And.intro ?r2o12 (True.intro)))))))))))))
    case r2o0 =>
      intro w1 hG
      refine turn_on (by rfl) ?_
      intro K hK
      go_simp
      refine hK _ _ ⟨rfl, Kept.refl _, ?_⟩
      show _ = _
      simp only [List.getD_cons_zero, List.getD_cons_succ, Array.getD_eq_getD_getElem?, List.getElem?_toArray, List.getElem?_cons_zero, List.getElem?_cons_succ, Option.getD_some]
      rfl
    case r2o1 =>
      intro w1 hG
      refine turn_on (by rfl) ?_
      intro K hK
      go_simp
      refine hK _ _ ⟨rfl, Kept.refl _, ?_⟩
      show _ = _
      simp only [List.getD_cons_zero, List.getD_cons_succ, Array.getD_eq_getD_getElem?, List.getElem?_toArray, List.getElem?_cons_zero, List.getElem?_cons_succ, Option.getD_some]
      rfl
    case r2o2 =>
      intro w1 hG
      intro v1 h1
      change _ = _ at h1
      subst h1
      refine turn_on (by rfl) ?_
      intro K hK
      simp only [List.getD_cons_zero, List.getD_cons_succ, List.setIfInBounds_toArray, List.set_cons_zero, List.set_cons_succ]
      go_simp
      refine hK _ _ ⟨rfl, Kept.refl _, ?_⟩
      show _ = _
      simp only [List.getD_cons_zero, List.getD_cons_succ, Array.getD_eq_getD_getElem?, List.getElem?_toArray, List.getElem?_cons_zero, List.getElem?_cons_succ, Option.getD_some]
      rfl
    case r2o3 =>
      intro w1 hG
      intro v2 h2
      change _ = _ at h2
      subst h2
      refine turn_on (by rfl) ?_
      intro K hK
      simp only [List.getD_cons_zero, List.getD_cons_succ, List.setIfInBounds_toArray, List.set_cons_zero, List.set_cons_succ]
      go_simp
      refine hK _ _ ⟨rfl, Kept.refl _, ?_⟩
      show _ = _
      simp only [List.getD_cons_zero, List.getD_cons_succ, Array.getD_eq_getD_getElem?, List.getElem?_toArray, List.getElem?_cons_zero, List.getElem?_cons_succ, Option.getD_some]
      rfl
    case r2o4 =>
      intro w1 hG
      intro v3 h3
      change _ = _ at h3
      subst h3
      refine turn_on (by rfl) ?_
      intro K hK
      simp only [List.getD_cons_zero, List.getD_cons_succ, List.setIfInBounds_toArray, List.set_cons_zero, List.set_cons_succ]
      obtain ⟨c0, d1, d2, d3, d4, cf⟩ := cells5 (row_keep (w := w2.drew) HROW2.out hG)
      clear cf
      go_simp
      refine hK _ _ ⟨rfl, Kept.refl _, ?_⟩
      show _ = _
      simp only [List.getD_cons_zero, List.getD_cons_succ, Array.getD_eq_getD_getElem?, List.getElem?_toArray, List.getElem?_cons_zero, List.getElem?_cons_succ, Option.getD_some]
      rfl
    case r2o5 =>
      intro w1 hG
      refine turn_on (by rfl) ?_
      intro K hK
      go_simp
      refine hK _ _ ⟨rfl, Kept.refl _, ?_⟩
      show _ = _
      simp only [List.getD_cons_zero, List.getD_cons_succ, Array.getD_eq_getD_getElem?, List.getElem?_toArray, List.getElem?_cons_zero, List.getElem?_cons_succ, Option.getD_some]
      rfl
    case r2o6 =>
      intro w1 hG
      intro v5 h5
      change _ = _ at h5
      subst h5
      refine turn_on (by rfl) ?_
      intro K hK
      simp only [List.getD_cons_zero, List.getD_cons_succ, List.setIfInBounds_toArray, List.set_cons_zero, List.set_cons_succ]
      go_simp
      refine hK _ _ ⟨rfl, Kept.refl _, ?_⟩
      show _ = _
      simp only [List.getD_cons_zero, List.getD_cons_succ, Array.getD_eq_getD_getElem?, List.getElem?_toArray, List.getElem?_cons_zero, List.getElem?_cons_succ, Option.getD_some]
      rfl
    case r2o7 =>
      intro w1 hG
      intro v6 h6
      change _ = _ at h6
      subst h6
      refine turn_on (by rfl) ?_
      intro K hK
      simp only [List.getD_cons_zero, List.getD_cons_succ, List.setIfInBounds_toArray, List.set_cons_zero, List.set_cons_succ]
      go_simp
      refine hK _ _ ⟨rfl, Kept.refl _, ?_⟩
      show _ = _
      simp only [List.getD_cons_zero, List.getD_cons_succ, Array.getD_eq_getD_getElem?, List.getElem?_toArray, List.getElem?_cons_zero, List.getElem?_cons_succ, Option.getD_some]
      rfl
    case r2o8 =>
      intro w1 hG
      intro v7 h7
      change _ = _ at h7
      subst h7
      refine turn_on (by rfl) ?_
      intro K hK
      simp only [List.getD_cons_zero, List.getD_cons_succ, List.setIfInBounds_toArray, List.set_cons_zero, List.set_cons_succ]
      obtain ⟨c0, d1, d2, d3, d4, cf⟩ := cells5 (row_keep (w := w2.drew) HROW2.out hG)
      clear cf
      go_simp
      refine hK _ _ ⟨rfl, Kept.refl _, ?_⟩
      show _ = _
      simp only [List.getD_cons_zero, List.getD_cons_succ, Array.getD_eq_getD_getElem?, List.getElem?_toArray, List.getElem?_cons_zero, List.getElem?_cons_succ, Option.getD_some]
      rfl
    case r2o9 =>
      intro w1 hG
      intro v8 h8
      change _ = _ at h8
      subst h8
      refine turn_on (by rfl) ?_
      intro K hK
      simp only [List.getD_cons_zero, List.getD_cons_succ, List.setIfInBounds_toArray, List.set_cons_zero, List.set_cons_succ]
      go_simp
      refine hK _ _ ⟨rfl, Kept.refl _, ?_⟩
      show _ = _
      simp only [List.getD_cons_zero, List.getD_cons_succ, Array.getD_eq_getD_getElem?, List.getElem?_toArray, List.getElem?_cons_zero, List.getElem?_cons_succ, Option.getD_some]
      rfl
    case r2o10 =>
      intro w1 hG
      intro v4 h4
      change _ = _ at h4
      subst h4
      intro v9 h9
      change _ = _ at h9
      subst h9
      refine turn_on (by rfl) ?_
      intro K hK
      simp only [List.getD_cons_zero, List.getD_cons_succ, List.setIfInBounds_toArray, List.set_cons_zero, List.set_cons_succ]
      go_simp
      refine hK _ _ ⟨rfl, Kept.refl _, ?_⟩
      show _ = _
      simp only [List.getD_cons_zero, List.getD_cons_succ, Array.getD_eq_getD_getElem?, List.getElem?_toArray, List.getElem?_cons_zero, List.getElem?_cons_succ, Option.getD_some]
      rfl
    case r2o11 =>
      intro w1 hG
      intro v10 h10
      change _ = _ at h10
      subst h10
      refine turn_on (by rfl) ?_
      intro K hK
      simp only [List.getD_cons_zero, List.getD_cons_succ, List.setIfInBounds_toArray, List.set_cons_zero, List.set_cons_succ]
      go_simp
      refine hK _ _ ⟨rfl, Kept.refl _, ?_⟩
      show _ = _
      simp only [List.getD_cons_zero, List.getD_cons_succ, Array.getD_eq_getD_getElem?, List.getElem?_toArray, List.getElem?_cons_zero, List.getElem?_cons_succ, Option.getD_some]
      rfl
    case r2o12 =>
      intro w1 hG
      intro v0 h0
      change _ = _ at h0
      subst h0
      intro v11 h11
      change _ = _ at h11
      subst h11
      refine turn_on (by rfl) ?_
      intro K hK
      simp only [List.getD_cons_zero, List.getD_cons_succ, List.setIfInBounds_toArray, List.set_cons_zero, List.set_cons_succ]
      go_simp
      refine hK _ _ ⟨rfl, Kept.refl _, ?_⟩
      show _ = _
      simp only [List.getD_cons_zero, List.getD_cons_succ, Array.getD_eq_getD_getElem?, List.getElem?_toArray, List.getElem?_cons_zero, List.getElem?_cons_succ, Option.getD_some]
      rfl
  intro w1 hG
  intro v0 h0
  change _ = _ at h0
  subst h0
  intro v1 h1
  change _ = _ at h1
  subst h1
  intro v2 h2
  change _ = _ at h2
  subst h2
  intro v3 h3
  change _ = _ at h3
  subst h3
  intro v4 h4
  change _ = _ at h4
  subst h4
  intro v5 h5
  change _ = _ at h5
  subst h5
  intro v6 h6
  change _ = _ at h6
  subst h6
  intro v7 h7
  change _ = _ at h7
  subst h7
  intro v8 h8
  change _ = _ at h8
  subst h8
  intro v9 h9
  change _ = _ at h9
  subst h9
  intro v10 h10
  change _ = _ at h10
  subst h10
  intro v11 h11
  change _ = _ at h11
  subst h11
  intro v12 h12
  change _ = _ at h12
  subst h12
  simp only [Given, List.getD_cons_zero, List.getD_cons_succ, List.setIfInBounds_toArray, List.set_cons_zero, List.set_cons_succ]
  have R4 : Hid (RdrAt w1 h a2 n3 c2 x3 (.slice (some ⟨g0, 0, none⟩) q0 cv0) o0 most lit cop) := ⟨row_keep (w := w2.drew) HROW2.out hG, R3.out.rd.keptW hG, R3.out.low, R3.out.own.keptD hG⟩
  have hb4 : Below h w w1 := hb.drew.trans (Below.mono hG (Nat.le_of_lt hlt2))
  obtain ⟨_, _, _, _, c4, cf⟩ := cells5 R4.out.row
  have cf4 := cf 4
  have R5 := Lib.hid (R4.out.setC (cop + k))
  have hb5 := hb4.trans (below_cell w1 h 4 (.int .i64 (cop + k)))
  clear cf hG hb hb4 hw1 hw2 hgt hgtn hgt2
  go_wp2_with fail
  go_loopw [68] (fun i wr => ∃ (j : Nat) (v : Value), j ≤ k ∧ i = .int .u64 j ∧ RdrAt wr h a2 n3 c2 x3 v (copyN o0 d j) most lit (cop + k) ∧ Below h w wr) (fun i _ => k - (intOf i).toNat)
  case atStart => exact ⟨0, _, by omega, rfl, R5.out, hb5⟩
  case round =>
    clear c4 cf4 hb5
    obtain ⟨j, v, hj, rfl, r, hbr⟩ := hrel
    by_cases hp : j < k
    · have HC : Hid (copyN o0 d (j + 1) = copyN o0 d j ++ [nth (copyN o0 d j) ((copyN o0 d j).length - d)]) := by show _ = _; rfl
      have hlen := copyN_len o0 d j
      generalize copyN o0 d j = o at *
      obtain ⟨q9, hq9⟩ : ∃ q9, o.length = q9 := ⟨_, rfl⟩
      rw [hq9, HQ0.out] at hlen
      have HQ9 := Lib.hid hq9
      clear hq9
      have hql : q0 ≤ q9 ∧ q9 < q0 + k := by omega
      obtain ⟨hql1, hql2⟩ := hql
      obtain ⟨av, cv, rfl⟩ := r.own.shapeN q9 HQ9.out
      clear hlen
      go_wp2_with fail
      have hq9c : 0 < cv := by have := r.own.rd.cap; omega
      have hrow0 := r.row
      have hlt : h < wr.heap.size := r.lt
      obtain ⟨g, hga, hgb, hgs, _, _⟩ := r.own.cellAt 0 (by rw [HQ9.out]; omega)
      subst hga
      have hroom : room (.slice (some ⟨g, 0, none⟩) q9 cv) = some g := hrm _ _ _ hq9c
      have hrv : (some g : Option Nat) ≠ some h := fun e => by injection e with e; omega
      obtain ⟨w0, hw0⟩ : ∃ w0 : World, w0 = wr := ⟨_, rfl⟩
      have hsz0 : w0.heap.size = wr.heap.size := by rw [hw0]
      have hlt0 : h ≤ w0.heap.size := by omega
      have hgs0 : g < w0.heap.size := by omega
      have hsz1 : w0.heap.size ≤ wr.drew.heap.size := Nat.le_of_eq hsz0
      have hlt1 : h < wr.drew.heap.size := hlt
      have hrow : wr.drew.heap[h]? = some (.cells #[.slice a2 n3 c2, (.slice (some ⟨g, 0, none⟩) q9 cv), .int .i64 most, .int .i64 lit, .int .i64 (cop + k)] 43 (0, 0)) := hrow0
      have hown0 : Owns .u8 5 wr.drew (h + 1) (.slice (some ⟨g, 0, none⟩) q9 cv) o := r.own
      have hB0 : Below h w0 wr.drew := by rw [hw0]; exact (Below.refl h wr).drew
      have hwd : IntKind.i64.wrap (d : Int) = d := IntWalk.i64_in _ (by omega)
      have hws : IntKind.i64.wrap ((q9 : Int) - d) = ((q9 - d : Nat) : Int) := by rw [IntWalk.i64_in _ (by omega)]; omega
      have hqi : q9 - d < q9 := by omega
      have hqw : (Lit.int .u8 (nth o (q9 - d))).wf = true := r.own.1 _ (by rw [nth_eq (by rw [HQ9.out]; omega)]; exact List.getElem_mem _)
      refine' reg_order [eqV _, eqV _, eqV _, eqV _, eqV _, eqV _, eqV _, eqV _, eqV _, eqV _, eqV _, eqV _, eqV _, eqV _, eqV _, eqV _, eqV _, eqV _, eqV _, (fun v' w => ∃ blk, v' = .slice (some ⟨blk, 0, none⟩) 1 1 ∧ w0.heap.size ≤ blk ∧ RdAt .u8 w (some ⟨blk, 0, none⟩) 1 1 [nth o (q9 - d)]), (fun v' w => Owns .u8 5 w (h + 1) v' (o ++ [nth o (q9 - d)])), eqV _, eqV _, (fun _ w => ∃ v', w.heap[h]? = some (.cells #[.slice a2 n3 c2, v', .int .i64 most, .int .i64 lit, .int .i64 (cop + k)] 43 (0, 0)) ∧ Owns .u8 5 w (h + 1) v' (o ++ [nth o (q9 - d)]))] [(20, fun w w' => World.grownBy w w' (some g)), (23, fun w w' => World.grownBy w w' (some h))] [(4, fun w => w.heap[h]? = some (.cells #[.slice a2 n3 c2, (.slice (some ⟨g, 0, none⟩) q9 cv), .int .i64 most, .int .i64 lit, .int .i64 (cop + k)] 43 (0, 0))), (8, fun w => w.heap[h]? = some (.cells #[.slice a2 n3 c2, (.slice (some ⟨g, 0, none⟩) q9 cv), .int .i64 most, .int .i64 lit, .int .i64 (cop + k)] 43 (0, 0))), (12, fun w => w.heap[h]? = some (.cells #[.slice a2 n3 c2, (.slice (some ⟨g, 0, none⟩) q9 cv), .int .i64 most, .int .i64 lit, .int .i64 (cop + k)] 43 (0, 0))), (20, fun w => Owns .u8 5 w (h + 1) (.slice (some ⟨g, 0, none⟩) q9 cv) o ∧ w0.heap.size ≤ w.heap.size ∧ h < w.heap.size), (23, fun w => w.heap[h]? = some (.cells #[.slice a2 n3 c2, (.slice (some ⟨g, 0, none⟩) q9 cv), .int .i64 most, .int .i64 lit, .int .i64 (cop + k)] 43 (0, 0))), (24, fun w => Below h w0 w), (18, fun w => Owns .u8 5 w (h + 1) (.slice (some ⟨g, 0, none⟩) q9 cv) o ∧ w0.heap.size ≤ w.heap.size ∧ h < w.heap.size), (19, fun w => w0.heap.size ≤ w.heap.size)] [70, 71, 72, 73, 74, 75, 76, 77, 78, 79, 80, 81, 82, 83, 84, 85, 86, 87, 88, 89, 90, 91, 92, 158] [[], [], [1], [2], [3], [], [5], [6], [7], [], [9], [10], [11], [12], [], [14], [13, 15], [8, 16], [17], [18], [4, 19], [0], [21], [20, 22]] [0, 1, 2, 3, 4, 5, 6, 7, 8, 9, 10, 11, 12, 13, 14, 15, 16, 17, 18, 19, 20, 21, 22, 23] 24 (by kernel_rfl) ⟨eqV_stays _, eqV_stays _, eqV_stays _, eqV_stays _, eqV_stays _, eqV_stays _, eqV_stays _, eqV_stays _, eqV_stays _, eqV_stays _, eqV_stays _, eqV_stays _, eqV_stays _, eqV_stays _, eqV_stays _, eqV_stays _, eqV_stays _, eqV_stays _, eqV_stays _, fun _ _ _ ⟨y, e, p, r⟩ b => ⟨y, e, p, r.below b⟩, fun _ _ _ p b => Owns.below p b, eqV_stays _, eqV_stays _, fun _ _ _ ⟨y, p, q⟩ b => ⟨y, row_keep p b, Owns.below q b⟩, trivial⟩ ⟨⟨.inl (eqV_stays _), .inl (eqV_stays _), .inl (eqV_stays _), .inl (eqV_stays _), .inl (eqV_stays _), .inl (eqV_stays _), .inl (eqV_stays _), .inl (eqV_stays _), .inl (eqV_stays _), .inl (eqV_stays _), .inl (eqV_stays _), .inl (eqV_stays _), .inl (eqV_stays _), .inl (eqV_stays _), .inl (eqV_stays _), .inl (eqV_stays _), .inl (eqV_stays _), .inl (eqV_stays _), .inl (eqV_stays _), .inl (fun _ _ _ ⟨y, e, p, r⟩ g => ⟨y, e, p, r.grown g (fun z hz e2 => by injection hz with hz; subst hz; injection e2 with e2; have e3 : y = _ := e2; omega)⟩), .inr (.inr rfl), .inl (eqV_stays _), .inl (eqV_stays _), .inr (.inl (by kernel_rfl)), trivial⟩, ⟨.inl (eqV_stays _), .inl (eqV_stays _), .inl (eqV_stays _), .inl (eqV_stays _), .inl (eqV_stays _), .inl (eqV_stays _), .inl (eqV_stays _), .inl (eqV_stays _), .inl (eqV_stays _), .inl (eqV_stays _), .inl (eqV_stays _), .inl (eqV_stays _), .inl (eqV_stays _), .inl (eqV_stays _), .inl (eqV_stays _), .inl (eqV_stays _), .inl (eqV_stays _), .inl (eqV_stays _), .inl (eqV_stays _), .inl (fun _ _ _ ⟨y, e, p, r⟩ g => ⟨y, e, p, r.grown g (fun z hz e2 => by injection hz with hz; subst hz; injection e2 with e2; have e3 : y = _ := e2; omega)⟩), .inl (fun _ _ _ p g => Owns.grown p g (fun b hb e => room_ne p (by rw [hb, e]))), .inl (eqV_stays _), .inl (eqV_stays _), .inr (.inr rfl), trivial⟩, trivial⟩ ⟨fun _ _ p b => row_keep p b, fun _ _ p b => row_keep p b, fun _ _ p b => row_keep p b, fun _ _ p b => ⟨Owns.below p.1 b, Nat.le_trans p.2.1 b.size, Nat.lt_of_lt_of_le p.2.2 b.size⟩, fun _ _ p b => row_keep p b, fun _ _ p b => p.trans (Below.mono b (Nat.le_trans hlt0 p.size)), fun _ _ p b => ⟨Owns.below p.1 b, Nat.le_trans p.2.1 b.size, Nat.lt_of_lt_of_le p.2.2 b.size⟩, fun _ _ p b => Nat.le_trans p b.size, trivial⟩ ⟨⟨.inr (.inl (by kernel_rfl)), .inr (.inl (by kernel_rfl)), .inr (.inl (by kernel_rfl)), .inr (.inr rfl), .inl (fun _ _ p g => grown_obj p g hrv), .inl (fun _ _ p g => p.grown g (Nat.le_trans hlt0 p.size) (fun q hq => by injection hq with hq; omega)), .inr (.inl (by kernel_rfl)), .inr (.inl (by kernel_rfl)), trivial⟩, ⟨.inr (.inl (by kernel_rfl)), .inr (.inl (by kernel_rfl)), .inr (.inl (by kernel_rfl)), .inr (.inl (by kernel_rfl)), .inr (.inr rfl), .inl (fun _ _ p g => p.grown g (Nat.le_trans hlt0 p.size) (fun q hq => by injection hq with hq; omega)), .inr (.inl (by kernel_rfl)), .inr (.inl (by kernel_rfl)), trivial⟩, trivial⟩ ⟨hrow, hrow, hrow, ⟨hown0, hsz1, hlt1⟩, hrow, hB0, ⟨hown0, hsz1, hlt1⟩, hsz1, trivial⟩ 135 rfl (by kernel_rfl) (by kernel_rfl) rfl rfl 24 rfl ?q1obl ?q1fin
      case q1obl =>
        refine And.intro ?q1o0 (And.intro ?q1o1 (And.intro ?q1o2 (And.intro ?q1o3 (And.intro ?q1o4 (And.intro ?q1o5 (And.intro ?q1o6 (And.intro ?q1o7 (And.intro ?q1o8 (And.intro ?q1o9 (And.intro ?q1o10 (And.intro ?q1o11 (And.intro ?q1o12 (And.intro ?q1o13 (And.intro ?q1o14 (And.intro ?q1o15 (And.intro ?q1o16 (And.intro ?q1o17 (And.intro ?q1o18 (And.intro ?q1o19 (And.intro ?q1o20 (And.intro ?q1o21 (And.intro ?q1o22 (And.intro ?q1o23 (True.intro))))))))))))))))))))))))
        case q1o0 =>
          intro w1 hI
          refine turn2_on (by rfl) ?_
          intro K hK
          go_simp
          refine hK _ _ ⟨rfl, Kept.refl _, ?_⟩
          show _ = _
          simp only [List.getD_cons_zero, List.getD_cons_succ, Array.getD_eq_getD_getElem?, List.getElem?_toArray, List.getElem?_cons_zero, List.getElem?_cons_succ, Option.getD_some]
          rfl
        case q1o1 =>
          intro w1 hI
          refine turn2_on (by rfl) ?_
          intro K hK
          go_simp
          refine hK _ _ ⟨rfl, Kept.refl _, ?_⟩
          show _ = _
          simp only [List.getD_cons_zero, List.getD_cons_succ, Array.getD_eq_getD_getElem?, List.getElem?_toArray, List.getElem?_cons_zero, List.getElem?_cons_succ, Option.getD_some]
          rfl
        case q1o2 =>
          intro w1 hI
          intro v1 h1
          change _ = _ at h1
          subst v1
          refine turn2_on (by rfl) ?_
          intro K hK
          simp only [List.getD_cons_zero, List.getD_cons_succ, List.setIfInBounds_toArray, List.set_cons_zero, List.set_cons_succ]
          go_simp
          refine hK _ _ ⟨rfl, Kept.refl _, ?_⟩
          show _ = _
          simp only [List.getD_cons_zero, List.getD_cons_succ, Array.getD_eq_getD_getElem?, List.getElem?_toArray, List.getElem?_cons_zero, List.getElem?_cons_succ, Option.getD_some]
          rfl
        case q1o3 =>
          intro w1 hI
          intro v2 h2
          change _ = _ at h2
          subst v2
          refine turn2_on (by rfl) ?_
          intro K hK
          simp only [List.getD_cons_zero, List.getD_cons_succ, List.setIfInBounds_toArray, List.set_cons_zero, List.set_cons_succ]
          go_simp
          refine hK _ _ ⟨rfl, Kept.refl _, ?_⟩
          show _ = _
          simp only [List.getD_cons_zero, List.getD_cons_succ, Array.getD_eq_getD_getElem?, List.getElem?_toArray, List.getElem?_cons_zero, List.getElem?_cons_succ, Option.getD_some]
          rfl
        case q1o4 =>
          intro w1 hI
          replace hI : (fun w => w.heap[h]? = some (.cells #[.slice a2 n3 c2, (.slice (some ⟨g, 0, none⟩) q9 cv), .int .i64 most, .int .i64 lit, .int .i64 (cop + k)] 43 (0, 0))) w1 := hI
          intro v3 h3
          change _ = _ at h3
          subst v3
          refine turn2_on (by rfl) ?_
          intro K hK
          simp only [List.getD_cons_zero, List.getD_cons_succ, List.setIfInBounds_toArray, List.set_cons_zero, List.set_cons_succ]
          obtain ⟨c0, c1, c2, c3, c4, cf⟩ := cells5 hI
          go_simp
          refine hK _ _ ⟨rfl, Kept.refl _, ?_⟩
          show _ = _
          simp only [List.getD_cons_zero, List.getD_cons_succ, Array.getD_eq_getD_getElem?, List.getElem?_toArray, List.getElem?_cons_zero, List.getElem?_cons_succ, Option.getD_some]
          rfl
        case q1o5 =>
          intro w1 hI
          refine turn2_on (by rfl) ?_
          intro K hK
          go_simp
          refine hK _ _ ⟨rfl, Kept.refl _, ?_⟩
          show _ = _
          simp only [List.getD_cons_zero, List.getD_cons_succ, Array.getD_eq_getD_getElem?, List.getElem?_toArray, List.getElem?_cons_zero, List.getElem?_cons_succ, Option.getD_some]
          rfl
        case q1o6 =>
          intro w1 hI
          intro v5 h5
          change _ = _ at h5
          subst v5
          refine turn2_on (by rfl) ?_
          intro K hK
          simp only [List.getD_cons_zero, List.getD_cons_succ, List.setIfInBounds_toArray, List.set_cons_zero, List.set_cons_succ]
          go_simp
          refine hK _ _ ⟨rfl, Kept.refl _, ?_⟩
          show _ = _
          simp only [List.getD_cons_zero, List.getD_cons_succ, Array.getD_eq_getD_getElem?, List.getElem?_toArray, List.getElem?_cons_zero, List.getElem?_cons_succ, Option.getD_some]
          rfl
        case q1o7 =>
          intro w1 hI
          intro v6 h6
          change _ = _ at h6
          subst v6
          refine turn2_on (by rfl) ?_
          intro K hK
          simp only [List.getD_cons_zero, List.getD_cons_succ, List.setIfInBounds_toArray, List.set_cons_zero, List.set_cons_succ]
          go_simp
          refine hK _ _ ⟨rfl, Kept.refl _, ?_⟩
          show _ = _
          simp only [List.getD_cons_zero, List.getD_cons_succ, Array.getD_eq_getD_getElem?, List.getElem?_toArray, List.getElem?_cons_zero, List.getElem?_cons_succ, Option.getD_some]
          rfl
        case q1o8 =>
          intro w1 hI
          replace hI : (fun w => w.heap[h]? = some (.cells #[.slice a2 n3 c2, (.slice (some ⟨g, 0, none⟩) q9 cv), .int .i64 most, .int .i64 lit, .int .i64 (cop + k)] 43 (0, 0))) w1 := hI
          intro v7 h7
          change _ = _ at h7
          subst v7
          refine turn2_on (by rfl) ?_
          intro K hK
          simp only [List.getD_cons_zero, List.getD_cons_succ, List.setIfInBounds_toArray, List.set_cons_zero, List.set_cons_succ]
          obtain ⟨c0, c1, c2, c3, c4, cf⟩ := cells5 hI
          go_simp
          refine hK _ _ ⟨rfl, Kept.refl _, ?_⟩
          show _ = _
          simp only [List.getD_cons_zero, List.getD_cons_succ, Array.getD_eq_getD_getElem?, List.getElem?_toArray, List.getElem?_cons_zero, List.getElem?_cons_succ, Option.getD_some]
          rfl
        case q1o9 =>
          intro w1 hI
          refine turn2_on (by rfl) ?_
          intro K hK
          go_simp
          refine hK _ _ ⟨rfl, Kept.refl _, ?_⟩
          show _ = _
          simp only [List.getD_cons_zero, List.getD_cons_succ, Array.getD_eq_getD_getElem?, List.getElem?_toArray, List.getElem?_cons_zero, List.getElem?_cons_succ, Option.getD_some]
          rfl
        case q1o10 =>
          intro w1 hI
          intro v9 h9
          change _ = _ at h9
          subst v9
          refine turn2_on (by rfl) ?_
          intro K hK
          simp only [List.getD_cons_zero, List.getD_cons_succ, List.setIfInBounds_toArray, List.set_cons_zero, List.set_cons_succ]
          go_simp
          refine hK _ _ ⟨rfl, Kept.refl _, ?_⟩
          show _ = _
          simp only [List.getD_cons_zero, List.getD_cons_succ, Array.getD_eq_getD_getElem?, List.getElem?_toArray, List.getElem?_cons_zero, List.getElem?_cons_succ, Option.getD_some]
          rfl
        case q1o11 =>
          intro w1 hI
          intro v10 h10
          change _ = _ at h10
          subst v10
          refine turn2_on (by rfl) ?_
          intro K hK
          simp only [List.getD_cons_zero, List.getD_cons_succ, List.setIfInBounds_toArray, List.set_cons_zero, List.set_cons_succ]
          go_simp
          refine hK _ _ ⟨rfl, Kept.refl _, ?_⟩
          show _ = _
          simp only [List.getD_cons_zero, List.getD_cons_succ, Array.getD_eq_getD_getElem?, List.getElem?_toArray, List.getElem?_cons_zero, List.getElem?_cons_succ, Option.getD_some]
          rfl
        case q1o12 =>
          intro w1 hI
          replace hI : (fun w => w.heap[h]? = some (.cells #[.slice a2 n3 c2, (.slice (some ⟨g, 0, none⟩) q9 cv), .int .i64 most, .int .i64 lit, .int .i64 (cop + k)] 43 (0, 0))) w1 := hI
          intro v11 h11
          change _ = _ at h11
          subst v11
          refine turn2_on (by rfl) ?_
          intro K hK
          simp only [List.getD_cons_zero, List.getD_cons_succ, List.setIfInBounds_toArray, List.set_cons_zero, List.set_cons_succ]
          obtain ⟨c0, c1, c2, c3, c4, cf⟩ := cells5 hI
          go_simp
          refine hK _ _ ⟨rfl, Kept.refl _, ?_⟩
          show _ = _
          simp only [List.getD_cons_zero, List.getD_cons_succ, Array.getD_eq_getD_getElem?, List.getElem?_toArray, List.getElem?_cons_zero, List.getElem?_cons_succ, Option.getD_some]
          rfl
        case q1o13 =>
          intro w1 hI
          intro v12 h12
          change _ = _ at h12
          subst v12
          refine turn2_on (by rfl) ?_
          intro K hK
          simp only [List.getD_cons_zero, List.getD_cons_succ, List.setIfInBounds_toArray, List.set_cons_zero, List.set_cons_succ]
          go_simp
          refine hK _ _ ⟨rfl, Kept.refl _, ?_⟩
          show _ = _
          simp only [List.getD_cons_zero, List.getD_cons_succ, Array.getD_eq_getD_getElem?, List.getElem?_toArray, List.getElem?_cons_zero, List.getElem?_cons_succ, Option.getD_some]
          rfl
        case q1o14 =>
          intro w1 hI
          refine turn2_on (by rfl) ?_
          intro K hK
          go_simp
          refine hK _ _ ⟨rfl, Kept.refl _, ?_⟩
          show _ = _
          simp only [List.getD_cons_zero, List.getD_cons_succ, Array.getD_eq_getD_getElem?, List.getElem?_toArray, List.getElem?_cons_zero, List.getElem?_cons_succ, Option.getD_some]
          rfl
        case q1o15 =>
          intro w1 hI
          intro v14 h14
          change _ = _ at h14
          subst v14
          refine turn2_on (by rfl) ?_
          intro K hK
          simp only [List.getD_cons_zero, List.getD_cons_succ, List.setIfInBounds_toArray, List.set_cons_zero, List.set_cons_succ]
          go_simp
          refine hK _ _ ⟨rfl, Kept.refl _, ?_⟩
          show _ = _
          simp only [List.getD_cons_zero, List.getD_cons_succ, Array.getD_eq_getD_getElem?, List.getElem?_toArray, List.getElem?_cons_zero, List.getElem?_cons_succ, Option.getD_some]
          rfl
        case q1o16 =>
          intro w1 hI
          intro v13 h13
          change _ = _ at h13
          subst v13
          intro v15 h15
          change _ = _ at h15
          subst v15
          refine turn2_on (by rfl) ?_
          intro K hK
          simp only [List.getD_cons_zero, List.getD_cons_succ, List.setIfInBounds_toArray, List.set_cons_zero, List.set_cons_succ]
          go_simp
          refine hK _ _ ⟨rfl, Kept.refl _, ?_⟩
          show _ = _
          simp only [List.getD_cons_zero, List.getD_cons_succ, Array.getD_eq_getD_getElem?, List.getElem?_toArray, List.getElem?_cons_zero, List.getElem?_cons_succ, Option.getD_some]
          rfl
        case q1o17 =>
          intro w1 hI
          intro v8 h8
          change _ = _ at h8
          subst v8
          intro v16 h16
          change _ = _ at h16
          subst v16
          refine turn2_on (by rfl) ?_
          intro K hK
          simp only [List.getD_cons_zero, List.getD_cons_succ, List.setIfInBounds_toArray, List.set_cons_zero, List.set_cons_succ]
          go_simp
          refine hK _ _ ⟨rfl, Kept.refl _, ?_⟩
          show _ = _
          simp only [List.getD_cons_zero, List.getD_cons_succ, Array.getD_eq_getD_getElem?, List.getElem?_toArray, List.getElem?_cons_zero, List.getElem?_cons_succ, Option.getD_some]
          rfl
        case q1o18 =>
          intro w1 hI
          replace hI : (fun w => Owns .u8 5 w (h + 1) (.slice (some ⟨g, 0, none⟩) q9 cv) o ∧ w0.heap.size ≤ w.heap.size ∧ h < w.heap.size) w1 := hI
          intro v17 h17
          change _ = _ at h17
          subst v17
          refine turn2_on (by rfl) ?_
          intro K hK
          simp only [List.getD_cons_zero, List.getD_cons_succ, List.setIfInBounds_toArray, List.set_cons_zero, List.set_cons_succ]
          obtain ⟨hown, _, _⟩ := hI
          obtain ⟨g2, hga, _, _, hcell, _⟩ := hown.cellAt (q9 - d) (by rw [HQ9.out]; omega)
          injection hga with hga
          injection hga with hga
          subst hga
          go_simp
          refine hK _ _ ⟨rfl, Kept.refl _, ?_⟩
          show _ = _
          simp only [List.getD_cons_zero, List.getD_cons_succ, Array.getD_eq_getD_getElem?, List.getElem?_toArray, List.getElem?_cons_zero, List.getElem?_cons_succ, Option.getD_some]
          rfl
        case q1o19 =>
          intro w1 hI
          replace hI : (fun w => w0.heap.size ≤ w.heap.size) w1 := hI
          intro v18 h18
          change _ = _ at h18
          subst v18
          refine turn2_on (by rfl) ?_
          intro K hK
          simp only [List.getD_cons_zero, List.getD_cons_succ, List.setIfInBounds_toArray, List.set_cons_zero, List.set_cons_succ]
          go_simp
          refine hK _ _ ⟨rfl, Below.alloc (Below.refl _ _) (Nat.le_refl _) _, ?_⟩
          exact ⟨w1.heap.size, by simp only [List.getD_cons_zero, List.getD_cons_succ, Array.getD_eq_getD_getElem?, List.getElem?_toArray, List.getElem?_cons_zero, List.getElem?_cons_succ, Option.getD_some], hI, byte_rd _ _ _ hqw⟩
        case q1o20 =>
          intro w1 hI
          replace hI : (fun w => Owns .u8 5 w (h + 1) (.slice (some ⟨g, 0, none⟩) q9 cv) o ∧ w0.heap.size ≤ w.heap.size ∧ h < w.heap.size) w1 := hI
          intro v4 h4
          change _ = _ at h4
          subst v4
          intro v19 h19
          obtain ⟨b19, rfl, hb19, hrd⟩ := h19
          refine turn2_on (by rfl) ?_
          intro K hK
          simp only [List.getD_cons_zero, List.getD_cons_succ, List.setIfInBounds_toArray, List.set_cons_zero, List.set_cons_succ]
          obtain ⟨hown, hwz, hhl⟩ := hI
          refine wp_app_all 90 rfl u8T u8I (by decide) _ _ rfl _ (h + 1) (.slice (some ⟨g, 0, none⟩) q9 cv) o rfl hown _ _ _ [nth o (q9 - d)] rfl hrd (by have := HQ9.out; omega) hhl ?_
          intro v2 w2 ho2 hg2
          refine hK _ _ ⟨rfl, by have h9 := hg2.1; rw [hroom] at h9; exact h9, ?_⟩
          show Owns _ _ _ _ _ _
          simp only [List.getD_cons_zero, List.getD_cons_succ, Array.getD_eq_getD_getElem?, List.getElem?_toArray, List.getElem?_cons_zero, List.getElem?_cons_succ, Option.getD_some]
          exact ho2
        case q1o21 =>
          intro w1 hI
          intro v0 h0
          change _ = _ at h0
          subst v0
          refine turn2_on (by rfl) ?_
          intro K hK
          simp only [List.getD_cons_zero, List.getD_cons_succ, List.setIfInBounds_toArray, List.set_cons_zero, List.set_cons_succ]
          go_simp
          refine hK _ _ ⟨rfl, Kept.refl _, ?_⟩
          show _ = _
          simp only [List.getD_cons_zero, List.getD_cons_succ, Array.getD_eq_getD_getElem?, List.getElem?_toArray, List.getElem?_cons_zero, List.getElem?_cons_succ, Option.getD_some]
          rfl
        case q1o22 =>
          intro w1 hI
          intro v21 h21
          change _ = _ at h21
          subst v21
          refine turn2_on (by rfl) ?_
          intro K hK
          simp only [List.getD_cons_zero, List.getD_cons_succ, List.setIfInBounds_toArray, List.set_cons_zero, List.set_cons_succ]
          go_simp
          refine hK _ _ ⟨rfl, Kept.refl _, ?_⟩
          show _ = _
          simp only [List.getD_cons_zero, List.getD_cons_succ, Array.getD_eq_getD_getElem?, List.getElem?_toArray, List.getElem?_cons_zero, List.getElem?_cons_succ, Option.getD_some]
          rfl
        case q1o23 =>
          intro w1 hI
          replace hI : (fun w => w.heap[h]? = some (.cells #[.slice a2 n3 c2, (.slice (some ⟨g, 0, none⟩) q9 cv), .int .i64 most, .int .i64 lit, .int .i64 (cop + k)] 43 (0, 0))) w1 := hI
          intro v20 h20
          intro v22 h22
          change _ = _ at h22
          subst v22
          refine turn2_on (by rfl) ?_
          intro K hK
          simp only [List.getD_cons_zero, List.getD_cons_succ, List.setIfInBounds_toArray, List.set_cons_zero, List.set_cons_succ]
          obtain ⟨c0, c1, c2, c3, c4, cf⟩ := cells5 hI
          have cf1 := cf 1
          clear cf
          obtain ⟨z9, hz9⟩ : ∃ z9, (o ++ [nth o (q9 - d)]).length = z9 := ⟨_, rfl⟩
          obtain ⟨av, cv2, rfl⟩ := Owns.shapeN h20 z9 hz9
          clear hz9
          go_simp
          refine hK _ _ ⟨rfl, cell_grown _ _ _ _, ?_⟩
          exact ⟨_, heap_setCell_same _ _ _ _ _ _ hI, own_cell h20 _ _⟩
      intro w1 hI
      replace hI : (fun w => Below h w0 w) w1 := hI
      intro v0 h0
      change _ = _ at h0
      subst v0
      intro v1 h1
      change _ = _ at h1
      subst v1
      intro v2 h2
      change _ = _ at h2
      subst v2
      intro v3 h3
      change _ = _ at h3
      subst v3
      intro v4 h4
      change _ = _ at h4
      subst v4
      intro v5 h5
      change _ = _ at h5
      subst v5
      intro v6 h6
      change _ = _ at h6
      subst v6
      intro v7 h7
      change _ = _ at h7
      subst v7
      intro v8 h8
      change _ = _ at h8
      subst v8
      intro v9 h9
      change _ = _ at h9
      subst v9
      intro v10 h10
      change _ = _ at h10
      subst v10
      intro v11 h11
      change _ = _ at h11
      subst v11
      intro v12 h12
      change _ = _ at h12
      subst v12
      intro v13 h13
      change _ = _ at h13
      subst v13
      intro v14 h14
      change _ = _ at h14
      subst v14
      intro v15 h15
      change _ = _ at h15
      subst v15
      intro v16 h16
      change _ = _ at h16
      subst v16
      intro v17 h17
      change _ = _ at h17
      subst v17
      intro v18 h18
      change _ = _ at h18
      subst v18
      intro v19 h19
      obtain ⟨b19, rfl, hb19, hrd⟩ := h19
      intro v20 h20
      intro v21 h21
      change _ = _ at h21
      subst v21
      intro v22 h22
      change _ = _ at h22
      subst v22
      intro v23 h23
      simp only [Given, List.getD_cons_zero, List.getD_cons_succ, List.setIfInBounds_toArray, List.set_cons_zero, List.set_cons_succ]
      obtain ⟨v', hrow', hown'⟩ := h23
      have hI2 : Below h wr w1 := by rw [← hw0]; exact hI
      have R6 : Hid (RdrAt w1 h a2 n3 c2 x3 v' (copyN o0 d (j + 1)) most lit (cop + k)) := ⟨hrow', rd_low r.rd r.low hI2, r.low, by rw [HC.out, HQ9.out]; exact hown'⟩
      have hb6 := hbr.trans hI2
      have hju : IntKind.u64.wrap ((j : Int) + 1) = ((j + 1 : Nat) : Int) := by rw [IntKind.wrap_u64]; omega
      clear hrow' hown' hI hI2 hw0 hbr r hrow hown0 hrow0 hB0 h20 HC
      go_wp2_with fail
      go_roundw
      case rel => exact ⟨j + 1, _, by omega, by first | rw [hju] | simp only [hju] | rfl, R6.out, hb6⟩
      case measure => simp only [intOf]; omega
    · have hjk : j = k := by omega
      have R7 := Lib.hid r
      rw [hjk] at R7
      have hb7 := Lib.hid hbr
      clear r hbr
      go_wp2_with fail
      go_ret
      exact ⟨rfl, ⟨_, _, _, by rw [HN3.out, HX3.out]; exact R7.out⟩, hb7.out⟩
end Go.Proofs.Ytfoabnoolmeoiaa

