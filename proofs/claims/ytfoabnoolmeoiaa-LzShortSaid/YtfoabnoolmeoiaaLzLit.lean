/- lz's token: what it answers where the row of tokens is sound, and where it is not. -/
import Derived.Test.YtfoabnoolmeoiaaLzPre
namespace Go.Proofs.Ytfoabnoolmeoiaa
open Go.RowKit
set_option linter.unusedSimpArgs false in
set_option linter.unusedVariables false in
set_option maxRecDepth 100000 in
set_option maxHeartbeats 2000000 in
theorem tok_lit (h : Nat) (a : Option Addr) (n c : Nat) (x : List Int) (v : Value) (o0 : List Int) (most lit cop : Int) (w : World) (k : Nat) (r : RdrAt w h a n c x v o0 most lit cop)
    (he : rvE x n = 0) (hv : rvV x n = 2 * (k : Int)) (hk : 1 ≤ k) (x2 : List Int) (n2 : Nat) (hx2 : x.drop (rvN x n).toNat = x2) (hn2 : n - (rvN x n).toNat = n2) (hkn : k ≤ n2)
    (hm : (o0.length : Int) + k ≤ most) (hmm : most ≤ 2097152) (hc0 : 0 ≤ lit) (hc1 : lit ≤ 2097152) :
    Calls Try.prog 19 #[.pointer (some ⟨h, 0, none⟩)] w fun e w' => e = .returned (.int .i64 0) ∧ (∃ a' c' v', RdrAt w' h a' (n2 - k) c' (x2.drop k) v' (o0 ++ x2.take k) most (lit + k) cop) ∧ Below h w w' := by
  have R1 := Lib.hid r
  have HE1 := Lib.hid he
  have HV1 := Lib.hid hv
  have HX2 := Lib.hid hx2
  have HN2 := Lib.hid hn2
  have hbit : bits .and .u64 (2 * (k : Int)) 1 = 0 := by rw [u64_and_one _ (by omega) (by omega)]; omega
  have hdiv : (2 * (k : Int)) / 2 = k := by omega
  have hkz : ((k : Int) == 0) = false := beq_eq_false_iff_ne.2 (by omega)
  clear r he hv hx2 hn2
  go_enter Try.func19, Try.ntmps19
  go_wp2_with fail
  refine (next_ok _ _ _ _ _ _ _ _ _ _ _ R1.out HE1.out).mono ?_
  rintro e w1 ⟨hee, ⟨a1, c1, r1⟩, hb⟩
  rw [HV1.out] at hee
  subst hee
  rw [HX2.out, HN2.out] at r1
  obtain ⟨q0, hq0⟩ : ∃ q0, o0.length = q0 := ⟨_, rfl⟩
  rw [hq0] at hm
  have HQ0 := Lib.hid hq0
  clear hq0
  obtain ⟨av, cv0, rfl⟩ := r1.own.shapeN q0 HQ0.out
  obtain ⟨b1, ad1, rfl, _⟩ := r1.rd.cell 0 (by omega)
  have hcap := r1.rd.cap
  have hmax := r1.rd.max
  unfold maxLen at hmax
  have hlow1 := r1.low _ rfl (by omega)
  have hrow1 := r1.row
  have hlt1 := r1.lt
  have R2 := Lib.hid r1
  have HROW1 := Lib.hid hrow1
  obtain ⟨c0, d1, d2, d3, d4, cf⟩ := cells5 hrow1
  clear r1 hrow1 cf
  go_wp2_with fail
  have hw1 : IntKind.i64.wrap (most - q0) = most - q0 := IntWalk.i64_in _ (by omega)
  have hw2 : IntKind.u64.wrap (most - q0) = most - q0 := by rw [IntKind.wrap_u64]; omega
  have hgt2 : decide (most - (q0 : Int) < k) = false := decide_eq_false (by omega)
  clear c0 d1 d2 d3 d4
  refine' reg_free (G := Kept) (pickF [eqV _, eqV _, eqV _, eqV _, eqV _, eqV _, eqV _, eqV _, eqV _, eqV _, eqV _, eqV _, eqV _]) [42, 43, 44, 45, 46, 47, 48, 49, 50, 51, 52, 53, 54] [[], [], [1], [2], [3], [], [5], [6], [7], [8], [4, 9], [10], [0, 11]] [0, 1, 2, 3, 4, 5, 6, 7, 8, 9, 10, 11, 12] (by kernel_rfl) Kept.refl Kept.trans (pick_stays ⟨eqV_stays _, eqV_stays _, eqV_stays _, eqV_stays _, eqV_stays _, eqV_stays _, eqV_stays _, eqV_stays _, eqV_stays _, eqV_stays _, eqV_stays _, eqV_stays _, eqV_stays _, trivial⟩) 135 rfl (by kernel_rfl) (by kernel_rfl) rfl rfl ?r4obl ?r4fin
  case r4obl =>
    refine And.intro ?r4o0 (And.intro ?r4o1 (And.intro ?r4o2 (And.intro ?r4o3 (And.intro ?r4o4 (And.intro ?r4o5 (And.intro ?r4o6 (And.intro ?r4o7 (And.intro ?r4o8 (And.intro ?r4o9 (And.intro ?r4o10 (And.intro ?r4o11 (And.intro ?r4o12 (True.intro)))))))))))))
    case r4o0 =>
      intro w1' hG
      refine turn_on (by rfl) ?_
      intro K hK
      go_simp
      refine hK _ _ ⟨rfl, Kept.refl _, ?_⟩
      show _ = _
      simp only [List.getD_cons_zero, List.getD_cons_succ, Array.getD_eq_getD_getElem?, List.getElem?_toArray, List.getElem?_cons_zero, List.getElem?_cons_succ, Option.getD_some]
      rfl
    case r4o1 =>
      intro w1' hG
      refine turn_on (by rfl) ?_
      intro K hK
      go_simp
      refine hK _ _ ⟨rfl, Kept.refl _, ?_⟩
      show _ = _
      simp only [List.getD_cons_zero, List.getD_cons_succ, Array.getD_eq_getD_getElem?, List.getElem?_toArray, List.getElem?_cons_zero, List.getElem?_cons_succ, Option.getD_some]
      rfl
    case r4o2 =>
      intro w1' hG
      intro v1 h1
      change _ = _ at h1
      subst h1
      refine turn_on (by rfl) ?_
      intro K hK
      simp only [List.getD_cons_zero, List.getD_cons_succ, List.setIfInBounds_toArray, List.set_cons_zero, List.set_cons_succ]
      go_simp
      refine hK _ _ ⟨rfl, Kept.refl _, ?_⟩
      show _ = _
      simp only [List.getD_cons_zero, List.getD_cons_succ, Array.getD_eq_getD_getElem?, List.getElem?_toArray, List.getElem?_cons_zero, List.getElem?_cons_succ, Option.getD_some]
      rfl
    case r4o3 =>
      intro w1' hG
      intro v2 h2
      change _ = _ at h2
      subst h2
      refine turn_on (by rfl) ?_
      intro K hK
      simp only [List.getD_cons_zero, List.getD_cons_succ, List.setIfInBounds_toArray, List.set_cons_zero, List.set_cons_succ]
      go_simp
      refine hK _ _ ⟨rfl, Kept.refl _, ?_⟩
      show _ = _
      simp only [List.getD_cons_zero, List.getD_cons_succ, Array.getD_eq_getD_getElem?, List.getElem?_toArray, List.getElem?_cons_zero, List.getElem?_cons_succ, Option.getD_some]
      rfl
    case r4o4 =>
      intro w1' hG
      intro v3 h3
      change _ = _ at h3
      subst h3
      refine turn_on (by rfl) ?_
      intro K hK
      simp only [List.getD_cons_zero, List.getD_cons_succ, List.setIfInBounds_toArray, List.set_cons_zero, List.set_cons_succ]
      obtain ⟨c0, d1, d2, d3, d4, cf⟩ := cells5 (row_keep (w := w1.drew) HROW1.out hG)
      clear cf
      go_simp
      refine hK _ _ ⟨rfl, Kept.refl _, ?_⟩
      show _ = _
      simp only [List.getD_cons_zero, List.getD_cons_succ, Array.getD_eq_getD_getElem?, List.getElem?_toArray, List.getElem?_cons_zero, List.getElem?_cons_succ, Option.getD_some]
      rfl
    case r4o5 =>
      intro w1' hG
      refine turn_on (by rfl) ?_
      intro K hK
      go_simp
      refine hK _ _ ⟨rfl, Kept.refl _, ?_⟩
      show _ = _
      simp only [List.getD_cons_zero, List.getD_cons_succ, Array.getD_eq_getD_getElem?, List.getElem?_toArray, List.getElem?_cons_zero, List.getElem?_cons_succ, Option.getD_some]
      rfl
    case r4o6 =>
      intro w1' hG
      intro v5 h5
      change _ = _ at h5
      subst h5
      refine turn_on (by rfl) ?_
      intro K hK
      simp only [List.getD_cons_zero, List.getD_cons_succ, List.setIfInBounds_toArray, List.set_cons_zero, List.set_cons_succ]
      go_simp
      refine hK _ _ ⟨rfl, Kept.refl _, ?_⟩
      show _ = _
      simp only [List.getD_cons_zero, List.getD_cons_succ, Array.getD_eq_getD_getElem?, List.getElem?_toArray, List.getElem?_cons_zero, List.getElem?_cons_succ, Option.getD_some]
      rfl
    case r4o7 =>
      intro w1' hG
      intro v6 h6
      change _ = _ at h6
      subst h6
      refine turn_on (by rfl) ?_
      intro K hK
      simp only [List.getD_cons_zero, List.getD_cons_succ, List.setIfInBounds_toArray, List.set_cons_zero, List.set_cons_succ]
      go_simp
      refine hK _ _ ⟨rfl, Kept.refl _, ?_⟩
      show _ = _
      simp only [List.getD_cons_zero, List.getD_cons_succ, Array.getD_eq_getD_getElem?, List.getElem?_toArray, List.getElem?_cons_zero, List.getElem?_cons_succ, Option.getD_some]
      rfl
    case r4o8 =>
      intro w1' hG
      intro v7 h7
      change _ = _ at h7
      subst h7
      refine turn_on (by rfl) ?_
      intro K hK
      simp only [List.getD_cons_zero, List.getD_cons_succ, List.setIfInBounds_toArray, List.set_cons_zero, List.set_cons_succ]
      obtain ⟨c0, d1, d2, d3, d4, cf⟩ := cells5 (row_keep (w := w1.drew) HROW1.out hG)
      clear cf
      go_simp
      refine hK _ _ ⟨rfl, Kept.refl _, ?_⟩
      show _ = _
      simp only [List.getD_cons_zero, List.getD_cons_succ, Array.getD_eq_getD_getElem?, List.getElem?_toArray, List.getElem?_cons_zero, List.getElem?_cons_succ, Option.getD_some]
      rfl
    case r4o9 =>
      intro w1' hG
      intro v8 h8
      change _ = _ at h8
      subst h8
      refine turn_on (by rfl) ?_
      intro K hK
      simp only [List.getD_cons_zero, List.getD_cons_succ, List.setIfInBounds_toArray, List.set_cons_zero, List.set_cons_succ]
      go_simp
      refine hK _ _ ⟨rfl, Kept.refl _, ?_⟩
      show _ = _
      simp only [List.getD_cons_zero, List.getD_cons_succ, Array.getD_eq_getD_getElem?, List.getElem?_toArray, List.getElem?_cons_zero, List.getElem?_cons_succ, Option.getD_some]
      rfl
    case r4o10 =>
      intro w1' hG
      intro v4 h4
      change _ = _ at h4
      subst h4
      intro v9 h9
      change _ = _ at h9
      subst h9
      refine turn_on (by rfl) ?_
      intro K hK
      simp only [List.getD_cons_zero, List.getD_cons_succ, List.setIfInBounds_toArray, List.set_cons_zero, List.set_cons_succ]
      go_simp
      refine hK _ _ ⟨rfl, Kept.refl _, ?_⟩
      show _ = _
      simp only [List.getD_cons_zero, List.getD_cons_succ, Array.getD_eq_getD_getElem?, List.getElem?_toArray, List.getElem?_cons_zero, List.getElem?_cons_succ, Option.getD_some]
      rfl
    case r4o11 =>
      intro w1' hG
      intro v10 h10
      change _ = _ at h10
      subst h10
      refine turn_on (by rfl) ?_
      intro K hK
      simp only [List.getD_cons_zero, List.getD_cons_succ, List.setIfInBounds_toArray, List.set_cons_zero, List.set_cons_succ]
      go_simp
      refine hK _ _ ⟨rfl, Kept.refl _, ?_⟩
      show _ = _
      simp only [List.getD_cons_zero, List.getD_cons_succ, Array.getD_eq_getD_getElem?, List.getElem?_toArray, List.getElem?_cons_zero, List.getElem?_cons_succ, Option.getD_some]
      rfl
    case r4o12 =>
      intro w1' hG
      intro v0 h0
      change _ = _ at h0
      subst h0
      intro v11 h11
      change _ = _ at h11
      subst h11
      refine turn_on (by rfl) ?_
      intro K hK
      simp only [List.getD_cons_zero, List.getD_cons_succ, List.setIfInBounds_toArray, List.set_cons_zero, List.set_cons_succ]
      go_simp
      refine hK _ _ ⟨rfl, Kept.refl _, ?_⟩
      show _ = _
      simp only [List.getD_cons_zero, List.getD_cons_succ, Array.getD_eq_getD_getElem?, List.getElem?_toArray, List.getElem?_cons_zero, List.getElem?_cons_succ, Option.getD_some]
      rfl
  intro w1' hG
  intro v0 h0
  change _ = _ at h0
  subst h0
  intro v1 h1
  change _ = _ at h1
  subst h1
  intro v2 h2
  change _ = _ at h2
  subst h2
  intro v3 h3
  change _ = _ at h3
  subst h3
  intro v4 h4
  change _ = _ at h4
  subst h4
  intro v5 h5
  change _ = _ at h5
  subst h5
  intro v6 h6
  change _ = _ at h6
  subst h6
  intro v7 h7
  change _ = _ at h7
  subst h7
  intro v8 h8
  change _ = _ at h8
  subst h8
  intro v9 h9
  change _ = _ at h9
  subst h9
  intro v10 h10
  change _ = _ at h10
  subst h10
  intro v11 h11
  change _ = _ at h11
  subst h11
  intro v12 h12
  change _ = _ at h12
  subst h12
  simp only [Given, List.getD_cons_zero, List.getD_cons_succ, List.setIfInBounds_toArray, List.set_cons_zero, List.set_cons_succ]
  have R4 : Hid (RdrAt w1' h (some ⟨b1, ad1, none⟩) n2 c1 x2 (.slice av q0 cv0) o0 most lit cop) := ⟨row_keep (w := w1.drew) HROW1.out hG, R2.out.rd.keptW hG, R2.out.low, R2.out.own.keptD hG⟩
  have hb4 : Below h w w1' := hb.drew.trans (Below.mono hG (Nat.le_of_lt hlt1))
  obtain ⟨c0, _, _, c3, _, cf⟩ := cells5 R4.out.row
  have cf3 := cf 3
  have hgt3 : decide ((n2 : Int) < k) = false := decide_eq_false (by omega)
  have hgt4 : decide (n2 < k) = false := decide_eq_false (by omega)
  obtain ⟨wr, hwr⟩ : ∃ wr : World, wr = w1'.setCell ⟨h, 3, none⟩ (.int .i64 (lit + k)) := ⟨_, rfl⟩
  have r5 : RdrAt wr h (some ⟨b1, ad1, none⟩) n2 c1 x2 (.slice av q0 cv0) o0 most (lit + k) cop := by rw [hwr]; exact R4.out.setL (lit + k)
  have hb5 : Below h w wr := by rw [hwr]; exact hb4.trans (below_cell w1' h 3 (.int .i64 (lit + k)))
  have R5 := Lib.hid r5
  clear cf hG hb hb4 r5
  go_wp2_with fail
  simp only [← hwr]
  clear hwr c0 c3 cf3 hw1 hw2 hgt2 hgt3 hgt4
  obtain ⟨rm, hroom⟩ : ∃ rm, room (.slice av q0 cv0) = rm := ⟨_, rfl⟩
  have hrv : rm ≠ some h := by rw [← hroom]; exact room_ne R5.out.own
  obtain ⟨w0, hw0⟩ : ∃ w0 : World, w0 = wr := ⟨_, rfl⟩
  have hsz0 : w0.heap.size = wr.heap.size := by rw [hw0]
  have hlt : h < wr.heap.size := R5.out.lt
  have hlt0 : h ≤ w0.heap.size := by omega
  have hrg : ∀ q, rm = some q → h ≤ q := fun q hq => by rw [← hroom] at hq; have := (R5.out.own.at_base q hq).1; omega
  have hsz1 : w0.heap.size ≤ wr.drew.heap.size := Nat.le_of_eq hsz0
  have hlt2 : h < wr.drew.heap.size := hlt
  have hrow0 := R5.out.row
  have hrow : wr.drew.heap[h]? = some (.cells #[.slice (some ⟨b1, ad1, none⟩) n2 c1, .slice av q0 cv0, .int .i64 most, .int .i64 (lit + k), .int .i64 cop] 43 (0, 0)) := hrow0
  have hown0 : Owns .u8 5 wr.drew (h + 1) (.slice av q0 cv0) o0 := R5.out.own
  have hrd0 : RdAt .u8 wr.drew (some ⟨b1, ad1, none⟩) n2 c1 x2 := rd_low R5.out.rd R5.out.low (Below.refl h wr).drew
  have hB0 : Below h w0 wr.drew := by rw [hw0]; exact (Below.refl h wr).drew
  refine' reg_order [eqV _, eqV _, eqV _, eqV _, eqV _, eqV _, eqV _, eqV _, eqV _, eqV _, eqV _, eqV _, (fun v' w => Owns .u8 5 w (h + 1) v' (o0 ++ (x2.take k))), eqV _, eqV _, (fun _ w => ∃ v', w.heap[h]? = some (.cells #[.slice (some ⟨b1, ad1, none⟩) n2 c1, v', .int .i64 most, .int .i64 (lit + k), .int .i64 cop] 43 (0, 0)) ∧ Owns .u8 5 w (h + 1) v' (o0 ++ (x2.take k)))] [(12, fun w w' => World.grownBy w w' rm), (15, fun w w' => World.grownBy w w' (some h))] [(4, fun w => w.heap[h]? = some (.cells #[.slice (some ⟨b1, ad1, none⟩) n2 c1, (.slice av q0 cv0), .int .i64 most, .int .i64 (lit + k), .int .i64 cop] 43 (0, 0))), (8, fun w => w.heap[h]? = some (.cells #[.slice (some ⟨b1, ad1, none⟩) n2 c1, (.slice av q0 cv0), .int .i64 most, .int .i64 (lit + k), .int .i64 cop] 43 (0, 0))), (12, fun w => Owns .u8 5 w (h + 1) (.slice av q0 cv0) o0 ∧ w0.heap.size ≤ w.heap.size ∧ h < w.heap.size ∧ RdAt .u8 w (some ⟨b1, ad1, none⟩) n2 c1 x2), (15, fun w => w.heap[h]? = some (.cells #[.slice (some ⟨b1, ad1, none⟩) n2 c1, (.slice av q0 cv0), .int .i64 most, .int .i64 (lit + k), .int .i64 cop] 43 (0, 0))), (16, fun w => Below h w0 w)] [111, 112, 113, 114, 115, 116, 117, 118, 119, 120, 121, 122, 123, 124, 125, 150] [[], [], [1], [2], [3], [], [5], [6], [7], [], [], [8, 9, 10], [4, 11], [0], [13], [12, 14]] [0, 1, 2, 3, 4, 5, 6, 7, 8, 9, 10, 11, 12, 13, 14, 15] 16 (by kernel_rfl) ⟨eqV_stays _, eqV_stays _, eqV_stays _, eqV_stays _, eqV_stays _, eqV_stays _, eqV_stays _, eqV_stays _, eqV_stays _, eqV_stays _, eqV_stays _, eqV_stays _, fun _ _ _ p b => Owns.below p b, eqV_stays _, eqV_stays _, fun _ _ _ ⟨y, p, q⟩ b => ⟨y, row_keep p b, Owns.below q b⟩, trivial⟩ ⟨⟨.inl (eqV_stays _), .inl (eqV_stays _), .inl (eqV_stays _), .inl (eqV_stays _), .inl (eqV_stays _), .inl (eqV_stays _), .inl (eqV_stays _), .inl (eqV_stays _), .inl (eqV_stays _), .inl (eqV_stays _), .inl (eqV_stays _), .inl (eqV_stays _), .inr (.inr rfl), .inl (eqV_stays _), .inl (eqV_stays _), .inr (.inl (by kernel_rfl)), trivial⟩, ⟨.inl (eqV_stays _), .inl (eqV_stays _), .inl (eqV_stays _), .inl (eqV_stays _), .inl (eqV_stays _), .inl (eqV_stays _), .inl (eqV_stays _), .inl (eqV_stays _), .inl (eqV_stays _), .inl (eqV_stays _), .inl (eqV_stays _), .inl (eqV_stays _), .inl (fun _ _ _ p g => Owns.grown p g (fun b hb e => room_ne p (by rw [hb, e]))), .inl (eqV_stays _), .inl (eqV_stays _), .inr (.inr rfl), trivial⟩, trivial⟩ ⟨fun _ _ p b => row_keep p b, fun _ _ p b => row_keep p b, fun _ _ p b => ⟨Owns.below p.1 b, Nat.le_trans p.2.1 b.size, Nat.lt_of_lt_of_le p.2.2.1 b.size, p.2.2.2.below b⟩, fun _ _ p b => row_keep p b, fun _ _ p b => p.trans (Below.mono b (Nat.le_trans hlt0 p.size)), trivial⟩ ⟨⟨.inr (.inl (by kernel_rfl)), .inr (.inl (by kernel_rfl)), .inr (.inr rfl), .inl (fun _ _ p g => grown_obj p g hrv), .inl (fun _ _ p g => p.grown g (Nat.le_trans hlt0 p.size) (fun q hq => hrg q hq)), trivial⟩, ⟨.inr (.inl (by kernel_rfl)), .inr (.inl (by kernel_rfl)), .inr (.inl (by kernel_rfl)), .inr (.inr rfl), .inl (fun _ _ p g => p.grown g (Nat.le_trans hlt0 p.size) (fun q hq => by injection hq with hq; omega)), trivial⟩, trivial⟩ ⟨hrow, hrow, ⟨hown0, hsz1, hlt2, hrd0⟩, hrow, hB0, trivial⟩ 135 rfl (by kernel_rfl) (by kernel_rfl) rfl rfl 16 rfl ?q3obl ?q3fin
  case q3obl =>
    refine And.intro ?q3o0 (And.intro ?q3o1 (And.intro ?q3o2 (And.intro ?q3o3 (And.intro ?q3o4 (And.intro ?q3o5 (And.intro ?q3o6 (And.intro ?q3o7 (And.intro ?q3o8 (And.intro ?q3o9 (And.intro ?q3o10 (And.intro ?q3o11 (And.intro ?q3o12 (And.intro ?q3o13 (And.intro ?q3o14 (And.intro ?q3o15 (True.intro))))))))))))))))
    case q3o0 =>
      intro w1 hI
      refine turn2_on (by rfl) ?_
      intro K hK
      go_simp
      refine hK _ _ ⟨rfl, Kept.refl _, ?_⟩
      show _ = _
      simp only [List.getD_cons_zero, List.getD_cons_succ, Array.getD_eq_getD_getElem?, List.getElem?_toArray, List.getElem?_cons_zero, List.getElem?_cons_succ, Option.getD_some]
      rfl
    case q3o1 =>
      intro w1 hI
      refine turn2_on (by rfl) ?_
      intro K hK
      go_simp
      refine hK _ _ ⟨rfl, Kept.refl _, ?_⟩
      show _ = _
      simp only [List.getD_cons_zero, List.getD_cons_succ, Array.getD_eq_getD_getElem?, List.getElem?_toArray, List.getElem?_cons_zero, List.getElem?_cons_succ, Option.getD_some]
      rfl
    case q3o2 =>
      intro w1 hI
      intro v1 h1
      change _ = _ at h1
      subst v1
      refine turn2_on (by rfl) ?_
      intro K hK
      simp only [List.getD_cons_zero, List.getD_cons_succ, List.setIfInBounds_toArray, List.set_cons_zero, List.set_cons_succ]
      go_simp
      refine hK _ _ ⟨rfl, Kept.refl _, ?_⟩
      show _ = _
      simp only [List.getD_cons_zero, List.getD_cons_succ, Array.getD_eq_getD_getElem?, List.getElem?_toArray, List.getElem?_cons_zero, List.getElem?_cons_succ, Option.getD_some]
      rfl
    case q3o3 =>
      intro w1 hI
      intro v2 h2
      change _ = _ at h2
      subst v2
      refine turn2_on (by rfl) ?_
      intro K hK
      simp only [List.getD_cons_zero, List.getD_cons_succ, List.setIfInBounds_toArray, List.set_cons_zero, List.set_cons_succ]
      go_simp
      refine hK _ _ ⟨rfl, Kept.refl _, ?_⟩
      show _ = _
      simp only [List.getD_cons_zero, List.getD_cons_succ, Array.getD_eq_getD_getElem?, List.getElem?_toArray, List.getElem?_cons_zero, List.getElem?_cons_succ, Option.getD_some]
      rfl
    case q3o4 =>
      intro w1 hI
      replace hI : (fun w => w.heap[h]? = some (.cells #[.slice (some ⟨b1, ad1, none⟩) n2 c1, (.slice av q0 cv0), .int .i64 most, .int .i64 (lit + k), .int .i64 cop] 43 (0, 0))) w1 := hI
      intro v3 h3
      change _ = _ at h3
      subst v3
      refine turn2_on (by rfl) ?_
      intro K hK
      simp only [List.getD_cons_zero, List.getD_cons_succ, List.setIfInBounds_toArray, List.set_cons_zero, List.set_cons_succ]
      obtain ⟨c0, c1', c2, c3, c4, cf⟩ := cells5 hI
      go_simp
      refine hK _ _ ⟨rfl, Kept.refl _, ?_⟩
      show _ = _
      simp only [List.getD_cons_zero, List.getD_cons_succ, Array.getD_eq_getD_getElem?, List.getElem?_toArray, List.getElem?_cons_zero, List.getElem?_cons_succ, Option.getD_some]
      rfl
    case q3o5 =>
      intro w1 hI
      refine turn2_on (by rfl) ?_
      intro K hK
      go_simp
      refine hK _ _ ⟨rfl, Kept.refl _, ?_⟩
      show _ = _
      simp only [List.getD_cons_zero, List.getD_cons_succ, Array.getD_eq_getD_getElem?, List.getElem?_toArray, List.getElem?_cons_zero, List.getElem?_cons_succ, Option.getD_some]
      rfl
    case q3o6 =>
      intro w1 hI
      intro v5 h5
      change _ = _ at h5
      subst v5
      refine turn2_on (by rfl) ?_
      intro K hK
      simp only [List.getD_cons_zero, List.getD_cons_succ, List.setIfInBounds_toArray, List.set_cons_zero, List.set_cons_succ]
      go_simp
      refine hK _ _ ⟨rfl, Kept.refl _, ?_⟩
      show _ = _
      simp only [List.getD_cons_zero, List.getD_cons_succ, Array.getD_eq_getD_getElem?, List.getElem?_toArray, List.getElem?_cons_zero, List.getElem?_cons_succ, Option.getD_some]
      rfl
    case q3o7 =>
      intro w1 hI
      intro v6 h6
      change _ = _ at h6
      subst v6
      refine turn2_on (by rfl) ?_
      intro K hK
      simp only [List.getD_cons_zero, List.getD_cons_succ, List.setIfInBounds_toArray, List.set_cons_zero, List.set_cons_succ]
      go_simp
      refine hK _ _ ⟨rfl, Kept.refl _, ?_⟩
      show _ = _
      simp only [List.getD_cons_zero, List.getD_cons_succ, Array.getD_eq_getD_getElem?, List.getElem?_toArray, List.getElem?_cons_zero, List.getElem?_cons_succ, Option.getD_some]
      rfl
    case q3o8 =>
      intro w1 hI
      replace hI : (fun w => w.heap[h]? = some (.cells #[.slice (some ⟨b1, ad1, none⟩) n2 c1, (.slice av q0 cv0), .int .i64 most, .int .i64 (lit + k), .int .i64 cop] 43 (0, 0))) w1 := hI
      intro v7 h7
      change _ = _ at h7
      subst v7
      refine turn2_on (by rfl) ?_
      intro K hK
      simp only [List.getD_cons_zero, List.getD_cons_succ, List.setIfInBounds_toArray, List.set_cons_zero, List.set_cons_succ]
      obtain ⟨c0, c1', c2, c3, c4, cf⟩ := cells5 hI
      go_simp
      refine hK _ _ ⟨rfl, Kept.refl _, ?_⟩
      show _ = _
      simp only [List.getD_cons_zero, List.getD_cons_succ, Array.getD_eq_getD_getElem?, List.getElem?_toArray, List.getElem?_cons_zero, List.getElem?_cons_succ, Option.getD_some]
      rfl
    case q3o9 =>
      intro w1 hI
      refine turn2_on (by rfl) ?_
      intro K hK
      go_simp
      refine hK _ _ ⟨rfl, Kept.refl _, ?_⟩
      show _ = _
      simp only [List.getD_cons_zero, List.getD_cons_succ, Array.getD_eq_getD_getElem?, List.getElem?_toArray, List.getElem?_cons_zero, List.getElem?_cons_succ, Option.getD_some]
      rfl
    case q3o10 =>
      intro w1 hI
      refine turn2_on (by rfl) ?_
      intro K hK
      go_simp
      refine hK _ _ ⟨rfl, Kept.refl _, ?_⟩
      show _ = _
      simp only [List.getD_cons_zero, List.getD_cons_succ, Array.getD_eq_getD_getElem?, List.getElem?_toArray, List.getElem?_cons_zero, List.getElem?_cons_succ, Option.getD_some]
      rfl
    case q3o11 =>
      intro w1 hI
      intro v8 h8
      change _ = _ at h8
      subst v8
      intro v9 h9
      change _ = _ at h9
      subst v9
      intro v10 h10
      change _ = _ at h10
      subst v10
      refine turn2_on (by rfl) ?_
      intro K hK
      simp only [List.getD_cons_zero, List.getD_cons_succ, List.setIfInBounds_toArray, List.set_cons_zero, List.set_cons_succ]
      have hkc : k ≤ c1 := by omega
      go_simp
      refine hK _ _ ⟨rfl, Kept.refl _, ?_⟩
      show _ = _
      simp only [List.getD_cons_zero, List.getD_cons_succ, Array.getD_eq_getD_getElem?, List.getElem?_toArray, List.getElem?_cons_zero, List.getElem?_cons_succ, Option.getD_some]
      rfl
    case q3o12 =>
      intro w1 hI
      replace hI : (fun w => Owns .u8 5 w (h + 1) (.slice av q0 cv0) o0 ∧ w0.heap.size ≤ w.heap.size ∧ h < w.heap.size ∧ RdAt .u8 w (some ⟨b1, ad1, none⟩) n2 c1 x2) w1 := hI
      intro v4 h4
      change _ = _ at h4
      subst v4
      intro v11 h11
      change _ = _ at h11
      subst v11
      refine turn2_on (by rfl) ?_
      intro K hK
      simp only [List.getD_cons_zero, List.getD_cons_succ, List.setIfInBounds_toArray, List.set_cons_zero, List.set_cons_succ]
      obtain ⟨hown, hwz, hhl, hrd⟩ := hI
      refine wp_app_all 123 rfl u8T u8I (by decide) _ _ rfl _ (h + 1) (.slice av q0 cv0) o0 rfl hown (some ⟨b1, ad1, none⟩) k k (x2.take k) rfl (rd_take hrd k k (by omega) (Nat.le_refl _) (by have := hrd.cap; omega) (by intro h; cases h)) (by have := HQ0.out; omega) hhl ?_
      intro v2 w2 ho2 hg2
      refine hK _ _ ⟨rfl, by have h9 := hg2.1; rw [hroom] at h9; exact h9, ?_⟩
      show Owns _ _ _ _ _ _
      simp only [List.getD_cons_zero, List.getD_cons_succ, Array.getD_eq_getD_getElem?, List.getElem?_toArray, List.getElem?_cons_zero, List.getElem?_cons_succ, Option.getD_some]
      exact ho2
    case q3o13 =>
      intro w1 hI
      intro v0 h0
      change _ = _ at h0
      subst v0
      refine turn2_on (by rfl) ?_
      intro K hK
      simp only [List.getD_cons_zero, List.getD_cons_succ, List.setIfInBounds_toArray, List.set_cons_zero, List.set_cons_succ]
      go_simp
      refine hK _ _ ⟨rfl, Kept.refl _, ?_⟩
      show _ = _
      simp only [List.getD_cons_zero, List.getD_cons_succ, Array.getD_eq_getD_getElem?, List.getElem?_toArray, List.getElem?_cons_zero, List.getElem?_cons_succ, Option.getD_some]
      rfl
    case q3o14 =>
      intro w1 hI
      intro v13 h13
      change _ = _ at h13
      subst v13
      refine turn2_on (by rfl) ?_
      intro K hK
      simp only [List.getD_cons_zero, List.getD_cons_succ, List.setIfInBounds_toArray, List.set_cons_zero, List.set_cons_succ]
      go_simp
      refine hK _ _ ⟨rfl, Kept.refl _, ?_⟩
      show _ = _
      simp only [List.getD_cons_zero, List.getD_cons_succ, Array.getD_eq_getD_getElem?, List.getElem?_toArray, List.getElem?_cons_zero, List.getElem?_cons_succ, Option.getD_some]
      rfl
    case q3o15 =>
      intro w1 hI
      replace hI : (fun w => w.heap[h]? = some (.cells #[.slice (some ⟨b1, ad1, none⟩) n2 c1, (.slice av q0 cv0), .int .i64 most, .int .i64 (lit + k), .int .i64 cop] 43 (0, 0))) w1 := hI
      intro v12 h12
      intro v14 h14
      change _ = _ at h14
      subst v14
      refine turn2_on (by rfl) ?_
      intro K hK
      simp only [List.getD_cons_zero, List.getD_cons_succ, List.setIfInBounds_toArray, List.set_cons_zero, List.set_cons_succ]
      obtain ⟨c0, c1', c2, c3, c4, cf⟩ := cells5 hI
      have cf1 := cf 1
      clear cf
      obtain ⟨z9, hz9⟩ : ∃ z9, (o0 ++ (x2.take k)).length = z9 := ⟨_, rfl⟩
      obtain ⟨av2, cv2, rfl⟩ := Owns.shapeN h12 z9 hz9
      clear hz9
      go_simp
      refine hK _ _ ⟨rfl, cell_grown _ _ _ _, ?_⟩
      exact ⟨_, heap_setCell_same _ _ _ _ _ _ hI, own_cell h12 _ _⟩
  intro w1 hI
  replace hI : (fun w => Below h w0 w) w1 := hI
  intro v0 h0
  change _ = _ at h0
  subst v0
  intro v1 h1
  change _ = _ at h1
  subst v1
  intro v2 h2
  change _ = _ at h2
  subst v2
  intro v3 h3
  change _ = _ at h3
  subst v3
  intro v4 h4
  change _ = _ at h4
  subst v4
  intro v5 h5
  change _ = _ at h5
  subst v5
  intro v6 h6
  change _ = _ at h6
  subst v6
  intro v7 h7
  change _ = _ at h7
  subst v7
  intro v8 h8
  change _ = _ at h8
  subst v8
  intro v9 h9
  change _ = _ at h9
  subst v9
  intro v10 h10
  change _ = _ at h10
  subst v10
  intro v11 h11
  change _ = _ at h11
  subst v11
  intro v12 h12
  intro v13 h13
  change _ = _ at h13
  subst v13
  intro v14 h14
  change _ = _ at h14
  subst v14
  intro v15 h15
  simp only [Given, List.getD_cons_zero, List.getD_cons_succ, List.setIfInBounds_toArray, List.set_cons_zero, List.set_cons_succ]
  obtain ⟨v', hrow', hown'⟩ := h15
  have hI2 : Below h wr w1 := by rw [← hw0]; exact hI
  have R6 : Hid (RdrAt w1 h (some ⟨b1, ad1, none⟩) n2 c1 x2 v' (o0 ++ x2.take k) most (lit + k) cop) := ⟨hrow', rd_low R5.out.rd R5.out.low hI2, R5.out.low, hown'⟩
  have hb6 := hb5.trans hI2
  clear hown' hI hI2 hw0 hb5 hrow hown0 hrow0 hB0 h12 hrd0 R5
  obtain ⟨c0, _, _, _, _, cf⟩ := cells5 hrow'
  have cf0 := cf 0
  clear cf hrow'
  by_cases hck : c1 = k
  · obtain rfl : k = n2 := by omega
    subst hck
    have hB := R6.out.setB (a' := some ⟨b1, ad1, none⟩) (n' := 0) (c' := 0) (x' := x2.drop c1) (by rw [List.drop_of_length_le (by rw [R6.out.rd.len]; omega)]; exact rd_empty _ _ (by simp) (by unfold maxLen; omega)) (fun q hq hn => by omega)
    have HBB := Lib.hid hB
    clear hB
    go_wp2_with fail
    go_ret
    exact ⟨rfl, ⟨_, 0, _, by rw [Nat.sub_self]; exact HBB.out⟩, hb6.trans (below_cell _ _ _ _)⟩
  · have hck2 : k < c1 := by omega
    have hB := R6.out.setB (a' := some ⟨b1, ad1 + k, none⟩) (n' := n2 - k) (c' := c1 - k) (x' := x2.drop k) (rd_drop R6.out.rd k (by omega)) (fun q hq _ => by injection hq with hq; subst hq; exact hlow1)
    have HBB := Lib.hid hB
    clear hB hck
    go_wp2_with fail
    go_ret
    exact ⟨rfl, ⟨_, _, _, HBB.out⟩, hb6.trans (below_cell _ _ _ _)⟩
end Go.Proofs.Ytfoabnoolmeoiaa

