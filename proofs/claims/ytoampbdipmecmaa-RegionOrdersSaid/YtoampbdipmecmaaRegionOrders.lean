/- The walk of almanaclaw15.RegionOrders. -/
import Derived.Test.YtoampbdipmecmaaRgOrd
namespace Go.Proofs.Ytoampbdipmecmaa
open Go.RowKit
theorem sgm_tmod (q t i : Nat) : Int.tmod ((i : Int) + (t : Int)) (q : Int) = ((sgm q t i : Nat) : Int) := by
  rw [show (i : Int) + (t : Int) = ((i + t : Nat) : Int) by omega]
  exact (Int.ofNat_tmod _ _).symm
set_option linter.unusedSimpArgs false in
set_option linter.unusedVariables false in
set_option maxRecDepth 100000 in
set_option maxHeartbeats 4000000 in
theorem orders_up (a0 : Option Addr) (n c0 : Nat) (L : List Rg) (turn : Int) (t : Nat) (w : World) (h : RdS Rg.cells 3 w a0 n c0 L) (hn : n ≤ 60) (hn0 : 0 < n) (hT : turn.tmod (n : Int) = (t : Int)) (ht60 : t ≤ 60) :
    Calls Try.prog 3 #[.slice a0 n c0, .int .i64 turn] w fun e w' => e = .returned (.bool true) ∧ Below w.heap.size w w' := by
  have H := Lib.hid h
  have hl := h.len
  have HC := Lib.hid (clean_cn (L := L) (n := 60) (by omega))
  obtain ⟨C, hC⟩ : ∃ C, cleanL L = C := ⟨_, rfl⟩
  rw [hC] at HC
  have HEQ := Lib.hid hC
  obtain ⟨q, hq⟩ : ∃ q, C.length = q := ⟨_, rfl⟩
  have hq1 : q ≤ 120 := by have := HC.out.few; omega
  have HQ := Lib.hid hq
  have dn : decide ((60 : Int) < (n : Int)) = false := decide_eq_false (by omega)
  have HN : Hid (n ≤ 60) := hn
  clear h hl hC hq
  go_enter Try.func3, Try.ntmps3
  go_wp2_with fail
  refine (known_any w).mono ?_
  rintro e w1 ⟨rfl, hb1⟩
  have B1 := Lib.hid hb1
  clear hb1
  go_wp2_with fail
  refine (clean_any a0 n c0 L w1 (H.out.below B1.out) (Nat.le_trans HN.out (by omega))).mono ?_
  rintro e w3 ⟨v2, rfl, ho2, hb2⟩
  rw [HEQ.out] at ho2
  obtain ⟨ac, cc, rfl⟩ := ho2.shapeN q HQ.out
  have B3 := Lib.hid (Below.call B1.out hb2)
  have RC : Hid (∀ z, Below w3.heap.size w3 z → RdS Rg.cells 3 z ac q cc C) := fun z hb => (ho2.below hb).rd rgC
  clear ho2 hb2 B1 H
  by_cases hq0 : q = 0
  · subst hq0
    go_wp2
    go_ret
    exact ⟨rfl, B3.out⟩
  have hqd : ((q : Int) == 0) = false := by simpa using hq0
  have hqp : 0 < (q : Int) := by omega
  go_wp2_with fail
  go_loopw [6, 7, 8] (fun va vb i wr => ∃ k : Nat, k ≤ q ∧ i = .int .i64 k ∧ Hid (∃ A B, OwnsS Rg.cells 3 29 wr w3.heap.size va A ∧ OwnsS Rg.cells 3 29 wr w3.heap.size vb B ∧ MapSt C (fun j => j) k A ∧ MapSt C (sgm q t) k B ∧ Below w3.heap.size w3 wr)) (fun _ _ i _ => q - (intOf i).toNat)
  case atStart => exact ⟨0, by omega, rfl, [], [], OwnsS.nil _ _ _ _ _, OwnsS.nil _ _ _ _ _, MapSt.start _ _, MapSt.start _ _, Below.refl _ _⟩
  case round =>
    obtain ⟨i, hi, rfl, hh⟩ := hrel
    obtain ⟨A, B, h1, h2, h3, h4, h5⟩ := hh.out
    obtain ⟨na, hna⟩ : ∃ x, A.length = x := ⟨_, rfl⟩
    obtain ⟨nb, hnb⟩ : ∃ x, B.length = x := ⟨_, rfl⟩
    obtain ⟨aa, ca, rfl⟩ := h1.shapeN na hna
    obtain ⟨ab, cb, rfl⟩ := h2.shapeN nb hnb
    have OA := Lib.hid h1
    have OB := Lib.hid h2
    have MA := Lib.hid h3
    have MB := Lib.hid h4
    have S := Lib.hid h5
    clear hh h1 h2 h3 h4 h5 hna hnb
    by_cases hiq : i < q
    · have hcl := HQ.out
      obtain ⟨k, hk⟩ : ∃ k, C[i]? = some k := ⟨C[i], List.getElem?_eq_getElem (by omega)⟩
      obtain ⟨ss, hss⟩ : ∃ ss, sgm q t i = ss := ⟨_, rfl⟩
      have hsq : ss < q := by rw [← hss]; exact Nat.mod_lt _ (by omega)
      obtain ⟨u, hu⟩ : ∃ u, C[ss]? = some u := ⟨C[ss], List.getElem?_eq_getElem (by omega)⟩
      have XA := Lib.hid (MA.out.step HC.out (fun j hj => by omega) hk)
      have XB := Lib.hid (MB.out.step (k := u) HC.out (fun j hj => sgm_inj hiq (by omega) (by omega)) (by rw [hss]; exact hu))
      have htm := sgm_tmod q t i
      rw [hss] at htm
      have hk1 := HC.out.lo k (List.mem_of_getElem? hk)
      have hu1 := HC.out.lo u (List.mem_of_getElem? hu)
      have HCC0 : Hid (∃ g o, ac = some ⟨g, o, none⟩ ∧ ∀ z, Below wr.heap.size wr z → z.cell? ⟨g, o + i * 3, none⟩ = some (.int .i64 k.lo) ∧ z.cell? ⟨g, o + i * 3 + 1, none⟩ = some (.int .i64 k.hi) ∧ z.cell? ⟨g, o + i * 3 + 2, none⟩ = some (.int .i64 k.p)) := by
        obtain ⟨g, o, e, _⟩ := (RC.out _ S.out).three i k hk
        refine ⟨g, o, e, fun z hb => ?_⟩
        obtain ⟨g', o', e', q3⟩ := (RC.out z (Below.call S.out hb)).three i k hk
        rw [e] at e'
        injection e' with e'
        injection e' with e1 e2
        subst e1 e2
        exact q3
      have HDD0 : Hid (∃ g o, ac = some ⟨g, o, none⟩ ∧ ∀ z, Below wr.heap.size wr z → z.cell? ⟨g, o + ss * 3, none⟩ = some (.int .i64 u.lo) ∧ z.cell? ⟨g, o + ss * 3 + 1, none⟩ = some (.int .i64 u.hi) ∧ z.cell? ⟨g, o + ss * 3 + 2, none⟩ = some (.int .i64 u.p)) := by
        obtain ⟨g, o, e, _⟩ := (RC.out _ S.out).three ss u hu
        refine ⟨g, o, e, fun z hb => ?_⟩
        obtain ⟨g', o', e', q3⟩ := (RC.out z (Below.call S.out hb)).three ss u hu
        rw [e] at e'
        injection e' with e'
        injection e' with e1 e2
        subst e1 e2
        exact q3
      obtain ⟨g, o, ea, hcc⟩ := HCC0.out
      obtain ⟨g', o', ea', hdd⟩ := HDD0.out
      subst ea
      injection ea' with ea'
      injection ea' with e1 e2
      subst e1 e2
      obtain ⟨klo, khi, kp⟩ := k
      obtain ⟨ulo, uhi, up⟩ := u
      have HCC : Hid (∀ z, Below wr.heap.size wr z → z.cell? ⟨g, o + i * 3, none⟩ = some (.int .i64 klo) ∧ z.cell? ⟨g, o + i * 3 + 1, none⟩ = some (.int .i64 khi) ∧ z.cell? ⟨g, o + i * 3 + 2, none⟩ = some (.int .i64 kp)) := hcc
      have HDD : Hid (∀ z, Below wr.heap.size wr z → z.cell? ⟨g, o + ss * 3, none⟩ = some (.int .i64 ulo) ∧ z.cell? ⟨g, o + ss * 3 + 1, none⟩ = some (.int .i64 uhi) ∧ z.cell? ⟨g, o + ss * 3 + 2, none⟩ = some (.int .i64 up)) := hdd
      have HMAP : Hid (∀ w1, Below wr.heap.size wr w1 → Calls Try.prog 10 #[.slice aa na ca, .int .i64 klo, .int .i64 khi, .int .i64 kp] w1 (GivesRE (mapL A klo khi kp) 0 w1)) := fun w1 hb => by
        have := map_out aa na ca A klo khi kp w1 ((OA.out.rd rgC).below hb) MA.out.cn (by omega) hk1.2.1
        rwa [XA.out.1] at this
      have HMBP : Hid (∀ w1, Below wr.heap.size wr w1 → Calls Try.prog 10 #[.slice ab nb cb, .int .i64 ulo, .int .i64 uhi, .int .i64 up] w1 (GivesRE (mapL B ulo uhi up) 0 w1)) := fun w1 hb => by
        have := map_out ab nb cb B ulo uhi up w1 ((OB.out.rd rgC).below hb) MB.out.cn (by omega) hu1.2.1
        rwa [XB.out.1] at this
      have XA2 : Hid (MapSt C (fun j => j) (i + 1) (mapL A klo khi kp)) := XA.out.2
      have XB2 : Hid (MapSt C (sgm q t) (i + 1) (mapL B ulo uhi up)) := XB.out.2
      clear hcl hk hu hss HCC0 HDD0 hcc hdd hk1 hu1 XA XB
      go_wp2
      refine' reg_free (G := Kept) (pickF [eqV _, eqV _, eqV _, eqV _, eqV _, eqV _, eqV _, eqV _, eqV _, eqV _, eqV _, eqV _, eqV _, eqV _, eqV _, eqV _, (fun v z => ∃ s, v = .tuple #[s, .int .i64 0] ∧ OwnsS Rg.cells 3 29 z w3.heap.size s (mapL A klo khi kp)), (fun v z => ∃ s, v = .tuple #[s, .int .i64 0] ∧ OwnsS Rg.cells 3 29 z w3.heap.size s (mapL A klo khi kp)), (fun v z => OwnsS Rg.cells 3 29 z w3.heap.size v (mapL A klo khi kp)), eqV _, (fun v z => OwnsS Rg.cells 3 29 z w3.heap.size v (mapL A klo khi kp)), eqV _]) [48, 49, 50, 51, 52, 53, 54, 55, 56, 57, 58, 59, 60, 61, 62, 63, 64, 47, 65, 66, 9, 10] [[], [], [], [1, 2], [3], [4], [], [], [6, 7], [8], [9], [], [], [11, 12], [13], [14], [0, 5, 10, 15], [16], [17], [17], [18], [19]] [0, 1, 2, 3, 4, 5, 6, 7, 8, 9, 10, 11, 12, 13, 14, 15, 16, 17, 18, 19, 20, 21] (by kernel_rfl) Kept.refl Kept.trans (pick_stays ⟨eqV_stays _, eqV_stays _, eqV_stays _, eqV_stays _, eqV_stays _, eqV_stays _, eqV_stays _, eqV_stays _, eqV_stays _, eqV_stays _, eqV_stays _, eqV_stays _, eqV_stays _, eqV_stays _, eqV_stays _, eqV_stays _, fun _ _ _ ⟨s, e, p⟩ b => ⟨s, e, OwnsS.below p b⟩, fun _ _ _ ⟨s, e, p⟩ b => ⟨s, e, OwnsS.below p b⟩, fun _ _ _ p b => OwnsS.below p b, eqV_stays _, fun _ _ _ p b => OwnsS.below p b, eqV_stays _, trivial⟩) 129 rfl (by kernel_rfl) (by kernel_rfl) rfl rfl ?r1obl ?r1fin
      case r1obl =>
        refine And.intro ?r1o0 (And.intro ?r1o1 (And.intro ?r1o2 (And.intro ?r1o3 (And.intro ?r1o4 (And.intro ?r1o5 (And.intro ?r1o6 (And.intro ?r1o7 (And.intro ?r1o8 (And.intro ?r1o9 (And.intro ?r1o10 (And.intro ?r1o11 (And.intro ?r1o12 (And.intro ?r1o13 (And.intro ?r1o14 (And.intro ?r1o15 (And.intro ?r1o16 (And.intro ?r1o17 (And.intro ?r1o18 (And.intro ?r1o19 (And.intro ?r1o20 (And.intro ?r1o21 (True.intro))))))))))))))))))))))
        case r1o0 =>
          intro w1 hG
          refine turn_on (by rfl) ?_
          intro K hK
          go_simp
          refine hK _ _ ⟨rfl, Kept.refl _, ?_⟩
          show _ = _
          simp only [List.getD_cons_zero, List.getD_cons_succ, Array.getD_eq_getD_getElem?, List.getElem?_toArray, List.getElem?_cons_zero, List.getElem?_cons_succ, Option.getD_some]
          rfl
        case r1o1 =>
          intro w1 hG
          refine turn_on (by rfl) ?_
          intro K hK
          go_simp
          refine hK _ _ ⟨rfl, Kept.refl _, ?_⟩
          show _ = _
          simp only [List.getD_cons_zero, List.getD_cons_succ, Array.getD_eq_getD_getElem?, List.getElem?_toArray, List.getElem?_cons_zero, List.getElem?_cons_succ, Option.getD_some]
          rfl
        case r1o2 =>
          intro w1 hG
          refine turn_on (by rfl) ?_
          intro K hK
          go_simp
          refine hK _ _ ⟨rfl, Kept.refl _, ?_⟩
          show _ = _
          simp only [List.getD_cons_zero, List.getD_cons_succ, Array.getD_eq_getD_getElem?, List.getElem?_toArray, List.getElem?_cons_zero, List.getElem?_cons_succ, Option.getD_some]
          rfl
        case r1o3 =>
          intro w1 hG
          intro v1 h1
          change _ = _ at h1
          subst h1
          intro v2 h2
          change _ = _ at h2
          subst h2
          refine turn_on (by rfl) ?_
          intro K hK
          simp only [List.getD_cons_zero, List.getD_cons_succ, List.setIfInBounds_toArray, List.set_cons_zero, List.set_cons_succ]
          go_simp
          refine hK _ _ ⟨rfl, Kept.refl _, ?_⟩
          show _ = _
          simp only [List.getD_cons_zero, List.getD_cons_succ, Array.getD_eq_getD_getElem?, List.getElem?_toArray, List.getElem?_cons_zero, List.getElem?_cons_succ, Option.getD_some]
          rfl
        case r1o4 =>
          intro w1 hG
          intro v3 h3
          change _ = _ at h3
          subst h3
          refine turn_on (by rfl) ?_
          intro K hK
          simp only [List.getD_cons_zero, List.getD_cons_succ, List.setIfInBounds_toArray, List.set_cons_zero, List.set_cons_succ]
          go_simp
          refine hK _ _ ⟨rfl, Kept.refl _, ?_⟩
          show _ = _
          simp only [List.getD_cons_zero, List.getD_cons_succ, Array.getD_eq_getD_getElem?, List.getElem?_toArray, List.getElem?_cons_zero, List.getElem?_cons_succ, Option.getD_some]
          rfl
        case r1o5 =>
          intro w1 hG
          intro v4 h4
          change _ = _ at h4
          subst h4
          refine turn_on (by rfl) ?_
          intro K hK
          simp only [List.getD_cons_zero, List.getD_cons_succ, List.setIfInBounds_toArray, List.set_cons_zero, List.set_cons_succ]
          have hb1 := Below.trans (Below.refl wr.heap.size wr).drew hG
          obtain ⟨cx, cy, cz⟩ := HCC.out w1 hb1
          go_simp
          refine hK _ _ ⟨rfl, Kept.refl _, ?_⟩
          show _ = _
          simp only [List.getD_cons_zero, List.getD_cons_succ, Array.getD_eq_getD_getElem?, List.getElem?_toArray, List.getElem?_cons_zero, List.getElem?_cons_succ, Option.getD_some]
          rfl
        case r1o6 =>
          intro w1 hG
          refine turn_on (by rfl) ?_
          intro K hK
          go_simp
          refine hK _ _ ⟨rfl, Kept.refl _, ?_⟩
          show _ = _
          simp only [List.getD_cons_zero, List.getD_cons_succ, Array.getD_eq_getD_getElem?, List.getElem?_toArray, List.getElem?_cons_zero, List.getElem?_cons_succ, Option.getD_some]
          rfl
        case r1o7 =>
          intro w1 hG
          refine turn_on (by rfl) ?_
          intro K hK
          go_simp
          refine hK _ _ ⟨rfl, Kept.refl _, ?_⟩
          show _ = _
          simp only [List.getD_cons_zero, List.getD_cons_succ, Array.getD_eq_getD_getElem?, List.getElem?_toArray, List.getElem?_cons_zero, List.getElem?_cons_succ, Option.getD_some]
          rfl
        case r1o8 =>
          intro w1 hG
          intro v6 h6
          change _ = _ at h6
          subst h6
          intro v7 h7
          change _ = _ at h7
          subst h7
          refine turn_on (by rfl) ?_
          intro K hK
          simp only [List.getD_cons_zero, List.getD_cons_succ, List.setIfInBounds_toArray, List.set_cons_zero, List.set_cons_succ]
          go_simp
          refine hK _ _ ⟨rfl, Kept.refl _, ?_⟩
          show _ = _
          simp only [List.getD_cons_zero, List.getD_cons_succ, Array.getD_eq_getD_getElem?, List.getElem?_toArray, List.getElem?_cons_zero, List.getElem?_cons_succ, Option.getD_some]
          rfl
        case r1o9 =>
          intro w1 hG
          intro v8 h8
          change _ = _ at h8
          subst h8
          refine turn_on (by rfl) ?_
          intro K hK
          simp only [List.getD_cons_zero, List.getD_cons_succ, List.setIfInBounds_toArray, List.set_cons_zero, List.set_cons_succ]
          go_simp
          refine hK _ _ ⟨rfl, Kept.refl _, ?_⟩
          show _ = _
          simp only [List.getD_cons_zero, List.getD_cons_succ, Array.getD_eq_getD_getElem?, List.getElem?_toArray, List.getElem?_cons_zero, List.getElem?_cons_succ, Option.getD_some]
          rfl
        case r1o10 =>
          intro w1 hG
          intro v9 h9
          change _ = _ at h9
          subst h9
          refine turn_on (by rfl) ?_
          intro K hK
          simp only [List.getD_cons_zero, List.getD_cons_succ, List.setIfInBounds_toArray, List.set_cons_zero, List.set_cons_succ]
          have hb1 := Below.trans (Below.refl wr.heap.size wr).drew hG
          obtain ⟨cx, cy, cz⟩ := HCC.out w1 hb1
          go_simp
          refine hK _ _ ⟨rfl, Kept.refl _, ?_⟩
          show _ = _
          simp only [List.getD_cons_zero, List.getD_cons_succ, Array.getD_eq_getD_getElem?, List.getElem?_toArray, List.getElem?_cons_zero, List.getElem?_cons_succ, Option.getD_some]
          rfl
        case r1o11 =>
          intro w1 hG
          refine turn_on (by rfl) ?_
          intro K hK
          go_simp
          refine hK _ _ ⟨rfl, Kept.refl _, ?_⟩
          show _ = _
          simp only [List.getD_cons_zero, List.getD_cons_succ, Array.getD_eq_getD_getElem?, List.getElem?_toArray, List.getElem?_cons_zero, List.getElem?_cons_succ, Option.getD_some]
          rfl
        case r1o12 =>
          intro w1 hG
          refine turn_on (by rfl) ?_
          intro K hK
          go_simp
          refine hK _ _ ⟨rfl, Kept.refl _, ?_⟩
          show _ = _
          simp only [List.getD_cons_zero, List.getD_cons_succ, Array.getD_eq_getD_getElem?, List.getElem?_toArray, List.getElem?_cons_zero, List.getElem?_cons_succ, Option.getD_some]
          rfl
        case r1o13 =>
          intro w1 hG
          intro v11 h11
          change _ = _ at h11
          subst h11
          intro v12 h12
          change _ = _ at h12
          subst h12
          refine turn_on (by rfl) ?_
          intro K hK
          simp only [List.getD_cons_zero, List.getD_cons_succ, List.setIfInBounds_toArray, List.set_cons_zero, List.set_cons_succ]
          go_simp
          refine hK _ _ ⟨rfl, Kept.refl _, ?_⟩
          show _ = _
          simp only [List.getD_cons_zero, List.getD_cons_succ, Array.getD_eq_getD_getElem?, List.getElem?_toArray, List.getElem?_cons_zero, List.getElem?_cons_succ, Option.getD_some]
          rfl
        case r1o14 =>
          intro w1 hG
          intro v13 h13
          change _ = _ at h13
          subst h13
          refine turn_on (by rfl) ?_
          intro K hK
          simp only [List.getD_cons_zero, List.getD_cons_succ, List.setIfInBounds_toArray, List.set_cons_zero, List.set_cons_succ]
          go_simp
          refine hK _ _ ⟨rfl, Kept.refl _, ?_⟩
          show _ = _
          simp only [List.getD_cons_zero, List.getD_cons_succ, Array.getD_eq_getD_getElem?, List.getElem?_toArray, List.getElem?_cons_zero, List.getElem?_cons_succ, Option.getD_some]
          rfl
        case r1o15 =>
          intro w1 hG
          intro v14 h14
          change _ = _ at h14
          subst h14
          refine turn_on (by rfl) ?_
          intro K hK
          simp only [List.getD_cons_zero, List.getD_cons_succ, List.setIfInBounds_toArray, List.set_cons_zero, List.set_cons_succ]
          have hb1 := Below.trans (Below.refl wr.heap.size wr).drew hG
          obtain ⟨cx, cy, cz⟩ := HCC.out w1 hb1
          go_simp
          refine hK _ _ ⟨rfl, Kept.refl _, ?_⟩
          show _ = _
          simp only [List.getD_cons_zero, List.getD_cons_succ, Array.getD_eq_getD_getElem?, List.getElem?_toArray, List.getElem?_cons_zero, List.getElem?_cons_succ, Option.getD_some]
          rfl
        case r1o16 =>
          intro w1 hG
          intro v0 h0
          change _ = _ at h0
          subst h0
          intro v5 h5
          change _ = _ at h5
          subst h5
          intro v10 h10
          change _ = _ at h10
          subst h10
          intro v15 h15
          change _ = _ at h15
          subst h15
          refine turn_on (by rfl) ?_
          intro K hK
          simp only [List.getD_cons_zero, List.getD_cons_succ, List.setIfInBounds_toArray, List.set_cons_zero, List.set_cons_succ]
          go_simp
          refine Calls.mono (HMAP.out w1 (Below.trans (Below.refl wr.heap.size wr).drew hG)) ?_
          rintro e w9 ⟨v9, rfl, ho9, hb9⟩
          refine hK _ _ ⟨rfl, hb9, ?_⟩
          show ∃ s, _ = Value.tuple #[s, .int .i64 0] ∧ _
          simp only [List.getD_cons_zero, List.getD_cons_succ, Array.getD_eq_getD_getElem?, List.getElem?_toArray, List.getElem?_cons_zero, List.getElem?_cons_succ, Option.getD_some]
          exact ⟨_, rfl, ho9.mono (Nat.le_trans S.out.size (Below.trans (Below.refl wr.heap.size wr).drew hG).size)⟩
        case r1o17 =>
          intro w1 hG
          intro v16 h16
          obtain ⟨s16, rfl, h16⟩ := h16
          refine turn_on (by rfl) ?_
          intro K hK
          simp only [List.getD_cons_zero, List.getD_cons_succ, List.setIfInBounds_toArray, List.set_cons_zero, List.set_cons_succ]
          go_simp
          refine hK _ _ ⟨rfl, Kept.refl _, ?_⟩
          show ∃ s, _ = Value.tuple #[s, .int .i64 0] ∧ _
          simp only [List.getD_cons_zero, List.getD_cons_succ, Array.getD_eq_getD_getElem?, List.getElem?_toArray, List.getElem?_cons_zero, List.getElem?_cons_succ, Option.getD_some]
          exact ⟨_, rfl, h16⟩
        case r1o18 =>
          intro w1 hG
          intro v17 h17
          obtain ⟨s17, rfl, h17⟩ := h17
          refine turn_on (by rfl) ?_
          intro K hK
          simp only [List.getD_cons_zero, List.getD_cons_succ, List.setIfInBounds_toArray, List.set_cons_zero, List.set_cons_succ]
          go_simp
          refine hK _ _ ⟨rfl, Kept.refl _, ?_⟩
          show OwnsS _ _ _ _ _ _ _
          simp only [List.getD_cons_zero, List.getD_cons_succ, Array.getD_eq_getD_getElem?, List.getElem?_toArray, List.getElem?_cons_zero, List.getElem?_cons_succ, Option.getD_some]
          exact h17
        case r1o19 =>
          intro w1 hG
          intro v17 h17
          obtain ⟨s17, rfl, h17⟩ := h17
          refine turn_on (by rfl) ?_
          intro K hK
          simp only [List.getD_cons_zero, List.getD_cons_succ, List.setIfInBounds_toArray, List.set_cons_zero, List.set_cons_succ]
          go_simp
          refine hK _ _ ⟨rfl, Kept.refl _, ?_⟩
          show _ = _
          simp only [List.getD_cons_zero, List.getD_cons_succ, Array.getD_eq_getD_getElem?, List.getElem?_toArray, List.getElem?_cons_zero, List.getElem?_cons_succ, Option.getD_some]
          rfl
        case r1o20 =>
          intro w1 hG
          intro v18 h18
          refine turn_on (by rfl) ?_
          intro K hK
          simp only [List.getD_cons_zero, List.getD_cons_succ, List.setIfInBounds_toArray, List.set_cons_zero, List.set_cons_succ]
          go_simp
          refine hK _ _ ⟨rfl, Kept.refl _, ?_⟩
          show OwnsS _ _ _ _ _ _ _
          simp only [List.getD_cons_zero, List.getD_cons_succ, Array.getD_eq_getD_getElem?, List.getElem?_toArray, List.getElem?_cons_zero, List.getElem?_cons_succ, Option.getD_some]
          exact h18
        case r1o21 =>
          intro w1 hG
          intro v19 h19
          change _ = _ at h19
          subst h19
          refine turn_on (by rfl) ?_
          intro K hK
          simp only [List.getD_cons_zero, List.getD_cons_succ, List.setIfInBounds_toArray, List.set_cons_zero, List.set_cons_succ]
          go_simp
          refine hK _ _ ⟨rfl, Kept.refl _, ?_⟩
          show _ = _
          simp only [List.getD_cons_zero, List.getD_cons_succ, Array.getD_eq_getD_getElem?, List.getElem?_toArray, List.getElem?_cons_zero, List.getElem?_cons_succ, Option.getD_some]
          rfl
      intro w1 hG
      intro v0 h0
      change _ = _ at h0
      subst h0
      intro v1 h1
      change _ = _ at h1
      subst h1
      intro v2 h2
      change _ = _ at h2
      subst h2
      intro v3 h3
      change _ = _ at h3
      subst h3
      intro v4 h4
      change _ = _ at h4
      subst h4
      intro v5 h5
      change _ = _ at h5
      subst h5
      intro v6 h6
      change _ = _ at h6
      subst h6
      intro v7 h7
      change _ = _ at h7
      subst h7
      intro v8 h8
      change _ = _ at h8
      subst h8
      intro v9 h9
      change _ = _ at h9
      subst h9
      intro v10 h10
      change _ = _ at h10
      subst h10
      intro v11 h11
      change _ = _ at h11
      subst h11
      intro v12 h12
      change _ = _ at h12
      subst h12
      intro v13 h13
      change _ = _ at h13
      subst h13
      intro v14 h14
      change _ = _ at h14
      subst h14
      intro v15 h15
      change _ = _ at h15
      subst h15
      intro v16 h16
      obtain ⟨s16, rfl, h16⟩ := h16
      intro v17 h17
      obtain ⟨s17, rfl, h17⟩ := h17
      intro v18 h18
      intro v19 h19
      change _ = _ at h19
      subst h19
      intro v20 h20
      intro v21 h21
      change _ = _ at h21
      subst h21
      simp only [Given, List.getD_cons_zero, List.getD_cons_succ, List.setIfInBounds_toArray, List.set_cons_zero, List.set_cons_succ]
      have hbw := Below.trans (Below.refl wr.heap.size wr).drew hG
      obtain ⟨nx, hnx⟩ : ∃ x, (mapL A klo khi kp).length = x := ⟨_, rfl⟩
      obtain ⟨ax, cx, rfl⟩ := OwnsS.shapeN h20 nx hnx
      obtain ⟨u0, u1, u2⟩ := HDD.out w1 hbw
      have O20 := Lib.hid h20
      have hal := below_a w1 (.cells #[.int .i64 ulo, .int .i64 uhi, .int .i64 up] 29)
      have hbox := heap_alloc_new w1 (.cells #[.int .i64 ulo, .int .i64 uhi, .int .i64 up] 29)
      obtain ⟨w6, hw6⟩ : ∃ w6, w1.alloc (.cells #[.int .i64 ulo, .int .i64 uhi, .int .i64 up] 29) = w6 := ⟨_, rfl⟩
      obtain ⟨xb, hxb⟩ : ∃ xb, w1.heap.size = xb := ⟨_, rfl⟩
      rw [hw6] at hal hbox
      rw [hxb] at hbox
      have HAL := Lib.hid hal
      have HB6 := Lib.hid (Below.call hbw hal)
      obtain ⟨p0, p1, p2⟩ := cells3 hbox
      clear hal hbox hnx h20 h18 h16 h17 hG hbw
      go_wp2_with (first | (rw [hw6]) | fail)
      refine (HMBP.out w6 HB6.out).mono ?_
      rintro e w7 ⟨v7, rfl, ho7, hb7⟩
      obtain ⟨ny, hny⟩ : ∃ x, (mapL B ulo uhi up).length = x := ⟨_, rfl⟩
      obtain ⟨ay, cy, rfl⟩ := ho7.shapeN ny hny
      have HZ : Hid (OwnsS Rg.cells 3 29 w7 w3.heap.size (.slice ax nx cx) (mapL A klo khi kp)) := (O20.out.below HAL.out).below hb7
      have HY : Hid (OwnsS Rg.cells 3 29 w7 w3.heap.size (.slice ay ny cy) (mapL B ulo uhi up)) := ho7.mono (Nat.le_trans S.out.size HB6.out.size)
      have HS : Hid (Below w3.heap.size w3 w7) := Below.call S.out (Below.call HB6.out hb7)
      clear ho7 hb7 hny
      go_wp2
      go_roundw
      case rel => exact ⟨i + 1, by omega, by go_num, _, _, HZ.out, HY.out, XA2.out, XB2.out, HS.out⟩
      case measure => simp [intOf] <;> omega
    · obtain rfl : i = q := by omega
      have ea : A = C := (by have := HQ.out; rw [← this] at MA; exact MA.out.all HC.out (fun j hj => ⟨j, hj, rfl⟩))
      have eb : B = C := (by have h := HQ.out; have h2 := MB.out; rw [← h] at h2; exact h2.all HC.out (fun j hj => sgm_sur hj))
      subst ea
      have eb := eb.symm
      subst eb
      obtain rfl : na = i := by have h1 := (OA.out.rd rgC).len; have h2 := HQ.out; omega
      obtain rfl : nb = na := by have h1 := (OB.out.rd rgC).len; have h2 := HQ.out; omega
      have hb1000 : Hid (nb ≤ 1000) := by show _ ≤ _; omega
      clear MA MB
      go_wp2_with fail
      refine (same_yes aa ac nb ca cc A wr (OA.out.rd rgC) (RC.out _ S.out) hb1000.out).mono ?_
      rintro e w4 ⟨rfl, hb4⟩
      have S4 := Lib.hid (Below.call S.out hb4)
      have OB4 := Lib.hid (OB.out.below hb4)
      clear hb4 OA S OB
      go_wp2_with fail
      refine (same_yes ab ac nb cb cc A w4 (OB4.out.rd rgC) (RC.out _ S4.out) hb1000.out).mono ?_
      rintro e w5 ⟨rfl, hb5⟩
      have S5 := Lib.hid (Below.call S4.out hb5)
      have OB5 := Lib.hid (OB4.out.below hb5)
      clear hb5 S4 OB4
      go_wp2_with fail
      go_loopw [7, 14] (fun vb i wr => ∃ k : Nat, k ≤ nb ∧ i = .int .i64 k ∧ Hid (∃ B, OwnsS Rg.cells 3 29 wr w3.heap.size vb B ∧ UnSt (2 * 60) A (sgm nb t) k B ∧ Below w3.heap.size w3 wr)) (fun _ i _ => nb - (intOf i).toNat)
      case atStart => exact ⟨0, by omega, rfl, A, OB5.out, UnSt.start _ HC.out, S5.out⟩
      case round =>
        obtain ⟨i, hi, rfl, hh⟩ := hrel
        obtain ⟨B, h2, h4, h5⟩ := hh.out
        obtain ⟨ns, hns⟩ : ∃ x, B.length = x := ⟨_, rfl⟩
        obtain ⟨ab, cb, rfl⟩ := h2.shapeN ns hns
        have OB := Lib.hid h2
        have MB := Lib.hid h4
        have S := Lib.hid h5
        have HNS := Lib.hid hns
        clear hh h2 h4 h5 S5 OB5 hns
        by_cases hiq : i < nb
        · have hcl := HQ.out
          obtain ⟨ss, hss⟩ : ∃ ss, sgm nb t i = ss := ⟨_, rfl⟩
          have hsq : ss < nb := by rw [← hss]; exact Nat.mod_lt _ (by omega)
          obtain ⟨u, hu⟩ : ∃ u, A[ss]? = some u := ⟨A[ss], List.getElem?_eq_getElem (by omega)⟩
          have XB := Lib.hid (MB.out.step (k := u) HC.out (by rw [hss]; exact hu))
          have htm := sgm_tmod nb t i
          rw [hss] at htm
          obtain ⟨g, o, ea, u0, u1, u2⟩ := (RC.out _ S.out).three ss u hu
          subst ea
          obtain ⟨ulo, uhi, up⟩ := u
          replace u0 : wr.cell? ⟨g, o + ss * 3, none⟩ = some (.int .i64 ulo) := u0
          replace u1 : wr.cell? ⟨g, o + ss * 3 + 1, none⟩ = some (.int .i64 uhi) := u1
          replace u2 : wr.cell? ⟨g, o + ss * 3 + 2, none⟩ = some (.int .i64 up) := u2
          have HU : Hid (∀ w1, Below wr.heap.size wr w1 → Calls Try.prog 12 #[.slice ab ns cb, .int .i64 ulo, .int .i64 uhi] w1 (GivesRgs (unL B ulo uhi) w1)) := fun w1 hb => un_out ab ns cb B ulo uhi w1 ((OB.out.rd rgC).below hb) MB.out.cn (by omega)
          have XB2 : Hid (UnSt (2 * 60) A (sgm nb t) (i + 1) (unL B ulo uhi)) := XB.out
          have hal := below_a wr (.cells #[.int .i64 ulo, .int .i64 uhi, .int .i64 up] 29)
          have hbox := heap_alloc_new wr (.cells #[.int .i64 ulo, .int .i64 uhi, .int .i64 up] 29)
          obtain ⟨w6, hw6⟩ : ∃ w6, wr.alloc (.cells #[.int .i64 ulo, .int .i64 uhi, .int .i64 up] 29) = w6 := ⟨_, rfl⟩
          obtain ⟨xb, hxb⟩ : ∃ xb, wr.heap.size = xb := ⟨_, rfl⟩
          rw [hw6] at hal hbox
          rw [hxb] at hbox
          have HB6 := Lib.hid hal
          obtain ⟨p0, p1, p2⟩ := cells3 hbox
          clear hal hbox hcl hss hu XB
          go_wp2_with (first | (rw [hw6]) | fail)
          refine (HU.out w6 HB6.out).mono ?_
          rintro e w7 ⟨v7, rfl, ho7, hb7⟩
          have HY : Hid (OwnsS Rg.cells 3 29 w7 w3.heap.size v7 (unL B ulo uhi)) := ho7.mono (Nat.le_trans S.out.size HB6.out.size)
          have HS : Hid (Below w3.heap.size w3 w7) := Below.call S.out (Below.call HB6.out hb7)
          clear ho7 hb7
          go_wp2
          go_roundw
          case rel => exact ⟨i + 1, by omega, by go_num, _, HY.out, XB2.out, HS.out⟩
          case measure => simp [intOf] <;> omega
        · obtain rfl : i = nb := by omega
          have eb : B = [] := (by have h := HQ.out; have h2 := MB.out; rw [← h] at h2; exact h2.all (fun j hj => sgm_sur hj))
          subst eb
          obtain rfl : ns = 0 := HNS.out.symm
          have HF : Hid (Below w.heap.size w wr) := Below.call B3.out S.out
          clear MB
          go_wp2
          go_ret
          exact ⟨rfl, HF.out⟩
set_option linter.unusedSimpArgs false in
set_option linter.unusedVariables false in
set_option maxRecDepth 100000 in
set_option maxHeartbeats 4000000 in
theorem orders_down (a0 : Option Addr) (n c0 : Nat) (L : List Rg) (turn : Int) (t : Nat) (w : World) (h : RdS Rg.cells 3 w a0 n c0 L) (hn : n ≤ 60) (hn0 : 0 < n) (T : Int) (hT : turn.tmod (n : Int) = T) (hT0 : T < 0) (hsum : T + (n : Int) = (t : Int)) (ht60 : t ≤ 60) :
    Calls Try.prog 3 #[.slice a0 n c0, .int .i64 turn] w fun e w' => e = .returned (.bool true) ∧ Below w.heap.size w w' := by
  have H := Lib.hid h
  have hl := h.len
  have HC := Lib.hid (clean_cn (L := L) (n := 60) (by omega))
  obtain ⟨C, hC⟩ : ∃ C, cleanL L = C := ⟨_, rfl⟩
  rw [hC] at HC
  have HEQ := Lib.hid hC
  obtain ⟨q, hq⟩ : ∃ q, C.length = q := ⟨_, rfl⟩
  have hq1 : q ≤ 120 := by have := HC.out.few; omega
  have HQ := Lib.hid hq
  have dn : decide ((60 : Int) < (n : Int)) = false := decide_eq_false (by omega)
  have HN : Hid (n ≤ 60) := hn
  clear h hl hC hq
  go_enter Try.func3, Try.ntmps3
  go_wp2_with fail
  refine (known_any w).mono ?_
  rintro e w1 ⟨rfl, hb1⟩
  have B1 := Lib.hid hb1
  clear hb1
  go_wp2_with fail
  refine (clean_any a0 n c0 L w1 (H.out.below B1.out) (Nat.le_trans HN.out (by omega))).mono ?_
  rintro e w3 ⟨v2, rfl, ho2, hb2⟩
  rw [HEQ.out] at ho2
  obtain ⟨ac, cc, rfl⟩ := ho2.shapeN q HQ.out
  have B3 := Lib.hid (Below.call B1.out hb2)
  have RC : Hid (∀ z, Below w3.heap.size w3 z → RdS Rg.cells 3 z ac q cc C) := fun z hb => (ho2.below hb).rd rgC
  clear ho2 hb2 B1 H
  by_cases hq0 : q = 0
  · subst hq0
    go_wp2
    go_ret
    exact ⟨rfl, B3.out⟩
  have hqd : ((q : Int) == 0) = false := by simpa using hq0
  have hqp : 0 < (q : Int) := by omega
  go_wp2_with fail
  go_loopw [6, 7, 8] (fun va vb i wr => ∃ k : Nat, k ≤ q ∧ i = .int .i64 k ∧ Hid (∃ A B, OwnsS Rg.cells 3 29 wr w3.heap.size va A ∧ OwnsS Rg.cells 3 29 wr w3.heap.size vb B ∧ MapSt C (fun j => j) k A ∧ MapSt C (sgm q t) k B ∧ Below w3.heap.size w3 wr)) (fun _ _ i _ => q - (intOf i).toNat)
  case atStart => exact ⟨0, by omega, rfl, [], [], OwnsS.nil _ _ _ _ _, OwnsS.nil _ _ _ _ _, MapSt.start _ _, MapSt.start _ _, Below.refl _ _⟩
  case round =>
    obtain ⟨i, hi, rfl, hh⟩ := hrel
    obtain ⟨A, B, h1, h2, h3, h4, h5⟩ := hh.out
    obtain ⟨na, hna⟩ : ∃ x, A.length = x := ⟨_, rfl⟩
    obtain ⟨nb, hnb⟩ : ∃ x, B.length = x := ⟨_, rfl⟩
    obtain ⟨aa, ca, rfl⟩ := h1.shapeN na hna
    obtain ⟨ab, cb, rfl⟩ := h2.shapeN nb hnb
    have OA := Lib.hid h1
    have OB := Lib.hid h2
    have MA := Lib.hid h3
    have MB := Lib.hid h4
    have S := Lib.hid h5
    clear hh h1 h2 h3 h4 h5 hna hnb
    by_cases hiq : i < q
    · have hcl := HQ.out
      obtain ⟨k, hk⟩ : ∃ k, C[i]? = some k := ⟨C[i], List.getElem?_eq_getElem (by omega)⟩
      obtain ⟨ss, hss⟩ : ∃ ss, sgm q t i = ss := ⟨_, rfl⟩
      have hsq : ss < q := by rw [← hss]; exact Nat.mod_lt _ (by omega)
      obtain ⟨u, hu⟩ : ∃ u, C[ss]? = some u := ⟨C[ss], List.getElem?_eq_getElem (by omega)⟩
      have XA := Lib.hid (MA.out.step HC.out (fun j hj => by omega) hk)
      have XB := Lib.hid (MB.out.step (k := u) HC.out (fun j hj => sgm_inj hiq (by omega) (by omega)) (by rw [hss]; exact hu))
      have htm := sgm_tmod q t i
      rw [hss] at htm
      have hk1 := HC.out.lo k (List.mem_of_getElem? hk)
      have hu1 := HC.out.lo u (List.mem_of_getElem? hu)
      have HCC0 : Hid (∃ g o, ac = some ⟨g, o, none⟩ ∧ ∀ z, Below wr.heap.size wr z → z.cell? ⟨g, o + i * 3, none⟩ = some (.int .i64 k.lo) ∧ z.cell? ⟨g, o + i * 3 + 1, none⟩ = some (.int .i64 k.hi) ∧ z.cell? ⟨g, o + i * 3 + 2, none⟩ = some (.int .i64 k.p)) := by
        obtain ⟨g, o, e, _⟩ := (RC.out _ S.out).three i k hk
        refine ⟨g, o, e, fun z hb => ?_⟩
        obtain ⟨g', o', e', q3⟩ := (RC.out z (Below.call S.out hb)).three i k hk
        rw [e] at e'
        injection e' with e'
        injection e' with e1 e2
        subst e1 e2
        exact q3
      have HDD0 : Hid (∃ g o, ac = some ⟨g, o, none⟩ ∧ ∀ z, Below wr.heap.size wr z → z.cell? ⟨g, o + ss * 3, none⟩ = some (.int .i64 u.lo) ∧ z.cell? ⟨g, o + ss * 3 + 1, none⟩ = some (.int .i64 u.hi) ∧ z.cell? ⟨g, o + ss * 3 + 2, none⟩ = some (.int .i64 u.p)) := by
        obtain ⟨g, o, e, _⟩ := (RC.out _ S.out).three ss u hu
        refine ⟨g, o, e, fun z hb => ?_⟩
        obtain ⟨g', o', e', q3⟩ := (RC.out z (Below.call S.out hb)).three ss u hu
        rw [e] at e'
        injection e' with e'
        injection e' with e1 e2
        subst e1 e2
        exact q3
      obtain ⟨g, o, ea, hcc⟩ := HCC0.out
      obtain ⟨g', o', ea', hdd⟩ := HDD0.out
      subst ea
      injection ea' with ea'
      injection ea' with e1 e2
      subst e1 e2
      obtain ⟨klo, khi, kp⟩ := k
      obtain ⟨ulo, uhi, up⟩ := u
      have HCC : Hid (∀ z, Below wr.heap.size wr z → z.cell? ⟨g, o + i * 3, none⟩ = some (.int .i64 klo) ∧ z.cell? ⟨g, o + i * 3 + 1, none⟩ = some (.int .i64 khi) ∧ z.cell? ⟨g, o + i * 3 + 2, none⟩ = some (.int .i64 kp)) := hcc
      have HDD : Hid (∀ z, Below wr.heap.size wr z → z.cell? ⟨g, o + ss * 3, none⟩ = some (.int .i64 ulo) ∧ z.cell? ⟨g, o + ss * 3 + 1, none⟩ = some (.int .i64 uhi) ∧ z.cell? ⟨g, o + ss * 3 + 2, none⟩ = some (.int .i64 up)) := hdd
      have HMAP : Hid (∀ w1, Below wr.heap.size wr w1 → Calls Try.prog 10 #[.slice aa na ca, .int .i64 klo, .int .i64 khi, .int .i64 kp] w1 (GivesRE (mapL A klo khi kp) 0 w1)) := fun w1 hb => by
        have := map_out aa na ca A klo khi kp w1 ((OA.out.rd rgC).below hb) MA.out.cn (by omega) hk1.2.1
        rwa [XA.out.1] at this
      have HMBP : Hid (∀ w1, Below wr.heap.size wr w1 → Calls Try.prog 10 #[.slice ab nb cb, .int .i64 ulo, .int .i64 uhi, .int .i64 up] w1 (GivesRE (mapL B ulo uhi up) 0 w1)) := fun w1 hb => by
        have := map_out ab nb cb B ulo uhi up w1 ((OB.out.rd rgC).below hb) MB.out.cn (by omega) hu1.2.1
        rwa [XB.out.1] at this
      have XA2 : Hid (MapSt C (fun j => j) (i + 1) (mapL A klo khi kp)) := XA.out.2
      have XB2 : Hid (MapSt C (sgm q t) (i + 1) (mapL B ulo uhi up)) := XB.out.2
      clear hcl hk hu hss HCC0 HDD0 hcc hdd hk1 hu1 XA XB
      go_wp2
      refine' reg_free (G := Kept) (pickF [eqV _, eqV _, eqV _, eqV _, eqV _, eqV _, eqV _, eqV _, eqV _, eqV _, eqV _, eqV _, eqV _, eqV _, eqV _, eqV _, (fun v z => ∃ s, v = .tuple #[s, .int .i64 0] ∧ OwnsS Rg.cells 3 29 z w3.heap.size s (mapL A klo khi kp)), (fun v z => ∃ s, v = .tuple #[s, .int .i64 0] ∧ OwnsS Rg.cells 3 29 z w3.heap.size s (mapL A klo khi kp)), (fun v z => OwnsS Rg.cells 3 29 z w3.heap.size v (mapL A klo khi kp)), eqV _, (fun v z => OwnsS Rg.cells 3 29 z w3.heap.size v (mapL A klo khi kp)), eqV _]) [48, 49, 50, 51, 52, 53, 54, 55, 56, 57, 58, 59, 60, 61, 62, 63, 64, 47, 65, 66, 9, 10] [[], [], [], [1, 2], [3], [4], [], [], [6, 7], [8], [9], [], [], [11, 12], [13], [14], [0, 5, 10, 15], [16], [17], [17], [18], [19]] [0, 1, 2, 3, 4, 5, 6, 7, 8, 9, 10, 11, 12, 13, 14, 15, 16, 17, 18, 19, 20, 21] (by kernel_rfl) Kept.refl Kept.trans (pick_stays ⟨eqV_stays _, eqV_stays _, eqV_stays _, eqV_stays _, eqV_stays _, eqV_stays _, eqV_stays _, eqV_stays _, eqV_stays _, eqV_stays _, eqV_stays _, eqV_stays _, eqV_stays _, eqV_stays _, eqV_stays _, eqV_stays _, fun _ _ _ ⟨s, e, p⟩ b => ⟨s, e, OwnsS.below p b⟩, fun _ _ _ ⟨s, e, p⟩ b => ⟨s, e, OwnsS.below p b⟩, fun _ _ _ p b => OwnsS.below p b, eqV_stays _, fun _ _ _ p b => OwnsS.below p b, eqV_stays _, trivial⟩) 129 rfl (by kernel_rfl) (by kernel_rfl) rfl rfl ?r1obl ?r1fin
      case r1obl =>
        refine And.intro ?r1o0 (And.intro ?r1o1 (And.intro ?r1o2 (And.intro ?r1o3 (And.intro ?r1o4 (And.intro ?r1o5 (And.intro ?r1o6 (And.intro ?r1o7 (And.intro ?r1o8 (And.intro ?r1o9 (And.intro ?r1o10 (And.intro ?r1o11 (And.intro ?r1o12 (And.intro ?r1o13 (And.intro ?r1o14 (And.intro ?r1o15 (And.intro ?r1o16 (And.intro ?r1o17 (And.intro ?r1o18 (And.intro ?r1o19 (And.intro ?r1o20 (And.intro ?r1o21 (True.intro))))))))))))))))))))))
        case r1o0 =>
          intro w1 hG
          refine turn_on (by rfl) ?_
          intro K hK
          go_simp
          refine hK _ _ ⟨rfl, Kept.refl _, ?_⟩
          show _ = _
          simp only [List.getD_cons_zero, List.getD_cons_succ, Array.getD_eq_getD_getElem?, List.getElem?_toArray, List.getElem?_cons_zero, List.getElem?_cons_succ, Option.getD_some]
          rfl
        case r1o1 =>
          intro w1 hG
          refine turn_on (by rfl) ?_
          intro K hK
          go_simp
          refine hK _ _ ⟨rfl, Kept.refl _, ?_⟩
          show _ = _
          simp only [List.getD_cons_zero, List.getD_cons_succ, Array.getD_eq_getD_getElem?, List.getElem?_toArray, List.getElem?_cons_zero, List.getElem?_cons_succ, Option.getD_some]
          rfl
        case r1o2 =>
          intro w1 hG
          refine turn_on (by rfl) ?_
          intro K hK
          go_simp
          refine hK _ _ ⟨rfl, Kept.refl _, ?_⟩
          show _ = _
          simp only [List.getD_cons_zero, List.getD_cons_succ, Array.getD_eq_getD_getElem?, List.getElem?_toArray, List.getElem?_cons_zero, List.getElem?_cons_succ, Option.getD_some]
          rfl
        case r1o3 =>
          intro w1 hG
          intro v1 h1
          change _ = _ at h1
          subst h1
          intro v2 h2
          change _ = _ at h2
          subst h2
          refine turn_on (by rfl) ?_
          intro K hK
          simp only [List.getD_cons_zero, List.getD_cons_succ, List.setIfInBounds_toArray, List.set_cons_zero, List.set_cons_succ]
          go_simp
          refine hK _ _ ⟨rfl, Kept.refl _, ?_⟩
          show _ = _
          simp only [List.getD_cons_zero, List.getD_cons_succ, Array.getD_eq_getD_getElem?, List.getElem?_toArray, List.getElem?_cons_zero, List.getElem?_cons_succ, Option.getD_some]
          rfl
        case r1o4 =>
          intro w1 hG
          intro v3 h3
          change _ = _ at h3
          subst h3
          refine turn_on (by rfl) ?_
          intro K hK
          simp only [List.getD_cons_zero, List.getD_cons_succ, List.setIfInBounds_toArray, List.set_cons_zero, List.set_cons_succ]
          go_simp
          refine hK _ _ ⟨rfl, Kept.refl _, ?_⟩
          show _ = _
          simp only [List.getD_cons_zero, List.getD_cons_succ, Array.getD_eq_getD_getElem?, List.getElem?_toArray, List.getElem?_cons_zero, List.getElem?_cons_succ, Option.getD_some]
          rfl
        case r1o5 =>
          intro w1 hG
          intro v4 h4
          change _ = _ at h4
          subst h4
          refine turn_on (by rfl) ?_
          intro K hK
          simp only [List.getD_cons_zero, List.getD_cons_succ, List.setIfInBounds_toArray, List.set_cons_zero, List.set_cons_succ]
          have hb1 := Below.trans (Below.refl wr.heap.size wr).drew hG
          obtain ⟨cx, cy, cz⟩ := HCC.out w1 hb1
          go_simp
          refine hK _ _ ⟨rfl, Kept.refl _, ?_⟩
          show _ = _
          simp only [List.getD_cons_zero, List.getD_cons_succ, Array.getD_eq_getD_getElem?, List.getElem?_toArray, List.getElem?_cons_zero, List.getElem?_cons_succ, Option.getD_some]
          rfl
        case r1o6 =>
          intro w1 hG
          refine turn_on (by rfl) ?_
          intro K hK
          go_simp
          refine hK _ _ ⟨rfl, Kept.refl _, ?_⟩
          show _ = _
          simp only [List.getD_cons_zero, List.getD_cons_succ, Array.getD_eq_getD_getElem?, List.getElem?_toArray, List.getElem?_cons_zero, List.getElem?_cons_succ, Option.getD_some]
          rfl
        case r1o7 =>
          intro w1 hG
          refine turn_on (by rfl) ?_
          intro K hK
          go_simp
          refine hK _ _ ⟨rfl, Kept.refl _, ?_⟩
          show _ = _
          simp only [List.getD_cons_zero, List.getD_cons_succ, Array.getD_eq_getD_getElem?, List.getElem?_toArray, List.getElem?_cons_zero, List.getElem?_cons_succ, Option.getD_some]
          rfl
        case r1o8 =>
          intro w1 hG
          intro v6 h6
          change _ = _ at h6
          subst h6
          intro v7 h7
          change _ = _ at h7
          subst h7
          refine turn_on (by rfl) ?_
          intro K hK
          simp only [List.getD_cons_zero, List.getD_cons_succ, List.setIfInBounds_toArray, List.set_cons_zero, List.set_cons_succ]
          go_simp
          refine hK _ _ ⟨rfl, Kept.refl _, ?_⟩
          show _ = _
          simp only [List.getD_cons_zero, List.getD_cons_succ, Array.getD_eq_getD_getElem?, List.getElem?_toArray, List.getElem?_cons_zero, List.getElem?_cons_succ, Option.getD_some]
          rfl
        case r1o9 =>
          intro w1 hG
          intro v8 h8
          change _ = _ at h8
          subst h8
          refine turn_on (by rfl) ?_
          intro K hK
          simp only [List.getD_cons_zero, List.getD_cons_succ, List.setIfInBounds_toArray, List.set_cons_zero, List.set_cons_succ]
          go_simp
          refine hK _ _ ⟨rfl, Kept.refl _, ?_⟩
          show _ = _
          simp only [List.getD_cons_zero, List.getD_cons_succ, Array.getD_eq_getD_getElem?, List.getElem?_toArray, List.getElem?_cons_zero, List.getElem?_cons_succ, Option.getD_some]
          rfl
        case r1o10 =>
          intro w1 hG
          intro v9 h9
          change _ = _ at h9
          subst h9
          refine turn_on (by rfl) ?_
          intro K hK
          simp only [List.getD_cons_zero, List.getD_cons_succ, List.setIfInBounds_toArray, List.set_cons_zero, List.set_cons_succ]
          have hb1 := Below.trans (Below.refl wr.heap.size wr).drew hG
          obtain ⟨cx, cy, cz⟩ := HCC.out w1 hb1
          go_simp
          refine hK _ _ ⟨rfl, Kept.refl _, ?_⟩
          show _ = _
          simp only [List.getD_cons_zero, List.getD_cons_succ, Array.getD_eq_getD_getElem?, List.getElem?_toArray, List.getElem?_cons_zero, List.getElem?_cons_succ, Option.getD_some]
          rfl
        case r1o11 =>
          intro w1 hG
          refine turn_on (by rfl) ?_
          intro K hK
          go_simp
          refine hK _ _ ⟨rfl, Kept.refl _, ?_⟩
          show _ = _
          simp only [List.getD_cons_zero, List.getD_cons_succ, Array.getD_eq_getD_getElem?, List.getElem?_toArray, List.getElem?_cons_zero, List.getElem?_cons_succ, Option.getD_some]
          rfl
        case r1o12 =>
          intro w1 hG
          refine turn_on (by rfl) ?_
          intro K hK
          go_simp
          refine hK _ _ ⟨rfl, Kept.refl _, ?_⟩
          show _ = _
          simp only [List.getD_cons_zero, List.getD_cons_succ, Array.getD_eq_getD_getElem?, List.getElem?_toArray, List.getElem?_cons_zero, List.getElem?_cons_succ, Option.getD_some]
          rfl
        case r1o13 =>
          intro w1 hG
          intro v11 h11
          change _ = _ at h11
          subst h11
          intro v12 h12
          change _ = _ at h12
          subst h12
          refine turn_on (by rfl) ?_
          intro K hK
          simp only [List.getD_cons_zero, List.getD_cons_succ, List.setIfInBounds_toArray, List.set_cons_zero, List.set_cons_succ]
          go_simp
          refine hK _ _ ⟨rfl, Kept.refl _, ?_⟩
          show _ = _
          simp only [List.getD_cons_zero, List.getD_cons_succ, Array.getD_eq_getD_getElem?, List.getElem?_toArray, List.getElem?_cons_zero, List.getElem?_cons_succ, Option.getD_some]
          rfl
        case r1o14 =>
          intro w1 hG
          intro v13 h13
          change _ = _ at h13
          subst h13
          refine turn_on (by rfl) ?_
          intro K hK
          simp only [List.getD_cons_zero, List.getD_cons_succ, List.setIfInBounds_toArray, List.set_cons_zero, List.set_cons_succ]
          go_simp
          refine hK _ _ ⟨rfl, Kept.refl _, ?_⟩
          show _ = _
          simp only [List.getD_cons_zero, List.getD_cons_succ, Array.getD_eq_getD_getElem?, List.getElem?_toArray, List.getElem?_cons_zero, List.getElem?_cons_succ, Option.getD_some]
          rfl
        case r1o15 =>
          intro w1 hG
          intro v14 h14
          change _ = _ at h14
          subst h14
          refine turn_on (by rfl) ?_
          intro K hK
          simp only [List.getD_cons_zero, List.getD_cons_succ, List.setIfInBounds_toArray, List.set_cons_zero, List.set_cons_succ]
          have hb1 := Below.trans (Below.refl wr.heap.size wr).drew hG
          obtain ⟨cx, cy, cz⟩ := HCC.out w1 hb1
          go_simp
          refine hK _ _ ⟨rfl, Kept.refl _, ?_⟩
          show _ = _
          simp only [List.getD_cons_zero, List.getD_cons_succ, Array.getD_eq_getD_getElem?, List.getElem?_toArray, List.getElem?_cons_zero, List.getElem?_cons_succ, Option.getD_some]
          rfl
        case r1o16 =>
          intro w1 hG
          intro v0 h0
          change _ = _ at h0
          subst h0
          intro v5 h5
          change _ = _ at h5
          subst h5
          intro v10 h10
          change _ = _ at h10
          subst h10
          intro v15 h15
          change _ = _ at h15
          subst h15
          refine turn_on (by rfl) ?_
          intro K hK
          simp only [List.getD_cons_zero, List.getD_cons_succ, List.setIfInBounds_toArray, List.set_cons_zero, List.set_cons_succ]
          go_simp
          refine Calls.mono (HMAP.out w1 (Below.trans (Below.refl wr.heap.size wr).drew hG)) ?_
          rintro e w9 ⟨v9, rfl, ho9, hb9⟩
          refine hK _ _ ⟨rfl, hb9, ?_⟩
          show ∃ s, _ = Value.tuple #[s, .int .i64 0] ∧ _
          simp only [List.getD_cons_zero, List.getD_cons_succ, Array.getD_eq_getD_getElem?, List.getElem?_toArray, List.getElem?_cons_zero, List.getElem?_cons_succ, Option.getD_some]
          exact ⟨_, rfl, ho9.mono (Nat.le_trans S.out.size (Below.trans (Below.refl wr.heap.size wr).drew hG).size)⟩
        case r1o17 =>
          intro w1 hG
          intro v16 h16
          obtain ⟨s16, rfl, h16⟩ := h16
          refine turn_on (by rfl) ?_
          intro K hK
          simp only [List.getD_cons_zero, List.getD_cons_succ, List.setIfInBounds_toArray, List.set_cons_zero, List.set_cons_succ]
          go_simp
          refine hK _ _ ⟨rfl, Kept.refl _, ?_⟩
          show ∃ s, _ = Value.tuple #[s, .int .i64 0] ∧ _
          simp only [List.getD_cons_zero, List.getD_cons_succ, Array.getD_eq_getD_getElem?, List.getElem?_toArray, List.getElem?_cons_zero, List.getElem?_cons_succ, Option.getD_some]
          exact ⟨_, rfl, h16⟩
        case r1o18 =>
          intro w1 hG
          intro v17 h17
          obtain ⟨s17, rfl, h17⟩ := h17
          refine turn_on (by rfl) ?_
          intro K hK
          simp only [List.getD_cons_zero, List.getD_cons_succ, List.setIfInBounds_toArray, List.set_cons_zero, List.set_cons_succ]
          go_simp
          refine hK _ _ ⟨rfl, Kept.refl _, ?_⟩
          show OwnsS _ _ _ _ _ _ _
          simp only [List.getD_cons_zero, List.getD_cons_succ, Array.getD_eq_getD_getElem?, List.getElem?_toArray, List.getElem?_cons_zero, List.getElem?_cons_succ, Option.getD_some]
          exact h17
        case r1o19 =>
          intro w1 hG
          intro v17 h17
          obtain ⟨s17, rfl, h17⟩ := h17
          refine turn_on (by rfl) ?_
          intro K hK
          simp only [List.getD_cons_zero, List.getD_cons_succ, List.setIfInBounds_toArray, List.set_cons_zero, List.set_cons_succ]
          go_simp
          refine hK _ _ ⟨rfl, Kept.refl _, ?_⟩
          show _ = _
          simp only [List.getD_cons_zero, List.getD_cons_succ, Array.getD_eq_getD_getElem?, List.getElem?_toArray, List.getElem?_cons_zero, List.getElem?_cons_succ, Option.getD_some]
          rfl
        case r1o20 =>
          intro w1 hG
          intro v18 h18
          refine turn_on (by rfl) ?_
          intro K hK
          simp only [List.getD_cons_zero, List.getD_cons_succ, List.setIfInBounds_toArray, List.set_cons_zero, List.set_cons_succ]
          go_simp
          refine hK _ _ ⟨rfl, Kept.refl _, ?_⟩
          show OwnsS _ _ _ _ _ _ _
          simp only [List.getD_cons_zero, List.getD_cons_succ, Array.getD_eq_getD_getElem?, List.getElem?_toArray, List.getElem?_cons_zero, List.getElem?_cons_succ, Option.getD_some]
          exact h18
        case r1o21 =>
          intro w1 hG
          intro v19 h19
          change _ = _ at h19
          subst h19
          refine turn_on (by rfl) ?_
          intro K hK
          simp only [List.getD_cons_zero, List.getD_cons_succ, List.setIfInBounds_toArray, List.set_cons_zero, List.set_cons_succ]
          go_simp
          refine hK _ _ ⟨rfl, Kept.refl _, ?_⟩
          show _ = _
          simp only [List.getD_cons_zero, List.getD_cons_succ, Array.getD_eq_getD_getElem?, List.getElem?_toArray, List.getElem?_cons_zero, List.getElem?_cons_succ, Option.getD_some]
          rfl
      intro w1 hG
      intro v0 h0
      change _ = _ at h0
      subst h0
      intro v1 h1
      change _ = _ at h1
      subst h1
      intro v2 h2
      change _ = _ at h2
      subst h2
      intro v3 h3
      change _ = _ at h3
      subst h3
      intro v4 h4
      change _ = _ at h4
      subst h4
      intro v5 h5
      change _ = _ at h5
      subst h5
      intro v6 h6
      change _ = _ at h6
      subst h6
      intro v7 h7
      change _ = _ at h7
      subst h7
      intro v8 h8
      change _ = _ at h8
      subst h8
      intro v9 h9
      change _ = _ at h9
      subst h9
      intro v10 h10
      change _ = _ at h10
      subst h10
      intro v11 h11
      change _ = _ at h11
      subst h11
      intro v12 h12
      change _ = _ at h12
      subst h12
      intro v13 h13
      change _ = _ at h13
      subst h13
      intro v14 h14
      change _ = _ at h14
      subst h14
      intro v15 h15
      change _ = _ at h15
      subst h15
      intro v16 h16
      obtain ⟨s16, rfl, h16⟩ := h16
      intro v17 h17
      obtain ⟨s17, rfl, h17⟩ := h17
      intro v18 h18
      intro v19 h19
      change _ = _ at h19
      subst h19
      intro v20 h20
      intro v21 h21
      change _ = _ at h21
      subst h21
      simp only [Given, List.getD_cons_zero, List.getD_cons_succ, List.setIfInBounds_toArray, List.set_cons_zero, List.set_cons_succ]
      have hbw := Below.trans (Below.refl wr.heap.size wr).drew hG
      obtain ⟨nx, hnx⟩ : ∃ x, (mapL A klo khi kp).length = x := ⟨_, rfl⟩
      obtain ⟨ax, cx, rfl⟩ := OwnsS.shapeN h20 nx hnx
      obtain ⟨u0, u1, u2⟩ := HDD.out w1 hbw
      have O20 := Lib.hid h20
      have hal := below_a w1 (.cells #[.int .i64 ulo, .int .i64 uhi, .int .i64 up] 29)
      have hbox := heap_alloc_new w1 (.cells #[.int .i64 ulo, .int .i64 uhi, .int .i64 up] 29)
      obtain ⟨w6, hw6⟩ : ∃ w6, w1.alloc (.cells #[.int .i64 ulo, .int .i64 uhi, .int .i64 up] 29) = w6 := ⟨_, rfl⟩
      obtain ⟨xb, hxb⟩ : ∃ xb, w1.heap.size = xb := ⟨_, rfl⟩
      rw [hw6] at hal hbox
      rw [hxb] at hbox
      have HAL := Lib.hid hal
      have HB6 := Lib.hid (Below.call hbw hal)
      obtain ⟨p0, p1, p2⟩ := cells3 hbox
      clear hal hbox hnx h20 h18 h16 h17 hG hbw
      go_wp2_with (first | (rw [hw6]) | fail)
      refine (HMBP.out w6 HB6.out).mono ?_
      rintro e w7 ⟨v7, rfl, ho7, hb7⟩
      obtain ⟨ny, hny⟩ : ∃ x, (mapL B ulo uhi up).length = x := ⟨_, rfl⟩
      obtain ⟨ay, cy, rfl⟩ := ho7.shapeN ny hny
      have HZ : Hid (OwnsS Rg.cells 3 29 w7 w3.heap.size (.slice ax nx cx) (mapL A klo khi kp)) := (O20.out.below HAL.out).below hb7
      have HY : Hid (OwnsS Rg.cells 3 29 w7 w3.heap.size (.slice ay ny cy) (mapL B ulo uhi up)) := ho7.mono (Nat.le_trans S.out.size HB6.out.size)
      have HS : Hid (Below w3.heap.size w3 w7) := Below.call S.out (Below.call HB6.out hb7)
      clear ho7 hb7 hny
      go_wp2
      go_roundw
      case rel => exact ⟨i + 1, by omega, by go_num, _, _, HZ.out, HY.out, XA2.out, XB2.out, HS.out⟩
      case measure => simp [intOf] <;> omega
    · obtain rfl : i = q := by omega
      have ea : A = C := (by have := HQ.out; rw [← this] at MA; exact MA.out.all HC.out (fun j hj => ⟨j, hj, rfl⟩))
      have eb : B = C := (by have h := HQ.out; have h2 := MB.out; rw [← h] at h2; exact h2.all HC.out (fun j hj => sgm_sur hj))
      subst ea
      have eb := eb.symm
      subst eb
      obtain rfl : na = i := by have h1 := (OA.out.rd rgC).len; have h2 := HQ.out; omega
      obtain rfl : nb = na := by have h1 := (OB.out.rd rgC).len; have h2 := HQ.out; omega
      have hb1000 : Hid (nb ≤ 1000) := by show _ ≤ _; omega
      clear MA MB
      go_wp2_with fail
      refine (same_yes aa ac nb ca cc A wr (OA.out.rd rgC) (RC.out _ S.out) hb1000.out).mono ?_
      rintro e w4 ⟨rfl, hb4⟩
      have S4 := Lib.hid (Below.call S.out hb4)
      have OB4 := Lib.hid (OB.out.below hb4)
      clear hb4 OA S OB
      go_wp2_with fail
      refine (same_yes ab ac nb cb cc A w4 (OB4.out.rd rgC) (RC.out _ S4.out) hb1000.out).mono ?_
      rintro e w5 ⟨rfl, hb5⟩
      have S5 := Lib.hid (Below.call S4.out hb5)
      have OB5 := Lib.hid (OB4.out.below hb5)
      clear hb5 S4 OB4
      go_wp2_with fail
      go_loopw [7, 14] (fun vb i wr => ∃ k : Nat, k ≤ nb ∧ i = .int .i64 k ∧ Hid (∃ B, OwnsS Rg.cells 3 29 wr w3.heap.size vb B ∧ UnSt (2 * 60) A (sgm nb t) k B ∧ Below w3.heap.size w3 wr)) (fun _ i _ => nb - (intOf i).toNat)
      case atStart => exact ⟨0, by omega, rfl, A, OB5.out, UnSt.start _ HC.out, S5.out⟩
      case round =>
        obtain ⟨i, hi, rfl, hh⟩ := hrel
        obtain ⟨B, h2, h4, h5⟩ := hh.out
        obtain ⟨ns, hns⟩ : ∃ x, B.length = x := ⟨_, rfl⟩
        obtain ⟨ab, cb, rfl⟩ := h2.shapeN ns hns
        have OB := Lib.hid h2
        have MB := Lib.hid h4
        have S := Lib.hid h5
        have HNS := Lib.hid hns
        clear hh h2 h4 h5 S5 OB5 hns
        by_cases hiq : i < nb
        · have hcl := HQ.out
          obtain ⟨ss, hss⟩ : ∃ ss, sgm nb t i = ss := ⟨_, rfl⟩
          have hsq : ss < nb := by rw [← hss]; exact Nat.mod_lt _ (by omega)
          obtain ⟨u, hu⟩ : ∃ u, A[ss]? = some u := ⟨A[ss], List.getElem?_eq_getElem (by omega)⟩
          have XB := Lib.hid (MB.out.step (k := u) HC.out (by rw [hss]; exact hu))
          have htm := sgm_tmod nb t i
          rw [hss] at htm
          obtain ⟨g, o, ea, u0, u1, u2⟩ := (RC.out _ S.out).three ss u hu
          subst ea
          obtain ⟨ulo, uhi, up⟩ := u
          replace u0 : wr.cell? ⟨g, o + ss * 3, none⟩ = some (.int .i64 ulo) := u0
          replace u1 : wr.cell? ⟨g, o + ss * 3 + 1, none⟩ = some (.int .i64 uhi) := u1
          replace u2 : wr.cell? ⟨g, o + ss * 3 + 2, none⟩ = some (.int .i64 up) := u2
          have HU : Hid (∀ w1, Below wr.heap.size wr w1 → Calls Try.prog 12 #[.slice ab ns cb, .int .i64 ulo, .int .i64 uhi] w1 (GivesRgs (unL B ulo uhi) w1)) := fun w1 hb => un_out ab ns cb B ulo uhi w1 ((OB.out.rd rgC).below hb) MB.out.cn (by omega)
          have XB2 : Hid (UnSt (2 * 60) A (sgm nb t) (i + 1) (unL B ulo uhi)) := XB.out
          have hal := below_a wr (.cells #[.int .i64 ulo, .int .i64 uhi, .int .i64 up] 29)
          have hbox := heap_alloc_new wr (.cells #[.int .i64 ulo, .int .i64 uhi, .int .i64 up] 29)
          obtain ⟨w6, hw6⟩ : ∃ w6, wr.alloc (.cells #[.int .i64 ulo, .int .i64 uhi, .int .i64 up] 29) = w6 := ⟨_, rfl⟩
          obtain ⟨xb, hxb⟩ : ∃ xb, wr.heap.size = xb := ⟨_, rfl⟩
          rw [hw6] at hal hbox
          rw [hxb] at hbox
          have HB6 := Lib.hid hal
          obtain ⟨p0, p1, p2⟩ := cells3 hbox
          clear hal hbox hcl hss hu XB
          go_wp2_with (first | (rw [hw6]) | fail)
          refine (HU.out w6 HB6.out).mono ?_
          rintro e w7 ⟨v7, rfl, ho7, hb7⟩
          have HY : Hid (OwnsS Rg.cells 3 29 w7 w3.heap.size v7 (unL B ulo uhi)) := ho7.mono (Nat.le_trans S.out.size HB6.out.size)
          have HS : Hid (Below w3.heap.size w3 w7) := Below.call S.out (Below.call HB6.out hb7)
          clear ho7 hb7
          go_wp2
          go_roundw
          case rel => exact ⟨i + 1, by omega, by go_num, _, HY.out, XB2.out, HS.out⟩
          case measure => simp [intOf] <;> omega
        · obtain rfl : i = nb := by omega
          have eb : B = [] := (by have h := HQ.out; have h2 := MB.out; rw [← h] at h2; exact h2.all (fun j hj => sgm_sur hj))
          subst eb
          obtain rfl : ns = 0 := HNS.out.symm
          have HF : Hid (Below w.heap.size w wr) := Below.call B3.out S.out
          clear MB
          go_wp2
          go_ret
          exact ⟨rfl, HF.out⟩
set_option linter.unusedSimpArgs false in
set_option linter.unusedVariables false in
set_option maxRecDepth 100000 in
set_option maxHeartbeats 4000000 in
theorem regionOrders_walk (a0 : Option Addr) (n c0 : Nat) (L : List Rg) (turn : Int) (w : World) (h : RdS Rg.cells 3 w a0 n c0 L) (hturn : (Lit.int .i64 turn).wf = true) :
    Calls Try.prog 3 #[.slice a0 n c0, .int .i64 turn] w fun e w' => e = .returned (.bool true) ∧ Below w.heap.size w w' := by
  by_cases h1 : n ≤ 60
  · by_cases h2 : n = 0
    · subst h2
      clear h hturn
      go_enter Try.func3, Try.ntmps3
      go_wp2_with fail
      refine (known_any w).mono ?_
      rintro e w1 ⟨rfl, hb1⟩
      go_wp2
      go_ret
      exact ⟨rfl, hb1⟩
    · have hpos : 0 < (n : Int) := by omega
      have hm1 := Int.tmod_lt_of_pos turn hpos
      have hm2 := Int.lt_tmod_of_pos turn hpos
      by_cases h3 : 0 ≤ turn.tmod (n : Int)
      · exact orders_up a0 n c0 L turn (turn.tmod (n : Int)).toNat w h h1 (by omega) (by omega) (by omega)
      · exact orders_down a0 n c0 L turn (turn.tmod (n : Int) + n).toNat w h h1 (by omega) _ rfl (by omega) (by omega) (by omega)
  · have dn : decide ((60 : Int) < (n : Int)) = true := decide_eq_true (by omega)
    clear h hturn
    go_enter Try.func3, Try.ntmps3
    go_wp2_with fail
    refine (known_any w).mono ?_
    rintro e w1 ⟨rfl, hb1⟩
    go_wp2
    go_ret
    exact ⟨rfl, hb1⟩
end Go.Proofs.Ytoampbdipmecmaa
