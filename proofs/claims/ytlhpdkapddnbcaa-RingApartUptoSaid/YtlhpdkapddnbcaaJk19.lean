/- ring: a step of another kind. ring: a step: Append where there is no room. -/
import Derived.Test.YtlhpdkapddnbcaaJk0
import Derived.Deep.CutBlock
import Derived.Deep.DeepCutAuto
import Derived.Test.YtlhpdkapddnbcaaJk18
namespace Go.Proofs.Ytlhpdkapddnbcaa
open Go.RowKit
set_option linter.unusedSimpArgs false in
set_option linter.unusedVariables false in
set_option maxRecDepth 100000 in
set_option maxHeartbeats 4000000 in
theorem step_none (C : PlC) (OK : C.Ok) (w0 w : World) (Q : Nat → Prop) (i r : Nat) (st : Dk) (J : Jr) (L : List (List Int)) (a : Option Addr) (m c : Nat) (mv : Value) (may : Bool) (ma : Int) (hp : PlR C w0 w Q i r st J L ⟨.pointer (some ⟨r, 0, none⟩), .slice a m c, mv, may, ma, J.h.first, L⟩) (hi : i ≤ 900) (op N : Int) (ba : Option Addr) (bn bc : Nat) (B : List Int) (ka : Option Addr) (kn kc : Nat) (kl : List Bool) (hB : RdAt .u8 w0 ba bn bc B) (hK : RdB w0 ka kn kc kl) (hbn : bn ≤ 1000000) (hkn : kn ≤ 1000000) (hN0 : 0 ≤ N) (hN1 : N ≤ 100) (h1 : op ≠ 1) (h2 : op ≠ 2) (h3 : op ≠ 3) (h4 : op ≠ 4) :
    Calls Try.prog 25 #[.pointer (some ⟨C.g, 0, none⟩), .agg #[.int .i64 op, .slice ba bn bc, .int .i64 N, .slice ka kn kc]] w fun e w' => e = .returned (.bool true) ∧ ∃ L', PlS C w0 w' (i + 2) L' := by
  obtain ⟨a', m', c', e1, e2⟩ := hp.rows
  injection e1 with e10 e11 e12
  subst e10 e11 e12
  have hm60 : m ≤ 60 := by rw [← e2.len]; exact hp.len60 OK
  have HLM : Hid (L.length = m) := e2.len
  clear e2
  have hba : Below w.heap.size w (w.alloc ((.cells #[.int .i64 op, .slice ba bn bc, .int .i64 N, .slice ka kn kc] 63))) := (Below.refl _ _).alloc (Nat.le_refl _) _
  have hbx : (w.alloc ((.cells #[.int .i64 op, .slice ba bn bc, .int .i64 N, .slice ka kn kc] 63))).heap[w.heap.size]? = some (.cells #[.int .i64 op, .slice ba bn bc, .int .i64 N, .slice ka kn kc] 63 (0, 0)) := heap_alloc_new _ _
  have hxq : ¬ Q w.heap.size := fun h => Nat.lt_irrefl _ (hp.ri.lt _ h)
  have hxg : C.g ≠ w.heap.size := by have := hp.glt; omega
  have hp1 := hp.more hba
  obtain ⟨x, hx⟩ : ∃ x, w.heap.size = x := ⟨_, rfl⟩
  rw [hx] at hbx hxq hxg
  have d1 : (op == 1) = false := beq_eq_false_iff_ne.2 h1
  have d2 : (op == 2) = false := beq_eq_false_iff_ne.2 h2
  have d3 : (op == 3) = false := beq_eq_false_iff_ne.2 h3
  have d4 : (op == 4) = false := beq_eq_false_iff_ne.2 h4
  go_enter Try.func25, Try.ntmps25
  go_upto_region 1 with fail
  obtain ⟨wA, hwA⟩ : ∃ wA, w.alloc ((.cells #[.int .i64 op, .slice ba bn bc, .int .i64 N, .slice ka kn kc] 63)) = wA := ⟨_, rfl⟩
  rw [hwA] at hbx hp1 ⊢
  have HBX := Lib.hid hbx
  have PA := Lib.hid hp1
  have hxA : x < wA.heap.size := (Array.getElem?_eq_some_iff.1 hbx).1
  clear hba hwA hp hp1
  obtain ⟨b0, b1, b2, b3⟩ := cells4 hbx
  clear hbx
  have HLM2 := HLM
  clear HBX
  go_upto_region 32 with fail
  obtain ⟨eq1, eq2⟩ := PA.out.lenW HLM2.out
  have dd : (J.h.first == J.h.first) = true := beq_self_eq_true _
  have dd2 : (J.h.next == J.h.next) = true := beq_self_eq_true _
  refine' reg_free (G := Kept) (pickF [eqV _, eqV _, eqV _, eqV _, eqV _, eqV _, eqV _, eqV _, eqV _, eqV _, eqV _, eqV _, eqV _, eqV _, eqV _, eqV _, eqV _, eqV _, eqV _, eqV _, eqV _, eqV _, eqV _, eqV _, eqV _, eqV _, eqV _, eqV _, eqV _, eqV _]) [201, 202, 203, 204, 205, 206, 207, 208, 209, 210, 211, 212, 213, 214, 215, 216, 217, 218, 219, 220, 221, 222, 223, 224, 225, 226, 227, 228, 229, 4] [[], [0], [1], [2], [3], [], [5], [6], [7], [4, 8], [9], [10], [10, 11], [10, 12], [10, 13], [10, 14], [10], [10, 16], [10, 17], [10, 18], [10], [10, 20], [10, 21], [10, 22], [10, 23], [10, 24], [10, 19, 25], [10, 15, 26], [10, 27], [28]] [0, 1, 2, 3, 4, 5, 6, 7, 8, 9, 10, 11, 12, 13, 14, 15, 16, 17, 18, 19, 20, 21, 22, 23, 24, 25, 26, 27, 28, 29] (by kernel_rfl) Kept.refl Kept.trans (pick_stays ⟨eqV_stays _, eqV_stays _, eqV_stays _, eqV_stays _, eqV_stays _, eqV_stays _, eqV_stays _, eqV_stays _, eqV_stays _, eqV_stays _, eqV_stays _, eqV_stays _, eqV_stays _, eqV_stays _, eqV_stays _, eqV_stays _, eqV_stays _, eqV_stays _, eqV_stays _, eqV_stays _, eqV_stays _, eqV_stays _, eqV_stays _, eqV_stays _, eqV_stays _, eqV_stays _, eqV_stays _, eqV_stays _, eqV_stays _, eqV_stays _, trivial⟩) 230 rfl (by kernel_rfl) (by kernel_rfl) rfl rfl ?r1obl ?r1fin
  case r1obl =>
    refine And.intro ?r1o0 (And.intro ?r1o1 (And.intro ?r1o2 (And.intro ?r1o3 (And.intro ?r1o4 (And.intro ?r1o5 (And.intro ?r1o6 (And.intro ?r1o7 (And.intro ?r1o8 (And.intro ?r1o9 (And.intro ?r1o10 (And.intro ?r1o11 (And.intro ?r1o12 (And.intro ?r1o13 (And.intro ?r1o14 (And.intro ?r1o15 (And.intro ?r1o16 (And.intro ?r1o17 (And.intro ?r1o18 (And.intro ?r1o19 (And.intro ?r1o20 (And.intro ?r1o21 (And.intro ?r1o22 (And.intro ?r1o23 (And.intro ?r1o24 (And.intro ?r1o25 (And.intro ?r1o26 (And.intro ?r1o27 (And.intro ?r1o28 (And.intro ?r1o29 (True.intro))))))))))))))))))))))))))))))
    case r1o0 =>
      intro w1 hG
      refine turn_on (by rfl) ?_
      intro K hK
      go_simp
      refine hK _ _ ⟨rfl, Kept.refl _, ?_⟩
      show _ = _
      simp only [gv1]
      rfl
    case r1o1 =>
      intro w1 hG
      intro v0 h0
      change _ = _ at h0
      subst h0
      refine turn_on (by rfl) ?_
      intro K hK
      simp only [gv2]
      go_simp
      refine hK _ _ ⟨rfl, Kept.refl _, ?_⟩
      show _ = _
      simp only [gv1]
      rfl
    case r1o2 =>
      intro w1 hG
      intro v1 h1
      change _ = _ at h1
      subst h1
      refine turn_on (by rfl) ?_
      intro K hK
      simp only [gv2]
      go_simp
      refine hK _ _ ⟨rfl, Kept.refl _, ?_⟩
      show _ = _
      simp only [gv1]
      rfl
    case r1o3 =>
      intro w1 hG
      intro v2 h2
      change _ = _ at h2
      subst h2
      refine turn_on (by rfl) ?_
      intro K hK
      simp only [gv2]
      have PR := PA.out.drew.more hG
      obtain ⟨y0, y1, y2, y3, y4, y5, y6, y7, y8, yf⟩ := plcells PR.row
      go_simp
      refine hK _ _ ⟨rfl, Kept.refl _, ?_⟩
      show _ = _
      simp only [gv1]
      rfl
    case r1o4 =>
      intro w1 hG
      intro v3 h3
      change _ = _ at h3
      subst h3
      refine turn_on (by rfl) ?_
      intro K hK
      simp only [gv2]
      have PR := PA.out.drew.more hG
      go_simp
      refine Calls.mono PR.first ?_
      rintro e w2 ⟨rfl, rfl⟩
      refine hK _ _ ⟨rfl, Kept.refl _, ?_⟩
      show _ = _
      simp only [gv1]
      rfl
    case r1o5 =>
      intro w1 hG
      refine turn_on (by rfl) ?_
      intro K hK
      go_simp
      refine hK _ _ ⟨rfl, Kept.refl _, ?_⟩
      show _ = _
      simp only [gv1]
      rfl
    case r1o6 =>
      intro w1 hG
      intro v5 h5
      change _ = _ at h5
      subst h5
      refine turn_on (by rfl) ?_
      intro K hK
      simp only [gv2]
      go_simp
      refine hK _ _ ⟨rfl, Kept.refl _, ?_⟩
      show _ = _
      simp only [gv1]
      rfl
    case r1o7 =>
      intro w1 hG
      intro v6 h6
      change _ = _ at h6
      subst h6
      refine turn_on (by rfl) ?_
      intro K hK
      simp only [gv2]
      go_simp
      refine hK _ _ ⟨rfl, Kept.refl _, ?_⟩
      show _ = _
      simp only [gv1]
      rfl
    case r1o8 =>
      intro w1 hG
      intro v7 h7
      change _ = _ at h7
      subst h7
      refine turn_on (by rfl) ?_
      intro K hK
      simp only [gv2]
      have PR := PA.out.drew.more hG
      obtain ⟨y0, y1, y2, y3, y4, y5, y6, y7, y8, yf⟩ := plcells PR.row
      go_simp
      refine hK _ _ ⟨rfl, Kept.refl _, ?_⟩
      show _ = _
      simp only [gv1]
      rfl
    case r1o9 =>
      intro w1 hG
      intro v4 h4
      change _ = _ at h4
      subst h4
      intro v8 h8
      change _ = _ at h8
      subst h8
      refine turn_on (by rfl) ?_
      intro K hK
      simp only [gv2]
      go_simp
      refine hK _ _ ⟨rfl, Kept.refl _, ?_⟩
      show _ = _
      simp only [gv1]
      rfl
    case r1o10 =>
      intro w1 hG
      intro v9 h9
      change _ = _ at h9
      subst h9
      refine turn_on (by rfl) ?_
      intro K hK
      simp only [gv2]
      go_simp
      refine hK _ _ ⟨rfl, Kept.refl _, ?_⟩
      show _ = _
      simp only [gv1]
      rfl
    case r1o11 =>
      intro w1 hG
      intro v10 h10
      change _ = _ at h10
      subst h10
      refine turn_on (by rfl) ?_
      intro K hK
      simp only [gv2]
      go_simp
      refine hK _ _ ⟨rfl, Kept.refl _, ?_⟩
      show _ = _
      simp only [gv1]
      rfl
    case r1o12 =>
      intro w1 hG
      intro v10 h10
      change _ = _ at h10
      subst h10
      intro v11 h11
      change _ = _ at h11
      subst h11
      refine turn_on (by rfl) ?_
      intro K hK
      simp only [gv2]
      go_simp
      refine hK _ _ ⟨rfl, Kept.refl _, ?_⟩
      show _ = _
      simp only [gv1]
      rfl
    case r1o13 =>
      intro w1 hG
      intro v10 h10
      change _ = _ at h10
      subst h10
      intro v12 h12
      change _ = _ at h12
      subst h12
      refine turn_on (by rfl) ?_
      intro K hK
      simp only [gv2]
      go_simp
      refine hK _ _ ⟨rfl, Kept.refl _, ?_⟩
      show _ = _
      simp only [gv1]
      rfl
    case r1o14 =>
      intro w1 hG
      intro v10 h10
      change _ = _ at h10
      subst h10
      intro v13 h13
      change _ = _ at h13
      subst h13
      refine turn_on (by rfl) ?_
      intro K hK
      simp only [gv2]
      have PR := PA.out.drew.more hG
      obtain ⟨y0, y1, y2, y3, y4, y5, y6, y7, y8, yf⟩ := plcells PR.row
      go_simp
      refine hK _ _ ⟨rfl, Kept.refl _, ?_⟩
      show _ = _
      simp only [gv1]
      rfl
    case r1o15 =>
      intro w1 hG
      intro v10 h10
      change _ = _ at h10
      subst h10
      intro v14 h14
      change _ = _ at h14
      subst h14
      refine turn_on (by rfl) ?_
      intro K hK
      simp only [gv2]
      have PR := PA.out.drew.more hG
      go_simp
      refine Calls.mono PR.next ?_
      rintro e w2 ⟨rfl, rfl⟩
      refine hK _ _ ⟨rfl, Kept.refl _, ?_⟩
      show _ = _
      simp only [gv1]
      rfl
    case r1o16 =>
      intro w1 hG
      intro v10 h10
      change _ = _ at h10
      subst h10
      refine turn_on (by rfl) ?_
      intro K hK
      simp only [gv2]
      go_simp
      refine hK _ _ ⟨rfl, Kept.refl _, ?_⟩
      show _ = _
      simp only [gv1]
      rfl
    case r1o17 =>
      intro w1 hG
      intro v10 h10
      change _ = _ at h10
      subst h10
      intro v16 h16
      change _ = _ at h16
      subst h16
      refine turn_on (by rfl) ?_
      intro K hK
      simp only [gv2]
      go_simp
      refine hK _ _ ⟨rfl, Kept.refl _, ?_⟩
      show _ = _
      simp only [gv1]
      rfl
    case r1o18 =>
      intro w1 hG
      intro v10 h10
      change _ = _ at h10
      subst h10
      intro v17 h17
      change _ = _ at h17
      subst h17
      refine turn_on (by rfl) ?_
      intro K hK
      simp only [gv2]
      go_simp
      refine hK _ _ ⟨rfl, Kept.refl _, ?_⟩
      show _ = _
      simp only [gv1]
      rfl
    case r1o19 =>
      intro w1 hG
      intro v10 h10
      change _ = _ at h10
      subst h10
      intro v18 h18
      change _ = _ at h18
      subst h18
      refine turn_on (by rfl) ?_
      intro K hK
      simp only [gv2]
      have PR := PA.out.drew.more hG
      obtain ⟨y0, y1, y2, y3, y4, y5, y6, y7, y8, yf⟩ := plcells PR.row
      go_simp
      refine hK _ _ ⟨rfl, Kept.refl _, ?_⟩
      show _ = _
      simp only [gv1]
      rfl
    case r1o20 =>
      intro w1 hG
      intro v10 h10
      change _ = _ at h10
      subst h10
      refine turn_on (by rfl) ?_
      intro K hK
      simp only [gv2]
      go_simp
      refine hK _ _ ⟨rfl, Kept.refl _, ?_⟩
      show _ = _
      simp only [gv1]
      rfl
    case r1o21 =>
      intro w1 hG
      intro v10 h10
      change _ = _ at h10
      subst h10
      intro v20 h20
      change _ = _ at h20
      subst h20
      refine turn_on (by rfl) ?_
      intro K hK
      simp only [gv2]
      go_simp
      refine hK _ _ ⟨rfl, Kept.refl _, ?_⟩
      show _ = _
      simp only [gv1]
      rfl
    case r1o22 =>
      intro w1 hG
      intro v10 h10
      change _ = _ at h10
      subst h10
      intro v21 h21
      change _ = _ at h21
      subst h21
      refine turn_on (by rfl) ?_
      intro K hK
      simp only [gv2]
      go_simp
      refine hK _ _ ⟨rfl, Kept.refl _, ?_⟩
      show _ = _
      simp only [gv1]
      rfl
    case r1o23 =>
      intro w1 hG
      intro v10 h10
      change _ = _ at h10
      subst h10
      intro v22 h22
      change _ = _ at h22
      subst h22
      refine turn_on (by rfl) ?_
      intro K hK
      simp only [gv2]
      have PR := PA.out.drew.more hG
      obtain ⟨y0, y1, y2, y3, y4, y5, y6, y7, y8, yf⟩ := plcells PR.row
      go_simp
      refine hK _ _ ⟨rfl, Kept.refl _, ?_⟩
      show _ = _
      simp only [gv1]
      rfl
    case r1o24 =>
      intro w1 hG
      intro v10 h10
      change _ = _ at h10
      subst h10
      intro v23 h23
      change _ = _ at h23
      subst h23
      refine turn_on (by rfl) ?_
      intro K hK
      simp only [gv2]
      go_simp
      refine hK _ _ ⟨rfl, Kept.refl _, ?_⟩
      show _ = _
      simp only [gv1]
      rfl
    case r1o25 =>
      intro w1 hG
      intro v10 h10
      change _ = _ at h10
      subst h10
      intro v24 h24
      change _ = _ at h24
      subst h24
      refine turn_on (by rfl) ?_
      intro K hK
      simp only [gv2]
      go_simp
      refine hK _ _ ⟨rfl, Kept.refl _, ?_⟩
      show _ = _
      simp only [gv1]
      rfl
    case r1o26 =>
      intro w1 hG
      intro v10 h10
      change _ = _ at h10
      subst h10
      intro v19 h19
      change _ = _ at h19
      subst h19
      intro v25 h25
      change _ = _ at h25
      subst h25
      refine turn_on (by rfl) ?_
      intro K hK
      simp only [gv2]
      go_simp
      refine hK _ _ ⟨rfl, Kept.refl _, ?_⟩
      show _ = _
      simp only [gv1]
      rfl
    case r1o27 =>
      intro w1 hG
      intro v10 h10
      change _ = _ at h10
      subst h10
      intro v15 h15
      change _ = _ at h15
      subst h15
      intro v26 h26
      change _ = _ at h26
      subst h26
      refine turn_on (by rfl) ?_
      intro K hK
      simp only [gv2]
      go_simp
      refine hK _ _ ⟨rfl, Kept.refl _, ?_⟩
      show _ = _
      simp only [gv1]
      rfl
    case r1o28 =>
      intro w1 hG
      intro v10 h10
      change _ = _ at h10
      subst h10
      intro v27 h27
      change _ = _ at h27
      subst h27
      refine turn_on (by rfl) ?_
      intro K hK
      simp only [gv2]
      go_simp
      refine hK _ _ ⟨rfl, Kept.refl _, ?_⟩
      show _ = _
      simp only [gv1]
      rfl
    case r1o29 =>
      intro w1 hG
      intro v28 h28
      change _ = _ at h28
      subst h28
      refine turn_on (by rfl) ?_
      intro K hK
      simp only [gv2]
      go_simp
      refine hK _ _ ⟨rfl, Kept.refl _, ?_⟩
      show _ = _
      simp only [gv1]
      rfl
  intro w1 hG
  intro v0 h0
  change _ = _ at h0
  subst h0
  intro v1 h1
  change _ = _ at h1
  subst h1
  intro v2 h2
  change _ = _ at h2
  subst h2
  intro v3 h3
  change _ = _ at h3
  subst h3
  intro v4 h4
  change _ = _ at h4
  subst h4
  intro v5 h5
  change _ = _ at h5
  subst h5
  intro v6 h6
  change _ = _ at h6
  subst h6
  intro v7 h7
  change _ = _ at h7
  subst h7
  intro v8 h8
  change _ = _ at h8
  subst h8
  intro v9 h9
  change _ = _ at h9
  subst h9
  intro v10 h10
  change _ = _ at h10
  subst h10
  intro v11 h11
  change _ = _ at h11
  subst h11
  intro v12 h12
  change _ = _ at h12
  subst h12
  intro v13 h13
  change _ = _ at h13
  subst h13
  intro v14 h14
  change _ = _ at h14
  subst h14
  intro v15 h15
  change _ = _ at h15
  subst h15
  intro v16 h16
  change _ = _ at h16
  subst h16
  intro v17 h17
  change _ = _ at h17
  subst h17
  intro v18 h18
  change _ = _ at h18
  subst h18
  intro v19 h19
  change _ = _ at h19
  subst h19
  intro v20 h20
  change _ = _ at h20
  subst h20
  intro v21 h21
  change _ = _ at h21
  subst h21
  intro v22 h22
  change _ = _ at h22
  subst h22
  intro v23 h23
  change _ = _ at h23
  subst h23
  intro v24 h24
  change _ = _ at h24
  subst h24
  intro v25 h25
  change _ = _ at h25
  subst h25
  intro v26 h26
  change _ = _ at h26
  subst h26
  intro v27 h27
  change _ = _ at h27
  subst h27
  intro v28 h28
  change _ = _ at h28
  subst h28
  intro v29 h29
  change _ = _ at h29
  subst h29
  simp only [Given, gv2]
  have PZ := Lib.hid ((PA.out.drew.more hG).later (show i ≤ i + 2 by omega))
  clear PA hG
  go_wp2_with fail
  go_ret
  exact ⟨rfl, L, _, _, _, _, _, PZ.out, rfl, rfl, rfl⟩
end Go.Proofs.Ytlhpdkapddnbcaa

namespace Go.Proofs.Ytlhpdkapddnbcaa
open Go.RowKit
set_option linter.unusedSimpArgs false in
set_option linter.unusedVariables false in
set_option maxRecDepth 100000 in
set_option maxHeartbeats 4000000 in
theorem step_full (C : PlC) (OK : C.Ok) (w0 w : World) (Q : Nat → Prop) (i r : Nat) (st : Dk) (J : Jr) (L : List (List Int)) (a : Option Addr) (m c : Nat) (mv : Value) (may : Bool) (ma : Int) (hp : PlR C w0 w Q i r st J L ⟨.pointer (some ⟨r, 0, none⟩), .slice a m c, mv, may, ma, J.h.first, L⟩) (hi : i ≤ 900) (op N : Int) (ba : Option Addr) (bn bc : Nat) (B : List Int) (ka : Option Addr) (kn kc : Nat) (kl : List Bool) (hB : RdAt .u8 w0 ba bn bc B) (hK : RdB w0 ka kn kc kl) (hbn : bn ≤ 1000000) (hkn : kn ≤ 1000000) (hN0 : 0 ≤ N) (hN1 : N ≤ 100) (h1 : op = 1) (hf : roomN J < bn) :
    Calls Try.prog 25 #[.pointer (some ⟨C.g, 0, none⟩), .agg #[.int .i64 op, .slice ba bn bc, .int .i64 N, .slice ka kn kc]] w fun e w' => e = .returned (.bool true) ∧ ∃ L', PlS C w0 w' (i + 2) L' := by
  have HF := Lib.hid hf
  obtain ⟨a', m', c', e1, e2⟩ := hp.rows
  injection e1 with e10 e11 e12
  subst e10 e11 e12
  have hm60 : m ≤ 60 := by rw [← e2.len]; exact hp.len60 OK
  have HLM : Hid (L.length = m) := e2.len
  clear e2
  have hba : Below w.heap.size w (w.alloc ((.cells #[.int .i64 op, .slice ba bn bc, .int .i64 N, .slice ka kn kc] 63))) := (Below.refl _ _).alloc (Nat.le_refl _) _
  have hbx : (w.alloc ((.cells #[.int .i64 op, .slice ba bn bc, .int .i64 N, .slice ka kn kc] 63))).heap[w.heap.size]? = some (.cells #[.int .i64 op, .slice ba bn bc, .int .i64 N, .slice ka kn kc] 63 (0, 0)) := heap_alloc_new _ _
  have hxq : ¬ Q w.heap.size := fun h => Nat.lt_irrefl _ (hp.ri.lt _ h)
  have hxg : C.g ≠ w.heap.size := by have := hp.glt; omega
  have hp1 := hp.more hba
  obtain ⟨x, hx⟩ : ∃ x, w.heap.size = x := ⟨_, rfl⟩
  rw [hx] at hbx hxq hxg
  have d1 : (op == 1) = true := by rw [h1]; rfl
  clear h1
  have d5 : decide (roomN J < (bn : Int)) = true := decide_eq_true hf
  go_enter Try.func25, Try.ntmps25
  go_upto_region 1 with fail
  obtain ⟨wA, hwA⟩ : ∃ wA, w.alloc ((.cells #[.int .i64 op, .slice ba bn bc, .int .i64 N, .slice ka kn kc] 63)) = wA := ⟨_, rfl⟩
  rw [hwA] at hbx hp1 ⊢
  have HBX := Lib.hid hbx
  have PA := Lib.hid hp1
  have hxA : x < wA.heap.size := (Array.getElem?_eq_some_iff.1 hbx).1
  clear hba hwA hp hp1
  obtain ⟨b0, b1, b2, b3⟩ := cells4 hbx
  clear hbx
  obtain ⟨y0, y1, y2, y3, y4, y5, y6, y7, y8, yf⟩ := plcells PA.out.row
  go_wp2_with (first | (go_at_call 11; refine PA.out.room.mono ?_; rintro e w3 ⟨rfl, rfl⟩))
  clear y0 y1 y2 y3 y4 y5 y6 y7 y8 yf
  refine' reg_order [eqV _, eqV _, eqV _, eqV _, eqV _, eqV _, fun v w => v = Value.tuple #[Value.int .u64 0, Value.int .i64 10] ∧ PlR C w0 w Q i r st J L ⟨.pointer (some ⟨r, 0, none⟩), .slice a m c, mv, may, ma, J.h.first, L⟩ ∧ w.heap[x]? = some (.cells #[.int .i64 op, .slice ba bn bc, .int .i64 N, .slice ka kn kc] 63 (0, 0)), eqV _, eqV _, eqV _, eqV _, eqV _] [(6, fun w w' => True)] [(3, fun w => PlR C w0 w Q i r st J L ⟨.pointer (some ⟨r, 0, none⟩), .slice a m c, mv, may, ma, J.h.first, L⟩), (5, fun w => w.heap[x]? = some (.cells #[.int .i64 op, .slice ba bn bc, .int .i64 N, .slice ka kn kc] 63 (0, 0))), (6, fun w => PlR C w0 w Q i r st J L ⟨.pointer (some ⟨r, 0, none⟩), .slice a m c, mv, may, ma, J.h.first, L⟩ ∧ w.heap[x]? = some (.cells #[.int .i64 op, .slice ba bn bc, .int .i64 N, .slice ka kn kc] 63 (0, 0)))] [22, 23, 24, 25, 26, 27, 28, 21, 29, 30, 6, 7] [[], [0], [1], [2], [], [4], [3, 5], [6], [7], [7], [8], [9]] [0, 1, 2, 3, 4, 5, 6, 7, 8, 9, 10, 11] 12 (by kernel_rfl) ⟨eqV_stays _, eqV_stays _, eqV_stays _, eqV_stays _, eqV_stays _, eqV_stays _, fun _ _ _ p b => ⟨p.1, p.2.1.more b, row_keep p.2.2 b⟩, eqV_stays _, eqV_stays _, eqV_stays _, eqV_stays _, eqV_stays _, trivial⟩ ⟨⟨.inl (eqV_stays _), .inl (eqV_stays _), .inl (eqV_stays _), .inl (eqV_stays _), .inl (eqV_stays _), .inl (eqV_stays _), .inr (.inr rfl), .inl (eqV_stays _), .inl (eqV_stays _), .inl (eqV_stays _), .inl (eqV_stays _), .inl (eqV_stays _), trivial⟩, trivial⟩ ⟨fun _ _ p b => p.more b, fun _ _ p b => row_keep p b, fun _ _ p b => ⟨p.1.more b, row_keep p.2 b⟩, trivial⟩ ⟨⟨.inr (.inl (by kernel_rfl)), .inr (.inl (by kernel_rfl)), .inr (.inr rfl), trivial⟩, trivial⟩ ⟨PA.out.drew, HBX.out, ⟨PA.out.drew, HBX.out⟩, trivial⟩ 230 rfl (by kernel_rfl) (by kernel_rfl) rfl rfl 12 rfl ?q1obl ?q1fin
  case q1obl =>
    refine And.intro ?q1o0 (And.intro ?q1o1 (And.intro ?q1o2 (And.intro ?q1o3 (And.intro ?q1o4 (And.intro ?q1o5 (And.intro ?q1o6 (And.intro ?q1o7 (And.intro ?q1o8 (And.intro ?q1o9 (And.intro ?q1o10 (And.intro ?q1o11 (True.intro))))))))))))
    case q1o0 =>
      intro w1 hI
      refine turn2_on (by rfl) ?_
      intro K hK
      go_simp
      refine hK _ _ ⟨rfl, Kept.refl _, ?_⟩
      show _ = _
      simp only [gv1]
      rfl
    case q1o1 =>
      intro w1 hI
      intro v0 h0
      change _ = _ at h0
      subst v0
      refine turn2_on (by rfl) ?_
      intro K hK
      simp only [gv2]
      go_simp
      refine hK _ _ ⟨rfl, Kept.refl _, ?_⟩
      show _ = _
      simp only [gv1]
      rfl
    case q1o2 =>
      intro w1 hI
      intro v1 h1
      change _ = _ at h1
      subst v1
      refine turn2_on (by rfl) ?_
      intro K hK
      simp only [gv2]
      go_simp
      refine hK _ _ ⟨rfl, Kept.refl _, ?_⟩
      show _ = _
      simp only [gv1]
      rfl
    case q1o3 =>
      intro w1 hI
      replace hI : (fun w => PlR C w0 w Q i r st J L ⟨.pointer (some ⟨r, 0, none⟩), .slice a m c, mv, may, ma, J.h.first, L⟩) w1 := hI
      intro v2 h2
      change _ = _ at h2
      subst v2
      refine turn2_on (by rfl) ?_
      intro K hK
      simp only [gv2]
      obtain ⟨y0, y1, y2, y3, y4, y5, y6, y7, y8, yf⟩ := plcells hI.row
      go_simp
      refine hK _ _ ⟨rfl, Kept.refl _, ?_⟩
      show _ = _
      simp only [gv1]
      rfl
    case q1o4 =>
      intro w1 hI
      refine turn2_on (by rfl) ?_
      intro K hK
      go_simp
      refine hK _ _ ⟨rfl, Kept.refl _, ?_⟩
      show _ = _
      simp only [gv1]
      rfl
    case q1o5 =>
      intro w1 hI
      replace hI : (fun w => w.heap[x]? = some (.cells #[.int .i64 op, .slice ba bn bc, .int .i64 N, .slice ka kn kc] 63 (0, 0))) w1 := hI
      intro v4 h4
      change _ = _ at h4
      subst v4
      refine turn2_on (by rfl) ?_
      intro K hK
      simp only [gv2]
      obtain ⟨z0, z1, z2, z3⟩ := cells4 hI
      go_simp
      refine hK _ _ ⟨rfl, Kept.refl _, ?_⟩
      show _ = _
      simp only [gv1]
      rfl
    case q1o6 =>
      intro w1 hI
      replace hI : (fun w => PlR C w0 w Q i r st J L ⟨.pointer (some ⟨r, 0, none⟩), .slice a m c, mv, may, ma, J.h.first, L⟩ ∧ w.heap[x]? = some (.cells #[.int .i64 op, .slice ba bn bc, .int .i64 N, .slice ka kn kc] 63 (0, 0))) w1 := hI
      intro v3 h3
      change _ = _ at h3
      subst v3
      intro v5 h5
      change _ = _ at h5
      subst v5
      refine turn2_on (by rfl) ?_
      intro K hK
      simp only [gv2]
      go_simp
      refine Calls.mono (PlR.full hI.1 ba bn bc B (hB.below hI.1.below) HF.out (by omega)) ?_
      rintro e w2 ⟨rfl, rfl⟩
      refine hK _ _ ⟨rfl, trivial, ?_⟩
      show _ = Value.tuple #[Value.int .u64 0, Value.int .i64 10] ∧ PlR C w0 w1 Q i r st J L ⟨.pointer (some ⟨r, 0, none⟩), .slice a m c, mv, may, ma, J.h.first, L⟩ ∧ w1.heap[x]? = some (.cells #[.int .i64 op, .slice ba bn bc, .int .i64 N, .slice ka kn kc] 63 (0, 0))
      simp only [gv1]
      exact ⟨trivial, hI.1, hI.2⟩
    case q1o7 =>
      intro w1 hI
      intro v6 h6
      obtain ⟨rfl, g6, gx6⟩ := h6
      refine turn2_on (by rfl) ?_
      intro K hK
      simp only [gv2]
      go_simp
      refine hK _ _ ⟨rfl, Kept.refl _, ?_⟩
      show _ = _
      simp only [gv1]
      rfl
    case q1o8 =>
      intro w1 hI
      intro v7 h7
      change _ = _ at h7
      subst v7
      refine turn2_on (by rfl) ?_
      intro K hK
      simp only [gv2]
      go_simp
      refine hK _ _ ⟨rfl, Kept.refl _, ?_⟩
      show _ = _
      simp only [gv1]
      rfl
    case q1o9 =>
      intro w1 hI
      intro v7 h7
      change _ = _ at h7
      subst v7
      refine turn2_on (by rfl) ?_
      intro K hK
      simp only [gv2]
      go_simp
      refine hK _ _ ⟨rfl, Kept.refl _, ?_⟩
      show _ = _
      simp only [gv1]
      rfl
    case q1o10 =>
      intro w1 hI
      intro v8 h8
      change _ = _ at h8
      subst v8
      refine turn2_on (by rfl) ?_
      intro K hK
      simp only [gv2]
      go_simp
      refine hK _ _ ⟨rfl, Kept.refl _, ?_⟩
      show _ = _
      simp only [gv1]
      rfl
    case q1o11 =>
      intro w1 hI
      intro v9 h9
      change _ = _ at h9
      subst v9
      refine turn2_on (by rfl) ?_
      intro K hK
      simp only [gv2]
      go_simp
      refine hK _ _ ⟨rfl, Kept.refl _, ?_⟩
      show _ = _
      simp only [gv1]
      rfl
  intro w9 hI
  intro v0 h0
  change _ = _ at h0
  subst v0
  intro v1 h1
  change _ = _ at h1
  subst v1
  intro v2 h2
  change _ = _ at h2
  subst v2
  intro v3 h3
  change _ = _ at h3
  subst v3
  intro v4 h4
  change _ = _ at h4
  subst v4
  intro v5 h5
  change _ = _ at h5
  subst v5
  intro v6 h6
  obtain ⟨rfl, g6, gx6⟩ := h6
  intro v7 h7
  change _ = _ at h7
  subst v7
  intro v8 h8
  change _ = _ at h8
  subst v8
  intro v9 h9
  change _ = _ at h9
  subst v9
  intro v10 h10
  change _ = _ at h10
  subst v10
  intro v11 h11
  change _ = _ at h11
  subst v11
  simp only [Given, gv2]
  have P9 := Lib.hid (g6.later (show i ≤ i + 2 by omega))
  obtain ⟨z0, z1, z2, z3⟩ := cells4 gx6
  clear g6 gx6
  go_wp2_with fail
  go_ret
  exact ⟨rfl, L, _, _, _, _, _, P9.out, rfl, rfl, rfl⟩
end Go.Proofs.Ytlhpdkapddnbcaa
