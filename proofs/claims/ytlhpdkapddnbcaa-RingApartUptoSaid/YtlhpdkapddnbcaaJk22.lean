/- ring: a step: Truncate. -/
import Derived.Test.YtlhpdkapddnbcaaJk0
import Derived.Deep.CutBlock
import Derived.Deep.DeepCutAuto
import Derived.Test.YtlhpdkapddnbcaaJk18
namespace Go.Proofs.Ytlhpdkapddnbcaa
open Go.RowKit
set_option linter.unusedSimpArgs false in
set_option linter.unusedVariables false in
set_option maxRecDepth 100000 in
set_option maxHeartbeats 4000000 in
theorem step_tr0 (C : PlC) (OK : C.Ok) (w0 w : World) (Q : Nat → Prop) (i r : Nat) (st : Dk) (J : Jr) (L : List (List Int)) (a : Option Addr) (m c : Nat) (mv : Value) (may : Bool) (ma : Int) (hp : PlR C w0 w Q i r st J L ⟨.pointer (some ⟨r, 0, none⟩), .slice a m c, mv, may, ma, J.h.first, L⟩) (hi : i ≤ 900) (op N : Int) (ba : Option Addr) (bn bc : Nat) (B : List Int) (ka : Option Addr) (kn kc : Nat) (kl : List Bool) (hB : RdAt .u8 w0 ba bn bc B) (hK : RdB w0 ka kn kc kl) (hbn : bn ≤ 1000000) (hkn : kn ≤ 1000000) (hN0 : 0 ≤ N) (hN1 : N ≤ 100) (h1 : op = 2) (hk : N = 0) :
    Calls Try.prog 25 #[.pointer (some ⟨C.g, 0, none⟩), .agg #[.int .i64 op, .slice ba bn bc, .int .i64 N, .slice ka kn kc]] w fun e w' => e = .returned (.bool true) ∧ ∃ L', PlS C w0 w' (i + 2) L' := by
  have HLE : L.length = m := by
    obtain ⟨a', m', c', e1, e2⟩ := hp.rows
    injection e1 with e10 e11 e12
    rw [e11]
    exact e2.len
  obtain ⟨a', m', c', e1, e2⟩ := hp.rows
  injection e1 with e10 e11 e12
  subst e10 e11 e12
  have hm60 : m ≤ 60 := by rw [← e2.len]; exact hp.len60 OK
  have HLM : Hid (L.length = m) := e2.len
  clear e2
  have hba : Below w.heap.size w (w.alloc ((.cells #[.int .i64 op, .slice ba bn bc, .int .i64 N, .slice ka kn kc] 63))) := (Below.refl _ _).alloc (Nat.le_refl _) _
  have hbx : (w.alloc ((.cells #[.int .i64 op, .slice ba bn bc, .int .i64 N, .slice ka kn kc] 63))).heap[w.heap.size]? = some (.cells #[.int .i64 op, .slice ba bn bc, .int .i64 N, .slice ka kn kc] 63 (0, 0)) := heap_alloc_new _ _
  have hxq : ¬ Q w.heap.size := fun h => Nat.lt_irrefl _ (hp.ri.lt _ h)
  have hxg : C.g ≠ w.heap.size := by have := hp.glt; omega
  have hp1 := hp.more hba
  obtain ⟨x, hx⟩ : ∃ x, w.heap.size = x := ⟨_, rfl⟩
  rw [hx] at hbx hxq hxg
  have d1 : (op == 1) = false := by rw [h1]; rfl
  have d2 : (op == 2) = true := by rw [h1]; rfl
  clear h1
  obtain ⟨ew1, ew2⟩ := hp.lenW HLM.out
  have hf1 := hp.H.hv.f1
  have hfn := hp.H.hv.le
  have hnx := hp.num.nx
  have hnl := hp.H.next
  rw [HLM.out] at hnl
  obtain ⟨k, rfl⟩ : ∃ k : Nat, N = k := Int.eq_ofNat_of_zero_le hN0
  obtain ⟨up, hup⟩ : ∃ up, J.h.first + (k : Int) - 1 = up := ⟨_, rfl⟩
  have eN : IntKind.u64.wrap (k : Int) = (k : Int) := by rw [IntKind.wrap_u64]; omega
  have eF : IntKind.u64.wrap (J.h.first + (k : Int)) = J.h.first + k := by rw [IntKind.wrap_u64]; omega
  have eU : IntKind.u64.wrap up = up := by rw [IntKind.wrap_u64]; omega
  have hup0 : 0 ≤ up := by omega
  have hup1 : up ≤ 18446744073709551615 := by omega
  have c1 : ¬ J.h.next ≤ up := by omega
  have d5 : decide (J.h.next ≤ up) = false := decide_eq_false c1
  have c2 : up < J.h.first := by omega
  have d6 : decide (J.h.first ≤ up) = false := decide_eq_false (by omega)
  have HC1 := Lib.hid c1
  have HC2 := Lib.hid c2
  clear c1 c2
  have HK0 : Hid (k = 0) := by show _ = _; omega
  clear hk hnl
  go_enter Try.func25, Try.ntmps25
  go_upto_region 1 with fail
  obtain ⟨wA, hwA⟩ : ∃ wA, w.alloc ((.cells #[.int .i64 op, .slice ba bn bc, .int .i64 (k : Int), .slice ka kn kc] 63)) = wA := ⟨_, rfl⟩
  rw [hwA] at hbx hp1 ⊢
  have HBX := Lib.hid hbx
  have PA := Lib.hid hp1
  have hxA : x < wA.heap.size := (Array.getElem?_eq_some_iff.1 hbx).1
  clear hba hwA hp hp1
  obtain ⟨b0, b1, b2, b3⟩ := cells4 hbx
  clear hbx
  have BX := Lib.hid HBX.out
  go_upto_region 14 with fail
  refine' reg_free (G := Kept) (pickF [eqV _, eqV _, eqV _, eqV _, eqV _, eqV _, eqV _, eqV _, eqV _, eqV _]) [91, 92, 93, 94, 95, 96, 97, 98, 99, 9] [[], [0], [1], [2], [], [4], [5], [3, 6], [7], [8]] [0, 1, 2, 3, 4, 5, 6, 7, 8, 9] (by kernel_rfl) Kept.refl Kept.trans (pick_stays ⟨eqV_stays _, eqV_stays _, eqV_stays _, eqV_stays _, eqV_stays _, eqV_stays _, eqV_stays _, eqV_stays _, eqV_stays _, eqV_stays _, trivial⟩) 230 rfl (by kernel_rfl) (by kernel_rfl) rfl rfl ?r1obl ?r1fin
  case r1obl =>
    refine And.intro ?r1o0 (And.intro ?r1o1 (And.intro ?r1o2 (And.intro ?r1o3 (And.intro ?r1o4 (And.intro ?r1o5 (And.intro ?r1o6 (And.intro ?r1o7 (And.intro ?r1o8 (And.intro ?r1o9 (True.intro))))))))))
    case r1o0 =>
      intro w1 hG
      refine turn_on (by rfl) ?_
      intro K hK
      go_simp
      refine hK _ _ ⟨rfl, Kept.refl _, ?_⟩
      show _ = _
      simp only [gv1]
      rfl
    case r1o1 =>
      intro w1 hG
      intro v0 h0
      change _ = _ at h0
      subst h0
      refine turn_on (by rfl) ?_
      intro K hK
      simp only [gv2]
      go_simp
      refine hK _ _ ⟨rfl, Kept.refl _, ?_⟩
      show _ = _
      simp only [gv1]
      rfl
    case r1o2 =>
      intro w1 hG
      intro v1 h1
      change _ = _ at h1
      subst h1
      refine turn_on (by rfl) ?_
      intro K hK
      simp only [gv2]
      go_simp
      refine hK _ _ ⟨rfl, Kept.refl _, ?_⟩
      show _ = _
      simp only [gv1]
      rfl
    case r1o3 =>
      intro w1 hG
      intro v2 h2
      change _ = _ at h2
      subst h2
      refine turn_on (by rfl) ?_
      intro K hK
      simp only [gv2]
      have PR := PA.out.drew.more hG
      obtain ⟨y0, y1, y2, y3, y4, y5, y6, y7, y8, yf⟩ := plcells PR.row
      go_simp
      refine hK _ _ ⟨rfl, Kept.refl _, ?_⟩
      show _ = _
      simp only [gv1]
      rfl
    case r1o4 =>
      intro w1 hG
      refine turn_on (by rfl) ?_
      intro K hK
      go_simp
      refine hK _ _ ⟨rfl, Kept.refl _, ?_⟩
      show _ = _
      simp only [gv1]
      rfl
    case r1o5 =>
      intro w1 hG
      intro v4 h4
      change _ = _ at h4
      subst h4
      refine turn_on (by rfl) ?_
      intro K hK
      simp only [gv2]
      obtain ⟨z0, z1, z2, z3⟩ := cells4 (row_keep (w := wA.drew) HBX.out hG)
      go_simp
      refine hK _ _ ⟨rfl, Kept.refl _, ?_⟩
      show _ = _
      simp only [gv1]
      rfl
    case r1o6 =>
      intro w1 hG
      intro v5 h5
      change _ = _ at h5
      subst h5
      refine turn_on (by rfl) ?_
      intro K hK
      simp only [gv2]
      go_simp
      refine hK _ _ ⟨rfl, Kept.refl _, ?_⟩
      show _ = _
      simp only [gv1]
      rfl
    case r1o7 =>
      intro w1 hG
      intro v3 h3
      change _ = _ at h3
      subst h3
      intro v6 h6
      change _ = _ at h6
      subst h6
      refine turn_on (by rfl) ?_
      intro K hK
      simp only [gv2]
      go_simp
      refine hK _ _ ⟨rfl, Kept.refl _, ?_⟩
      show _ = _
      simp only [gv1]
      rfl
    case r1o8 =>
      intro w1 hG
      intro v7 h7
      change _ = _ at h7
      subst h7
      refine turn_on (by rfl) ?_
      intro K hK
      simp only [gv2]
      go_simp
      refine hK _ _ ⟨rfl, Kept.refl _, ?_⟩
      show _ = _
      simp only [gv1]
      rfl
    case r1o9 =>
      intro w1 hG
      intro v8 h8
      change _ = _ at h8
      subst h8
      refine turn_on (by rfl) ?_
      intro K hK
      simp only [gv2]
      go_simp
      refine hK _ _ ⟨rfl, Kept.refl _, ?_⟩
      show _ = _
      simp only [gv1]
      rfl
  intro w1 hG
  intro v0 h0
  change _ = _ at h0
  subst h0
  intro v1 h1
  change _ = _ at h1
  subst h1
  intro v2 h2
  change _ = _ at h2
  subst h2
  intro v3 h3
  change _ = _ at h3
  subst h3
  intro v4 h4
  change _ = _ at h4
  subst h4
  intro v5 h5
  change _ = _ at h5
  subst h5
  intro v6 h6
  change _ = _ at h6
  subst h6
  intro v7 h7
  change _ = _ at h7
  subst h7
  intro v8 h8
  change _ = _ at h8
  subst h8
  intro v9 h9
  change _ = _ at h9
  subst h9
  simp only [Given, gv2]
  have PB := Lib.hid (PA.out.drew.more hG)
  clear hG
  obtain ⟨y0, y1, y2, y3, y4, y5, y6, y7, y8, yf⟩ := plcells PB.out.row
  go_upto_region 15 with fail
  clear eU eF
  go_wp2_with fail
  refine (PB.out.trunc OK (by omega) up hup0 hup1).mono ?_
  rintro e w3 ⟨t1, t2, t3, t4⟩
  obtain ⟨rfl, Q3, hp3⟩ := t2 (by have := HC1.out; omega) (by have := HC2.out; omega)
  have P3 := Lib.hid hp3
  clear t1 t2 t3 t4 hp3 PA PB HBX y0 y1 y2 y3 y4 y5 y6 y7 y8 yf
  go_upto_region 16 with fail
  refine' reg_free (G := Kept) (pickF [eqV _, eqV _, eqV _, eqV _, eqV _, eqV _, eqV _, eqV _, eqV _, eqV _, eqV _, eqV _, eqV _]) [106, 107, 108, 109, 110, 111, 112, 113, 114, 115, 116, 117, 118] [[], [], [1], [2], [3], [], [5], [6], [7], [8], [9], [4, 10], [0, 11]] [0, 1, 2, 3, 4, 5, 6, 7, 8, 9, 10, 11, 12] (by kernel_rfl) Kept.refl Kept.trans (pick_stays ⟨eqV_stays _, eqV_stays _, eqV_stays _, eqV_stays _, eqV_stays _, eqV_stays _, eqV_stays _, eqV_stays _, eqV_stays _, eqV_stays _, eqV_stays _, eqV_stays _, eqV_stays _, trivial⟩) 230 rfl (by kernel_rfl) (by kernel_rfl) rfl rfl ?r2obl ?r2fin
  case r2obl =>
    refine And.intro ?r2o0 (And.intro ?r2o1 (And.intro ?r2o2 (And.intro ?r2o3 (And.intro ?r2o4 (And.intro ?r2o5 (And.intro ?r2o6 (And.intro ?r2o7 (And.intro ?r2o8 (And.intro ?r2o9 (And.intro ?r2o10 (And.intro ?r2o11 (And.intro ?r2o12 (True.intro)))))))))))))
    case r2o0 =>
      intro w1 hG
      refine turn_on (by rfl) ?_
      intro K hK
      go_simp
      refine hK _ _ ⟨rfl, Kept.refl _, ?_⟩
      show _ = _
      simp only [gv1]
      rfl
    case r2o1 =>
      intro w1 hG
      refine turn_on (by rfl) ?_
      intro K hK
      go_simp
      refine hK _ _ ⟨rfl, Kept.refl _, ?_⟩
      show _ = _
      simp only [gv1]
      rfl
    case r2o2 =>
      intro w1 hG
      intro v1 h1
      change _ = _ at h1
      subst h1
      refine turn_on (by rfl) ?_
      intro K hK
      simp only [gv2]
      go_simp
      refine hK _ _ ⟨rfl, Kept.refl _, ?_⟩
      show _ = _
      simp only [gv1]
      rfl
    case r2o3 =>
      intro w1 hG
      intro v2 h2
      change _ = _ at h2
      subst h2
      refine turn_on (by rfl) ?_
      intro K hK
      simp only [gv2]
      go_simp
      refine hK _ _ ⟨rfl, Kept.refl _, ?_⟩
      show _ = _
      simp only [gv1]
      rfl
    case r2o4 =>
      intro w1 hG
      intro v3 h3
      change _ = _ at h3
      subst h3
      refine turn_on (by rfl) ?_
      intro K hK
      simp only [gv2]
      have PR := P3.out.drew.more hG
      obtain ⟨y0, y1, y2, y3, y4, y5, y6, y7, y8, yf⟩ := plcells PR.row
      go_simp
      refine hK _ _ ⟨rfl, Kept.refl _, ?_⟩
      show _ = _
      simp only [gv1]
      rfl
    case r2o5 =>
      intro w1 hG
      refine turn_on (by rfl) ?_
      intro K hK
      go_simp
      refine hK _ _ ⟨rfl, Kept.refl _, ?_⟩
      show _ = _
      simp only [gv1]
      rfl
    case r2o6 =>
      intro w1 hG
      intro v5 h5
      change _ = _ at h5
      subst h5
      refine turn_on (by rfl) ?_
      intro K hK
      simp only [gv2]
      go_simp
      refine hK _ _ ⟨rfl, Kept.refl _, ?_⟩
      show _ = _
      simp only [gv1]
      rfl
    case r2o7 =>
      intro w1 hG
      intro v6 h6
      change _ = _ at h6
      subst h6
      refine turn_on (by rfl) ?_
      intro K hK
      simp only [gv2]
      go_simp
      refine hK _ _ ⟨rfl, Kept.refl _, ?_⟩
      show _ = _
      simp only [gv1]
      rfl
    case r2o8 =>
      intro w1 hG
      intro v7 h7
      change _ = _ at h7
      subst h7
      refine turn_on (by rfl) ?_
      intro K hK
      simp only [gv2]
      have PR := P3.out.drew.more hG
      obtain ⟨y0, y1, y2, y3, y4, y5, y6, y7, y8, yf⟩ := plcells PR.row
      go_simp
      refine hK _ _ ⟨rfl, Kept.refl _, ?_⟩
      show _ = _
      simp only [gv1]
      rfl
    case r2o9 =>
      intro w1 hG
      intro v8 h8
      change _ = _ at h8
      subst h8
      refine turn_on (by rfl) ?_
      intro K hK
      simp only [gv2]
      go_simp
      refine hK _ _ ⟨rfl, Kept.refl _, ?_⟩
      show _ = _
      simp only [gv1]
      rfl
    case r2o10 =>
      intro w1 hG
      intro v9 h9
      change _ = _ at h9
      subst h9
      refine turn_on (by rfl) ?_
      intro K hK
      simp only [gv2]
      go_simp
      refine hK _ _ ⟨rfl, Kept.refl _, ?_⟩
      show _ = _
      simp only [gv1]
      rfl
    case r2o11 =>
      intro w1 hG
      intro v4 h4
      change _ = _ at h4
      subst h4
      intro v10 h10
      change _ = _ at h10
      subst h10
      refine turn_on (by rfl) ?_
      intro K hK
      simp only [gv2]
      go_simp
      refine hK _ _ ⟨rfl, Kept.refl _, ?_⟩
      show _ = _
      simp only [gv1]
      rfl
    case r2o12 =>
      intro w1 hG
      intro v0 h0
      change _ = _ at h0
      subst h0
      intro v11 h11
      change _ = _ at h11
      subst h11
      refine turn_on (by rfl) ?_
      intro K hK
      simp only [gv2]
      go_simp
      refine hK _ _ ⟨rfl, Kept.refl _, ?_⟩
      show _ = _
      simp only [gv1]
      rfl
  intro w1 hG
  intro v0 h0
  change _ = _ at h0
  subst h0
  intro v1 h1
  change _ = _ at h1
  subst h1
  intro v2 h2
  change _ = _ at h2
  subst h2
  intro v3 h3
  change _ = _ at h3
  subst h3
  intro v4 h4
  change _ = _ at h4
  subst h4
  intro v5 h5
  change _ = _ at h5
  subst h5
  intro v6 h6
  change _ = _ at h6
  subst h6
  intro v7 h7
  change _ = _ at h7
  subst h7
  intro v8 h8
  change _ = _ at h8
  subst h8
  intro v9 h9
  change _ = _ at h9
  subst h9
  intro v10 h10
  change _ = _ at h10
  subst h10
  intro v11 h11
  change _ = _ at h11
  subst h11
  intro v12 h12
  change _ = _ at h12
  subst h12
  simp only [Given, gv2]
  have P4 := Lib.hid (P3.out.drew.more hG)
  clear P3 hG
  obtain ⟨y0, y1, y2, y3, y4, y5, y6, y7, y8, yf⟩ := plcells P4.out.row
  obtain ⟨a4, m4, c4, e4, hrw4⟩ := P4.out.rows
  injection e4 with e40 e41 e42
  subst e40 e41 e42
  have hcap4 := hrw4.cap
  have HRW := Lib.hid hrw4
  clear hrw4
  go_upto_region 26 with fail
  have hp5 := P4.out.putL a m c L HRW.out
  obtain ⟨w5, hw5⟩ : ∃ w5, w1.setCell ⟨C.g, 4, none⟩ (.slice a m c) = w5 := ⟨_, rfl⟩
  rw [hw5] at hp5 ⊢
  replace hp5 : PlR C w0 w5 Q3 (i + 1) r st J L ⟨.pointer (some ⟨r, 0, none⟩), .slice a m c, mv, may, ma, J.h.first, L⟩ := hp5
  have HLM2 := HLM
  have P5 := Lib.hid hp5
  clear hw5 hp5 P4 y0 y1 y2 y3 y4 y5 y6 y7 y8 yf
  obtain ⟨y0, y1, y2, y3, y4, y5, y6, y7, y8, yf⟩ := plcells P5.out.row
  have eF : IntKind.u64.wrap J.h.first = J.h.first := by rw [IntKind.wrap_u64]; omega
  go_upto_region 32 with fail
  have hp6 := P5.out.put 5 (.int .u64 J.h.first) ⟨.pointer (some ⟨r, 0, none⟩), .slice a m c, mv, may, ma, J.h.first, L⟩ (fun w1 h1 => rowW_set5 _ h1) rfl rfl P5.out.nu
  obtain ⟨w6, hw6⟩ : ∃ w6, w5.setCell ⟨C.g, 5, none⟩ (.int .u64 J.h.first) = w6 := ⟨_, rfl⟩
  rw [hw6] at hp6 ⊢
  have P6 := Lib.hid hp6
  clear hw6 hp6 P5 y0 y1 y2 y3 y4 y5 y6 y7 y8 yf ew1 ew2 eF eN d5 d6
  obtain ⟨eq1, eq2⟩ := P6.out.lenW HLM2.out
  have dd : (J.h.first == J.h.first) = true := beq_self_eq_true _
  have dd2 : (J.h.next == J.h.next) = true := beq_self_eq_true _
  refine' reg_free (G := Kept) (pickF [eqV _, eqV _, eqV _, eqV _, eqV _, eqV _, eqV _, eqV _, eqV _, eqV _, eqV _, eqV _, eqV _, eqV _, eqV _, eqV _, eqV _, eqV _, eqV _, eqV _, eqV _, eqV _, eqV _, eqV _, eqV _, eqV _, eqV _, eqV _, eqV _, eqV _]) [201, 202, 203, 204, 205, 206, 207, 208, 209, 210, 211, 212, 213, 214, 215, 216, 217, 218, 219, 220, 221, 222, 223, 224, 225, 226, 227, 228, 229, 4] [[], [0], [1], [2], [3], [], [5], [6], [7], [4, 8], [9], [10], [10, 11], [10, 12], [10, 13], [10, 14], [10], [10, 16], [10, 17], [10, 18], [10], [10, 20], [10, 21], [10, 22], [10, 23], [10, 24], [10, 19, 25], [10, 15, 26], [10, 27], [28]] [0, 1, 2, 3, 4, 5, 6, 7, 8, 9, 10, 11, 12, 13, 14, 15, 16, 17, 18, 19, 20, 21, 22, 23, 24, 25, 26, 27, 28, 29] (by kernel_rfl) Kept.refl Kept.trans (pick_stays ⟨eqV_stays _, eqV_stays _, eqV_stays _, eqV_stays _, eqV_stays _, eqV_stays _, eqV_stays _, eqV_stays _, eqV_stays _, eqV_stays _, eqV_stays _, eqV_stays _, eqV_stays _, eqV_stays _, eqV_stays _, eqV_stays _, eqV_stays _, eqV_stays _, eqV_stays _, eqV_stays _, eqV_stays _, eqV_stays _, eqV_stays _, eqV_stays _, eqV_stays _, eqV_stays _, eqV_stays _, eqV_stays _, eqV_stays _, eqV_stays _, trivial⟩) 230 rfl (by kernel_rfl) (by kernel_rfl) rfl rfl ?r3obl ?r3fin
  case r3obl =>
    refine And.intro ?r3o0 (And.intro ?r3o1 (And.intro ?r3o2 (And.intro ?r3o3 (And.intro ?r3o4 (And.intro ?r3o5 (And.intro ?r3o6 (And.intro ?r3o7 (And.intro ?r3o8 (And.intro ?r3o9 (And.intro ?r3o10 (And.intro ?r3o11 (And.intro ?r3o12 (And.intro ?r3o13 (And.intro ?r3o14 (And.intro ?r3o15 (And.intro ?r3o16 (And.intro ?r3o17 (And.intro ?r3o18 (And.intro ?r3o19 (And.intro ?r3o20 (And.intro ?r3o21 (And.intro ?r3o22 (And.intro ?r3o23 (And.intro ?r3o24 (And.intro ?r3o25 (And.intro ?r3o26 (And.intro ?r3o27 (And.intro ?r3o28 (And.intro ?r3o29 (True.intro))))))))))))))))))))))))))))))
    case r3o0 =>
      intro w1 hG
      refine turn_on (by rfl) ?_
      intro K hK
      go_simp
      refine hK _ _ ⟨rfl, Kept.refl _, ?_⟩
      show _ = _
      simp only [gv1]
      rfl
    case r3o1 =>
      intro w1 hG
      intro v0 h0
      change _ = _ at h0
      subst h0
      refine turn_on (by rfl) ?_
      intro K hK
      simp only [gv2]
      go_simp
      refine hK _ _ ⟨rfl, Kept.refl _, ?_⟩
      show _ = _
      simp only [gv1]
      rfl
    case r3o2 =>
      intro w1 hG
      intro v1 h1
      change _ = _ at h1
      subst h1
      refine turn_on (by rfl) ?_
      intro K hK
      simp only [gv2]
      go_simp
      refine hK _ _ ⟨rfl, Kept.refl _, ?_⟩
      show _ = _
      simp only [gv1]
      rfl
    case r3o3 =>
      intro w1 hG
      intro v2 h2
      change _ = _ at h2
      subst h2
      refine turn_on (by rfl) ?_
      intro K hK
      simp only [gv2]
      have PR := P6.out.drew.more hG
      obtain ⟨y0, y1, y2, y3, y4, y5, y6, y7, y8, yf⟩ := plcells PR.row
      go_simp
      refine hK _ _ ⟨rfl, Kept.refl _, ?_⟩
      show _ = _
      simp only [gv1]
      rfl
    case r3o4 =>
      intro w1 hG
      intro v3 h3
      change _ = _ at h3
      subst h3
      refine turn_on (by rfl) ?_
      intro K hK
      simp only [gv2]
      have PR := P6.out.drew.more hG
      go_simp
      refine Calls.mono PR.first ?_
      rintro e w2 ⟨rfl, rfl⟩
      refine hK _ _ ⟨rfl, Kept.refl _, ?_⟩
      show _ = _
      simp only [gv1]
      rfl
    case r3o5 =>
      intro w1 hG
      refine turn_on (by rfl) ?_
      intro K hK
      go_simp
      refine hK _ _ ⟨rfl, Kept.refl _, ?_⟩
      show _ = _
      simp only [gv1]
      rfl
    case r3o6 =>
      intro w1 hG
      intro v5 h5
      change _ = _ at h5
      subst h5
      refine turn_on (by rfl) ?_
      intro K hK
      simp only [gv2]
      go_simp
      refine hK _ _ ⟨rfl, Kept.refl _, ?_⟩
      show _ = _
      simp only [gv1]
      rfl
    case r3o7 =>
      intro w1 hG
      intro v6 h6
      change _ = _ at h6
      subst h6
      refine turn_on (by rfl) ?_
      intro K hK
      simp only [gv2]
      go_simp
      refine hK _ _ ⟨rfl, Kept.refl _, ?_⟩
      show _ = _
      simp only [gv1]
      rfl
    case r3o8 =>
      intro w1 hG
      intro v7 h7
      change _ = _ at h7
      subst h7
      refine turn_on (by rfl) ?_
      intro K hK
      simp only [gv2]
      have PR := P6.out.drew.more hG
      obtain ⟨y0, y1, y2, y3, y4, y5, y6, y7, y8, yf⟩ := plcells PR.row
      go_simp
      refine hK _ _ ⟨rfl, Kept.refl _, ?_⟩
      show _ = _
      simp only [gv1]
      rfl
    case r3o9 =>
      intro w1 hG
      intro v4 h4
      change _ = _ at h4
      subst h4
      intro v8 h8
      change _ = _ at h8
      subst h8
      refine turn_on (by rfl) ?_
      intro K hK
      simp only [gv2]
      go_simp
      refine hK _ _ ⟨rfl, Kept.refl _, ?_⟩
      show _ = _
      simp only [gv1]
      rfl
    case r3o10 =>
      intro w1 hG
      intro v9 h9
      change _ = _ at h9
      subst h9
      refine turn_on (by rfl) ?_
      intro K hK
      simp only [gv2]
      go_simp
      refine hK _ _ ⟨rfl, Kept.refl _, ?_⟩
      show _ = _
      simp only [gv1]
      rfl
    case r3o11 =>
      intro w1 hG
      intro v10 h10
      change _ = _ at h10
      subst h10
      refine turn_on (by rfl) ?_
      intro K hK
      simp only [gv2]
      go_simp
      refine hK _ _ ⟨rfl, Kept.refl _, ?_⟩
      show _ = _
      simp only [gv1]
      rfl
    case r3o12 =>
      intro w1 hG
      intro v10 h10
      change _ = _ at h10
      subst h10
      intro v11 h11
      change _ = _ at h11
      subst h11
      refine turn_on (by rfl) ?_
      intro K hK
      simp only [gv2]
      go_simp
      refine hK _ _ ⟨rfl, Kept.refl _, ?_⟩
      show _ = _
      simp only [gv1]
      rfl
    case r3o13 =>
      intro w1 hG
      intro v10 h10
      change _ = _ at h10
      subst h10
      intro v12 h12
      change _ = _ at h12
      subst h12
      refine turn_on (by rfl) ?_
      intro K hK
      simp only [gv2]
      go_simp
      refine hK _ _ ⟨rfl, Kept.refl _, ?_⟩
      show _ = _
      simp only [gv1]
      rfl
    case r3o14 =>
      intro w1 hG
      intro v10 h10
      change _ = _ at h10
      subst h10
      intro v13 h13
      change _ = _ at h13
      subst h13
      refine turn_on (by rfl) ?_
      intro K hK
      simp only [gv2]
      have PR := P6.out.drew.more hG
      obtain ⟨y0, y1, y2, y3, y4, y5, y6, y7, y8, yf⟩ := plcells PR.row
      go_simp
      refine hK _ _ ⟨rfl, Kept.refl _, ?_⟩
      show _ = _
      simp only [gv1]
      rfl
    case r3o15 =>
      intro w1 hG
      intro v10 h10
      change _ = _ at h10
      subst h10
      intro v14 h14
      change _ = _ at h14
      subst h14
      refine turn_on (by rfl) ?_
      intro K hK
      simp only [gv2]
      have PR := P6.out.drew.more hG
      go_simp
      refine Calls.mono PR.next ?_
      rintro e w2 ⟨rfl, rfl⟩
      refine hK _ _ ⟨rfl, Kept.refl _, ?_⟩
      show _ = _
      simp only [gv1]
      rfl
    case r3o16 =>
      intro w1 hG
      intro v10 h10
      change _ = _ at h10
      subst h10
      refine turn_on (by rfl) ?_
      intro K hK
      simp only [gv2]
      go_simp
      refine hK _ _ ⟨rfl, Kept.refl _, ?_⟩
      show _ = _
      simp only [gv1]
      rfl
    case r3o17 =>
      intro w1 hG
      intro v10 h10
      change _ = _ at h10
      subst h10
      intro v16 h16
      change _ = _ at h16
      subst h16
      refine turn_on (by rfl) ?_
      intro K hK
      simp only [gv2]
      go_simp
      refine hK _ _ ⟨rfl, Kept.refl _, ?_⟩
      show _ = _
      simp only [gv1]
      rfl
    case r3o18 =>
      intro w1 hG
      intro v10 h10
      change _ = _ at h10
      subst h10
      intro v17 h17
      change _ = _ at h17
      subst h17
      refine turn_on (by rfl) ?_
      intro K hK
      simp only [gv2]
      go_simp
      refine hK _ _ ⟨rfl, Kept.refl _, ?_⟩
      show _ = _
      simp only [gv1]
      rfl
    case r3o19 =>
      intro w1 hG
      intro v10 h10
      change _ = _ at h10
      subst h10
      intro v18 h18
      change _ = _ at h18
      subst h18
      refine turn_on (by rfl) ?_
      intro K hK
      simp only [gv2]
      have PR := P6.out.drew.more hG
      obtain ⟨y0, y1, y2, y3, y4, y5, y6, y7, y8, yf⟩ := plcells PR.row
      go_simp
      refine hK _ _ ⟨rfl, Kept.refl _, ?_⟩
      show _ = _
      simp only [gv1]
      rfl
    case r3o20 =>
      intro w1 hG
      intro v10 h10
      change _ = _ at h10
      subst h10
      refine turn_on (by rfl) ?_
      intro K hK
      simp only [gv2]
      go_simp
      refine hK _ _ ⟨rfl, Kept.refl _, ?_⟩
      show _ = _
      simp only [gv1]
      rfl
    case r3o21 =>
      intro w1 hG
      intro v10 h10
      change _ = _ at h10
      subst h10
      intro v20 h20
      change _ = _ at h20
      subst h20
      refine turn_on (by rfl) ?_
      intro K hK
      simp only [gv2]
      go_simp
      refine hK _ _ ⟨rfl, Kept.refl _, ?_⟩
      show _ = _
      simp only [gv1]
      rfl
    case r3o22 =>
      intro w1 hG
      intro v10 h10
      change _ = _ at h10
      subst h10
      intro v21 h21
      change _ = _ at h21
      subst h21
      refine turn_on (by rfl) ?_
      intro K hK
      simp only [gv2]
      go_simp
      refine hK _ _ ⟨rfl, Kept.refl _, ?_⟩
      show _ = _
      simp only [gv1]
      rfl
    case r3o23 =>
      intro w1 hG
      intro v10 h10
      change _ = _ at h10
      subst h10
      intro v22 h22
      change _ = _ at h22
      subst h22
      refine turn_on (by rfl) ?_
      intro K hK
      simp only [gv2]
      have PR := P6.out.drew.more hG
      obtain ⟨y0, y1, y2, y3, y4, y5, y6, y7, y8, yf⟩ := plcells PR.row
      go_simp
      refine hK _ _ ⟨rfl, Kept.refl _, ?_⟩
      show _ = _
      simp only [gv1]
      rfl
    case r3o24 =>
      intro w1 hG
      intro v10 h10
      change _ = _ at h10
      subst h10
      intro v23 h23
      change _ = _ at h23
      subst h23
      refine turn_on (by rfl) ?_
      intro K hK
      simp only [gv2]
      go_simp
      refine hK _ _ ⟨rfl, Kept.refl _, ?_⟩
      show _ = _
      simp only [gv1]
      rfl
    case r3o25 =>
      intro w1 hG
      intro v10 h10
      change _ = _ at h10
      subst h10
      intro v24 h24
      change _ = _ at h24
      subst h24
      refine turn_on (by rfl) ?_
      intro K hK
      simp only [gv2]
      go_simp
      refine hK _ _ ⟨rfl, Kept.refl _, ?_⟩
      show _ = _
      simp only [gv1]
      rfl
    case r3o26 =>
      intro w1 hG
      intro v10 h10
      change _ = _ at h10
      subst h10
      intro v19 h19
      change _ = _ at h19
      subst h19
      intro v25 h25
      change _ = _ at h25
      subst h25
      refine turn_on (by rfl) ?_
      intro K hK
      simp only [gv2]
      go_simp
      refine hK _ _ ⟨rfl, Kept.refl _, ?_⟩
      show _ = _
      simp only [gv1]
      rfl
    case r3o27 =>
      intro w1 hG
      intro v10 h10
      change _ = _ at h10
      subst h10
      intro v15 h15
      change _ = _ at h15
      subst h15
      intro v26 h26
      change _ = _ at h26
      subst h26
      refine turn_on (by rfl) ?_
      intro K hK
      simp only [gv2]
      go_simp
      refine hK _ _ ⟨rfl, Kept.refl _, ?_⟩
      show _ = _
      simp only [gv1]
      rfl
    case r3o28 =>
      intro w1 hG
      intro v10 h10
      change _ = _ at h10
      subst h10
      intro v27 h27
      change _ = _ at h27
      subst h27
      refine turn_on (by rfl) ?_
      intro K hK
      simp only [gv2]
      go_simp
      refine hK _ _ ⟨rfl, Kept.refl _, ?_⟩
      show _ = _
      simp only [gv1]
      rfl
    case r3o29 =>
      intro w1 hG
      intro v28 h28
      change _ = _ at h28
      subst h28
      refine turn_on (by rfl) ?_
      intro K hK
      simp only [gv2]
      go_simp
      refine hK _ _ ⟨rfl, Kept.refl _, ?_⟩
      show _ = _
      simp only [gv1]
      rfl
  intro w1 hG
  intro v0 h0
  change _ = _ at h0
  subst h0
  intro v1 h1
  change _ = _ at h1
  subst h1
  intro v2 h2
  change _ = _ at h2
  subst h2
  intro v3 h3
  change _ = _ at h3
  subst h3
  intro v4 h4
  change _ = _ at h4
  subst h4
  intro v5 h5
  change _ = _ at h5
  subst h5
  intro v6 h6
  change _ = _ at h6
  subst h6
  intro v7 h7
  change _ = _ at h7
  subst h7
  intro v8 h8
  change _ = _ at h8
  subst h8
  intro v9 h9
  change _ = _ at h9
  subst h9
  intro v10 h10
  change _ = _ at h10
  subst h10
  intro v11 h11
  change _ = _ at h11
  subst h11
  intro v12 h12
  change _ = _ at h12
  subst h12
  intro v13 h13
  change _ = _ at h13
  subst h13
  intro v14 h14
  change _ = _ at h14
  subst h14
  intro v15 h15
  change _ = _ at h15
  subst h15
  intro v16 h16
  change _ = _ at h16
  subst h16
  intro v17 h17
  change _ = _ at h17
  subst h17
  intro v18 h18
  change _ = _ at h18
  subst h18
  intro v19 h19
  change _ = _ at h19
  subst h19
  intro v20 h20
  change _ = _ at h20
  subst h20
  intro v21 h21
  change _ = _ at h21
  subst h21
  intro v22 h22
  change _ = _ at h22
  subst h22
  intro v23 h23
  change _ = _ at h23
  subst h23
  intro v24 h24
  change _ = _ at h24
  subst h24
  intro v25 h25
  change _ = _ at h25
  subst h25
  intro v26 h26
  change _ = _ at h26
  subst h26
  intro v27 h27
  change _ = _ at h27
  subst h27
  intro v28 h28
  change _ = _ at h28
  subst h28
  intro v29 h29
  change _ = _ at h29
  subst h29
  simp only [Given, gv2]
  have PZ := Lib.hid ((P6.out.drew.more hG).later (show i + 1 ≤ i + 2 by omega))
  clear P6 hG
  go_wp2_with fail
  go_ret
  exact ⟨rfl, L, _, _, _, _, _, PZ.out, rfl, rfl, rfl⟩
end Go.Proofs.Ytlhpdkapddnbcaa
