/- The walk of almanaclaw15.RegionMakes. -/
import Derived.Test.YtoampbdipmecmaaRgOut
namespace Go.Proofs.Ytoampbdipmecmaa
open Go.RowKit
set_option linter.unusedSimpArgs false in
set_option linter.unusedVariables false in
set_option maxRecDepth 100000 in
set_option maxHeartbeats 4000000 in
theorem regionMakes_in (a0 : Option Addr) (n c0 : Nat) (L : List Rg) (lo hi p pages : Int) (w : World) (h : RdS Rg.cells 3 w a0 n c0 L) (hlo : (Lit.int .i64 lo).wf = true) (hhi : (Lit.int .i64 hi).wf = true) (hn : n ≤ 60) (hh : hi ≤ 1099511627776) :
    Calls Try.prog 5 #[.slice a0 n c0, .int .i64 lo, .int .i64 hi, .int .i64 p, .int .i64 pages] w fun e w' => e = .returned (.bool true) ∧ Below w.heap.size w w' := by
  have H := Lib.hid h
  have HLO := Lib.hid hlo
  have HHI := Lib.hid hhi
  have HH := Lib.hid hh
  have hl := h.len
  have HC := Lib.hid (clean_cn (L := L) (n := 60) (by omega))
  have HCR := Lib.hid (clean_right L)
  obtain ⟨C, hC⟩ : ∃ C, cleanL L = C := ⟨_, rfl⟩
  rw [hC] at HC HCR
  have HEQ := Lib.hid hC
  obtain ⟨q, hq⟩ : ∃ q, C.length = q := ⟨_, rfl⟩
  have hq1 : q ≤ 120 := by have := HC.out.few; omega
  have HQ := Lib.hid hq
  have dn : decide ((60 : Int) < (n : Int)) = false := decide_eq_false (by omega)
  have dh : decide ((1099511627776 : Int) < hi) = false := decide_eq_false (by omega)
  have HN : Hid (n ≤ 60) := hn
  clear h hlo hhi hh hl hC hq hn
  go_enter Try.func5, Try.ntmps5
  go_wp2_with fail
  refine (known_any w).mono ?_
  rintro e w1 ⟨rfl, hb1⟩
  have B1 := Lib.hid hb1
  clear hb1
  go_wp2_with fail
  refine (clean_any a0 n c0 L w1 (H.out.below B1.out) (Nat.le_trans HN.out (by omega))).mono ?_
  rintro e w2 ⟨v2, rfl, ho2, hb2⟩
  rw [HEQ.out] at ho2
  obtain ⟨ac, cc, rfl⟩ := ho2.shapeN q HQ.out
  have B2 := Lib.hid (Below.call B1.out hb2)
  have O2 := Lib.hid ho2
  clear ho2 hb2
  go_wp2_with fail
  refine (refclean_out a0 n c0 L w2 (H.out.below B2.out) (Nat.le_trans HN.out (by omega))).mono ?_
  rintro e w3 ⟨v3, rfl, ho3, hb3⟩
  rw [HEQ.out] at ho3
  obtain ⟨ad, cd, rfl⟩ := ho3.shapeN q HQ.out
  have B3 := Lib.hid (Below.call B2.out hb3)
  have RC : Hid (∀ z, Below w3.heap.size w3 z → RdS Rg.cells 3 z ac q cc C) := fun z hb => ((O2.out.below hb3).below hb).rd rgC
  have RD : Hid (∀ z, Below w3.heap.size w3 z → RdS Rg.cells 3 z ad q cd C) := fun z hb => (ho3.below hb).rd rgC
  have RL : Hid (∀ z, Below w3.heap.size w3 z → RdS Rg.cells 3 z a0 n c0 L) := fun z hb => H.out.below (Below.call B3.out hb)
  have S3 : Hid (Below w3.heap.size w3 w3) := Below.refl _ _
  have hq2 : Hid (q ≤ 1000) := by show _ ≤ _; omega
  have hn2 : Hid (n ≤ 1000) := Nat.le_trans HN.out (by omega)
  clear ho3 hb3 O2 B1 B2 H

  go_wp2_with fail
  refine (same_yes ac ad q cc cd C w3 (RC.out _ S3.out) (RD.out _ S3.out) hq2.out).mono ?_
  rintro e w4 ⟨rfl, hb4⟩
  have S4 := Lib.hid (Below.call S3.out hb4)
  clear hb4 S3
  go_wp2_with fail
  refine (rightR_any a0 n c0 L pages w4 (RL.out _ S4.out) hn2.out).mono ?_
  rintro e w5 ⟨rfl, hb5⟩
  have S5 := Lib.hid (Below.call S4.out hb5)
  clear hb5 S4
  go_wp2_with fail
  refine (refright_any a0 n c0 L pages w5 (RL.out _ S5.out) hn2.out).mono ?_
  rintro e w6 ⟨rfl, hb6⟩
  have S6 := Lib.hid (Below.call S5.out hb6)
  clear hb6 S5
  go_wp2_with fail
  refine (rightR_any ac q cc C pages w6 (RC.out _ S6.out) hq2.out).mono ?_
  rintro e w7 ⟨rfl, hb7⟩
  have S7 := Lib.hid (Below.call S6.out hb7)
  clear hb7 S6
  go_wp2_with fail
  refine (refright_any ad q cd C pages w7 (RD.out _ S7.out) hq2.out).mono ?_
  rintro e w8 ⟨rfl, hb8⟩
  have S8 := Lib.hid (Below.call S7.out hb8)
  clear hb8 S7
  go_wp2_with fail
  refine (rightR_any ac q cc C 1073741824 w8 (RC.out _ S8.out) hq2.out).mono ?_
  rintro e w9 ⟨rfl, hb9⟩
  have S9 := Lib.hid (Below.call S8.out hb9)
  rw [HCR.out]
  clear hb9 S8
  go_wp2_with fail
  refine (map_out ac q cc C lo hi p w9 (RC.out _ S9.out) HC.out (by omega) HH.out).mono ?_
  rintro e w10 ⟨v10, rfl, ho10, hb10⟩
  have S10 := Lib.hid (Below.call S9.out hb10)
  have H1 := Lib.hid (map_cn (p := p) (lo := lo) HC.out HH.out)
  obtain ⟨M1, hM1⟩ : ∃ M, mapL C lo hi p = M := ⟨_, rfl⟩
  obtain ⟨E1, hE1⟩ : ∃ E, mapE C lo hi p = E := ⟨_, rfl⟩
  have HM1 := Lib.hid hM1
  have HE1 := Lib.hid hE1
  rw [hM1] at ho10 H1
  rw [hE1]
  obtain ⟨m1, hm1⟩ : ∃ m, M1.length = m := ⟨_, rfl⟩
  obtain ⟨a1, c1, rfl⟩ := ho10.shapeN m1 hm1
  have HL1 := Lib.hid hm1
  have O1 := Lib.hid ho10
  have hl1 : Hid (m1 ≤ 1000) := by have := H1.out.few; show _ ≤ _; omega
  clear ho10 hM1 hE1 hm1
  clear hb10 S9
  go_wp2_with fail
  refine (refmap_out ad q cd C lo hi p w10 (RD.out _ S10.out) HC.out (by omega) HLO.out HHI.out).mono ?_
  rintro e w11 ⟨v11, rfl, ho11, hb11⟩
  have S11 := Lib.hid (Below.call S10.out hb11)
  rw [HM1.out] at ho11
  rw [HE1.out]
  obtain ⟨b1, d1, rfl⟩ := ho11.shapeN m1 HL1.out
  have P1 := Lib.hid ho11
  replace O1 := Lib.hid (O1.out.below hb11)
  clear ho11
  clear hb11 S10
  go_wp2_with fail
  refine (same_yes a1 b1 m1 c1 d1 M1 w11 (O1.out.rd rgC) (P1.out.rd rgC) hl1.out).mono ?_
  rintro e w12 ⟨rfl, hb12⟩
  have S12 := Lib.hid (Below.call S11.out hb12)
  clear hb12 S11
  go_wp2_with fail
  refine (pro_out ac q cc C lo hi p w12 (RC.out _ S12.out) HC.out (by omega) HH.out).mono ?_
  rintro e w13 ⟨v13, rfl, ho13, hb13⟩
  have S13 := Lib.hid (Below.call S12.out hb13)
  have H2 := Lib.hid (pro_cn (p := p) (lo := lo) HC.out HH.out)
  obtain ⟨M2, hM2⟩ : ∃ M, proL C lo hi p = M := ⟨_, rfl⟩
  obtain ⟨E2, hE2⟩ : ∃ E, proE C lo hi p = E := ⟨_, rfl⟩
  have HM2 := Lib.hid hM2
  have HE2 := Lib.hid hE2
  rw [hM2] at ho13 H2
  rw [hE2]
  obtain ⟨m2, hm2⟩ : ∃ m, M2.length = m := ⟨_, rfl⟩
  obtain ⟨a2, c2, rfl⟩ := ho13.shapeN m2 hm2
  have HL2 := Lib.hid hm2
  have O2 := Lib.hid ho13
  have hl2 : Hid (m2 ≤ 1000) := by have := H2.out.few; show _ ≤ _; omega
  clear ho13 hM2 hE2 hm2
  clear hb13 S12
  go_wp2_with fail
  refine (refpro_out ad q cd C lo hi p w13 (RD.out _ S13.out) HC.out (by omega) HLO.out HHI.out).mono ?_
  rintro e w14 ⟨v14, rfl, ho14, hb14⟩
  have S14 := Lib.hid (Below.call S13.out hb14)
  rw [HM2.out] at ho14
  rw [HE2.out]
  obtain ⟨b2, d2, rfl⟩ := ho14.shapeN m2 HL2.out
  have P2 := Lib.hid ho14
  replace O2 := Lib.hid (O2.out.below hb14)
  clear ho14
  clear hb14 S13
  go_wp2_with fail
  refine (same_yes a2 b2 m2 c2 d2 M2 w14 (O2.out.rd rgC) (P2.out.rd rgC) hl2.out).mono ?_
  rintro e w15 ⟨rfl, hb15⟩
  have S15 := Lib.hid (Below.call S14.out hb15)
  clear hb15 S14
  go_wp2_with fail
  refine (un_out ac q cc C lo hi w15 (RC.out _ S15.out) HC.out (by omega)).mono ?_
  rintro e w16 ⟨v16, rfl, ho16, hb16⟩
  have S16 := Lib.hid (Below.call S15.out hb16)
  have H3 := Lib.hid (un_cn (lo := lo) (hi := hi) HC.out)
  obtain ⟨M3, hM3⟩ : ∃ M, unL C lo hi = M := ⟨_, rfl⟩
  have HM3 := Lib.hid hM3
  rw [hM3] at ho16 H3
  obtain ⟨m3, hm3⟩ : ∃ m, M3.length = m := ⟨_, rfl⟩
  obtain ⟨a3, c3, rfl⟩ := ho16.shapeN m3 hm3
  have HL3 := Lib.hid hm3
  have O3 := Lib.hid ho16
  have hl3 : Hid (m3 ≤ 1000) := by have := H3.out.few; show _ ≤ _; omega
  clear ho16 hM3 hm3
  clear hb16 S15
  go_wp2_with fail
  refine (refun_out ad q cd C lo hi w16 (RD.out _ S16.out) HC.out (by omega) HLO.out HHI.out).mono ?_
  rintro e w17 ⟨v17, rfl, ho17, hb17⟩
  have S17 := Lib.hid (Below.call S16.out hb17)
  rw [HM3.out] at ho17
  obtain ⟨b3, d3, rfl⟩ := ho17.shapeN m3 HL3.out
  have P3 := Lib.hid ho17
  replace O3 := Lib.hid (O3.out.below hb17)
  clear ho17
  clear hb17 S16
  go_wp2_with fail
  refine (same_yes a3 b3 m3 c3 d3 M3 w17 (O3.out.rd rgC) (P3.out.rd rgC) hl3.out).mono ?_
  rintro e w18 ⟨rfl, hb18⟩
  have S18 := Lib.hid (Below.call S17.out hb18)
  clear hb18 S17
  go_wp2_with fail
  refine (same_yes ac ad q cc cd C w18 (RC.out _ S18.out) (RD.out _ S18.out) hq2.out).mono ?_
  rintro e w19 ⟨rfl, hb19⟩
  have S19 := Lib.hid (Below.call S18.out hb19)
  clear hb19 S18
  go_wp2
  go_ret
  exact ⟨rfl, Below.call B3.out S19.out⟩
set_option linter.unusedSimpArgs false in
set_option linter.unusedVariables false in
set_option maxRecDepth 100000 in
set_option maxHeartbeats 1000000 in
theorem regionMakes_walk (a0 : Option Addr) (n c0 : Nat) (L : List Rg) (lo hi p pages : Int) (w : World) (h : RdS Rg.cells 3 w a0 n c0 L) (hlo : (Lit.int .i64 lo).wf = true) (hhi : (Lit.int .i64 hi).wf = true) (hp : (Lit.int .i64 p).wf = true) (hpg : (Lit.int .i64 pages).wf = true) :
    Calls Try.prog 5 #[.slice a0 n c0, .int .i64 lo, .int .i64 hi, .int .i64 p, .int .i64 pages] w fun e w' => e = .returned (.bool true) ∧ Below w.heap.size w w' := by
  by_cases h1 : n ≤ 60
  · by_cases h2 : hi ≤ 1099511627776
    · exact regionMakes_in a0 n c0 L lo hi p pages w h hlo hhi h1 h2
    · have dn : decide ((60 : Int) < (n : Int)) = false := decide_eq_false (by omega)
      have dh : decide ((1099511627776 : Int) < hi) = true := decide_eq_true (by omega)
      clear h hlo hhi hp hpg
      go_enter Try.func5, Try.ntmps5
      go_wp2_with fail
      refine (known_any w).mono ?_
      rintro e w1 ⟨rfl, hb1⟩
      go_wp2
      go_ret
      exact ⟨rfl, hb1⟩
  · have dn : decide ((60 : Int) < (n : Int)) = true := decide_eq_true (by omega)
    clear h hlo hhi hp hpg
    go_enter Try.func5, Try.ntmps5
    go_wp2_with fail
    refine (known_any w).mono ?_
    rintro e w1 ⟨rfl, hb1⟩
    go_wp2
    go_ret
    exact ⟨rfl, hb1⟩
end Go.Proofs.Ytoampbdipmecmaa
