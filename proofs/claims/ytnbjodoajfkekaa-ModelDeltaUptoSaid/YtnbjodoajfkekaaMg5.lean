/- The walk of almanaclaw18.ModelDelta. ModelDelta: for every input the law returns true, and every argument reads as it did: the row round the walk. -/
import Derived.Test.YtnbjodoajfkekaaMg2
import Derived.Test.YtnbjodoajfkekaaMg4
import Derived.WalkKit
import Derived.ProofKit
import Derived.BigQuiet
import Derived.Deep.QuietTactic
import Derived.Lib.Hide
import Derived.RegionTactic
import Derived.Test.YtnbjodoajfkekaaMj22
import Derived.JoinedCond
import Derived.Test.YtnbjodoajfkekaaMj21
import Derived.Test.YtnbjodoajfkekaaRows
import Derived.OpenShut
import Derived.ShutString
import Derived.ChangeOld
import Derived.Below
namespace Go.Proofs.Ytnbjodoajfkekaa
open Go.RowKit
set_option linter.unusedSimpArgs false
set_option maxHeartbeats 4000000 in
set_option maxRecDepth 100000 in
theorem modelDelta_walk (c : Cf) (a : Option Addr) (n cap : Nat) (L : List OpP) (T : OpP) (ta : Option Addr) (tn tc : Nat) (w : World) (hL : OpsAt w a n L) (hs : sumOp L + n ≤ 1048576) (hT : RdAt .u8 w ta tn tc T.data) (hts : tn ≤ 1048576)
    (hw : (Lit.int .i64 T.kind).wf = true ∧ (Lit.int .i64 T.pid).wf = true ∧ (Lit.int .i64 T.at_).wf = true ∧ (Lit.int .i64 T.n).wf = true ∧ (Lit.int .i64 T.prot).wf = true) :
    Calls Try.prog 5 #[c.val, .slice a n cap, .agg #[.int .i64 T.kind, .int .i64 T.pid, .int .i64 T.at_, .int .i64 T.n, .int .i64 T.prot, .slice ta tn tc]] w fun e w' => e = .returned (.bool true) ∧ Below w.heap.size w w' := by
  have hb0 := below_a2 w (.cells #[.int .i64 c.a0, .int .i64 c.a1, .int .i64 c.a2, .int .i64 c.a3, .int .i64 c.page, .int .i64 c.a5, .int .i64 c.procs, .int .i64 c.regions, .int .i64 c.pages] 23) (.cells #[.int .i64 T.kind, .int .i64 T.pid, .int .i64 T.at_, .int .i64 T.n, .int .i64 T.prot, .slice ta tn tc] 27)
  have g0 := al2_0 w (.cells #[.int .i64 c.a0, .int .i64 c.a1, .int .i64 c.a2, .int .i64 c.a3, .int .i64 c.page, .int .i64 c.a5, .int .i64 c.procs, .int .i64 c.regions, .int .i64 c.pages] 23) (.cells #[.int .i64 T.kind, .int .i64 T.pid, .int .i64 T.at_, .int .i64 T.n, .int .i64 T.prot, .slice ta tn tc] 27)
  have g1 := al2_1 w (.cells #[.int .i64 c.a0, .int .i64 c.a1, .int .i64 c.a2, .int .i64 c.a3, .int .i64 c.page, .int .i64 c.a5, .int .i64 c.procs, .int .i64 c.regions, .int .i64 c.pages] 23) (.cells #[.int .i64 T.kind, .int .i64 T.pid, .int .i64 T.at_, .int .i64 T.n, .int .i64 T.prot, .slice ta tn tc] 27)
  have HB0 := Lib.hid hb0
  have HL := Lib.hid hL
  have HS := Lib.hid hs
  have HT := Lib.hid hT
  have HTS := Lib.hid hts
  have HW := Lib.hid hw
  have HK := Lib.hid (known18 ((w.alloc (.cells #[.int .i64 c.a0, .int .i64 c.a1, .int .i64 c.a2, .int .i64 c.a3, .int .i64 c.page, .int .i64 c.a5, .int .i64 c.procs, .int .i64 c.regions, .int .i64 c.pages] 23)).alloc (.cells #[.int .i64 T.kind, .int .i64 T.pid, .int .i64 T.at_, .int .i64 T.n, .int .i64 T.prot, .slice ta tn tc] 27)))
  have HG0 := Lib.hid g0
  have HG1 := Lib.hid g1
  unfold Cf.val
  clear hb0 hL hs hT hts hw g0 g1
  go_enter Try.func5, Try.ntmps5
  go_wp2_with fail
  refine HK.out.mono ?_
  rintro e w1 ⟨rfl, hb1⟩
  have HB1 := Lib.hid (Below.call HB0.out hb1)
  have HC1 := Lib.hid (row_keep HG0.out hb1)
  have HO1 := Lib.hid (row_keep HG1.out hb1)
  clear hb1 HK
  have hcf := few_any a n cap L w1 (OpsAt.below HL.out HB1.out) (by have := HS.out; omega) (by have := HS.out; omega)
  have HF := Lib.hid hcf
  clear hcf
  go_wp2_with fail
  refine HF.out.mono ?_
  rintro e w1' ⟨rfl, rfl⟩
  cases hf1 : fewB L with
  | false =>
    go_wp2
    go_ret
    exact ⟨rfl, HB1.out⟩
  | true =>
    have HFL := Lib.hid hf1
    clear hf1
    obtain ⟨o0, o1, o2, o3, o4, o5⟩ := cells6 HO1.out
    have hbs := below_a w1 (.cells #[.int .i64 T.kind, .int .i64 T.pid, .int .i64 T.at_, .int .i64 T.n, .int .i64 T.prot, .slice ta tn tc] 27)
    have hone := ops_one (heap_alloc_new w1 (.cells #[.int .i64 T.kind, .int .i64 T.pid, .int .i64 T.at_, .int .i64 T.n, .int .i64 T.prot, .slice ta tn tc] 27)) (HT.out.below (Below.call HB1.out hbs)) HW.out
    have hc2 := few_any (some ⟨w1.heap.size, 0, none⟩) 1 1 [T] _ hone (by omega) (by simp [sumOp]; have := HT.out.len; have := HTS.out; omega)
    have HF2 := Lib.hid hc2
    have HB2 := Lib.hid (Below.call HB1.out hbs)
    have HC2 := Lib.hid (row_keep HC1.out hbs)
    have HO2 := Lib.hid (row_keep HO1.out hbs)
    clear hbs hone hc2
    go_wp2_with fail
    refine HF2.out.mono ?_
    rintro e w2' ⟨rfl, rfl⟩
    clear HF2
    cases hf2 : fewB [T] with
    | false =>
      go_wp2
      go_ret
      exact ⟨rfl, HB2.out⟩
    | true =>
      clear hf2
      obtain ⟨z0, z1, z2, z3, z4, z5, z6, z7, z8⟩ := cells9 HC2.out
      have hcs := small_any c (w1.alloc (.cells #[.int .i64 T.kind, .int .i64 T.pid, .int .i64 T.at_, .int .i64 T.n, .int .i64 T.prot, .slice ta tn tc] 27))
      unfold Cf.val at hcs
      have HSM := Lib.hid hcs
      clear hcs
      go_wp2_with fail
      refine HSM.out.mono ?_
      rintro e w3 ⟨rfl, hb3⟩
      have HB3 := Lib.hid (Below.call HB2.out hb3)
      have HC3 := Lib.hid (row_keep HC2.out hb3)
      have HO3 := Lib.hid (row_keep HO2.out hb3)
      clear hb3 HSM z0 z1 z2 z3 z4 z5 z6 z7 z8 o0 o1 o2 o3 o4 o5
      cases hsm : smallB c with
      | false =>
        go_wp2
        go_ret
        exact ⟨rfl, HB3.out⟩
      | true =>
        clear hsm
        obtain ⟨z0, z1, z2, z3, z4, z5, z6, z7, z8⟩ := cells9 HC3.out
        by_cases hok : CfOk c
        rotate_left
        · have hnw := newmc_no c w3 hok
          unfold Cf.val at hnw
          have HNW := Lib.hid hnw
          clear hnw
          go_wp2_with fail
          refine HNW.out.mono ?_
          rintro e w4 ⟨rfl, hb4⟩
          have HB4 := Lib.hid (Below.call HB3.out hb4)
          clear hb4
          go_wp2
          go_ret
          exact ⟨rfl, HB4.out⟩
        have hnw := newmc_yes c w3 hok
        unfold Cf.val at hnw
        have HNW := Lib.hid hnw
        clear hnw
        go_wp2_with fail
        refine HNW.out.mono ?_
        rintro e w4 ⟨hh, rfl, hm4, hown, hhm, hb4⟩
        have hops := ((OpsIn.of (OpsAt.below HL.out HB3.out) (No := hh.own) hown).tn (Tn.of (Q := fun _ => False) hb4) (fun _ h => h.elim))
        have hrun := run_any hm4 a n cap L hops (by have h1 := HL.out.len; have h2 := few_len HFL.out; omega)
        have HRUN := Lib.hid hrun
        have HB4 := Lib.hid (Below.call HB3.out hb4)
        have HO4 := Lib.hid (row_keep HO3.out hb4)
        have HM4 := Lib.hid hm4
        have HOWN := Lib.hid (fun k hk => Nat.le_trans HB3.out.size (hown k hk))
        have HOW3 := Lib.hid hown
        have HOLT : Hid (∀ k, hh.own k → k < w4.heap.size) := fun k hk => hm4.lt k hk
        have HS4 := Lib.hid hb4.size
        clear hrun hops hb4 hm4 hown hhm HNW z0 z1 z2 z3 z4 z5 z6 z7 z8
        go_wp2_with fail
        refine HRUN.out.mono ?_
        rintro e w5 ⟨v, vs, rfl, hR⟩
        obtain ⟨va, vc, rfl⟩ := hR.own.shape
        have hm5 : McIn w5 hh.own hh (runM (mc0 c) L) := by
          obtain ⟨NoX, h1, h2, _⟩ := hR.mc
          rw [List.take_of_length_le (by rw [HL.out.len]; exact Nat.le_refl _)] at h1
          exact h1.less h2 ⟨HM4.out.no.1, HM4.out.no.2.1, HM4.out.no.2.2.1⟩
        obtain ⟨st, hst⟩ : ∃ s, runM (mc0 c) L = s := ⟨_, rfl⟩
        rw [hst] at hm5
        have HB5 : Hid (Below w.heap.size w w5) := HB4.out.trans (hR.tn.below (fun k hk ho => by have := HOWN.out k ho; omega) HB4.out.size)
        have HO5 := Lib.hid (row_tn HO4.out hR.tn (fun hk => by have h1 := HOW3.out _ hk; have h2 := (Array.getElem?_eq_some_iff.1 HO3.out).1; omega))
        have hs5 := hR.tn.size
        have HS5 := Lib.hid hs5
        have htw := twin_any hm5
        have HTW := Lib.hid htw
        have HM5 := Lib.hid hm5
        clear hR hst hm5 HRUN htw hs5
        go_wp2_with fail
        refine HTW.out.mono ?_
        rintro e w6 ⟨ht, rfl, hm6t, hown6, hhm6, hb6⟩
        obtain ⟨NoD, hNoD⟩ : ∃ X : Nat → Prop, X = fun k => hh.own k ∨ ht.own k := ⟨_, rfl⟩
        rw [← hNoD] at hm6t
        have hm6 : McIn w6 NoD hh st := HM5.out.reno hb6 (fun k hk => by rw [hNoD]; exact .inl hk) (fun k hk => by rw [hNoD] at hk; exact hk.imp id (hown6 k)) (fun k hk => hm6t.lt k hk)
        have HAP : Hid (∀ k, hh.own k → NoD k ∧ ¬ ht.own k) := fun k hk => ⟨by rw [hNoD]; exact .inl hk, fun h2 => by have h3 := hown6 k h2; have h4 := HOLT.out k hk; have h5 := HS5.out; omega⟩
        have HNOD : Hid (∀ k, NoD k → w.heap.size ≤ k) := fun k hk => by rw [hNoD] at hk; exact hk.elim (fun hk => HOWN.out k hk) (fun hk => Nat.le_trans HB5.out.size (hown6 k hk))
        have HM6 := Lib.hid hm6
        have HMT6 := Lib.hid hm6t
        have HB6 := Lib.hid (Below.call HB5.out hb6)
        have hrow6 := row_keep HO5.out hb6
        obtain ⟨o0, o1, o2, o3, o4, o5⟩ := cells6 hrow6
        have HO6 := Lib.hid hrow6
        have hdo := do_any hm6 T.o ta tn tc HW.out.2.1 HW.out.2.2.1 HW.out.2.2.2.1 (HT.out.below HB6.out) (fun x hx h0 hk => by have h1 := HT.out.lt x hx h0; have h2 := HNOD.out _ hk; omega)
        obtain ⟨s2, hs2⟩ : ∃ x, stepM st T.o = x := ⟨_, rfl⟩
        have hc2 : s2.c = st.c := by rw [← hs2]; exact stepM_c st T.o
        have HC2c := Lib.hid hc2
        have HS2 := Lib.hid hs2
        unfold OpP.o at hdo
        have HDO := Lib.hid hdo
        clear hm6 hm6t hown6 hhm6 hb6 hrow6 hdo hNoD HTW HM5 hs2 hc2
        go_wp2_with fail
        refine HDO.out.mono ?_
        rintro e w7 ⟨dv, pv, rfl, hod, hop, hm7, ht7⟩
        have hs2 := HS2.out
        unfold OpP.o at hs2
        rw [hs2] at hm7
        have HM7 := Lib.hid hm7
        have HMT7 := Lib.hid (HMT6.out.tn ht7 (fun k hk => HAP.out k hk))
        have HB7 : Hid (Below w.heap.size w w7) := HB6.out.trans (ht7.below (fun k hk ho => by have h1 := HOWN.out k ho; omega) HB6.out.size)
        have HD1 := Lib.hid (delta_any HM7.out HMT7.out)
        obtain ⟨D, hD⟩ : ∃ x, deltaM s2 st = x := ⟨_, rfl⟩
        rw [hD] at HD1
        have HDD := Lib.hid hD
        have hdb := dsum_le HM7.out HMT7.out 64
        have hdb : D ≤ 12800000 := by rw [← hD]; exact hdb
        clear hod hop hm7 ht7 hs2 hD HDO o0 o1 o2 o3 o4 o5
        go_wp2_with fail
        refine HD1.out.mono ?_
        rintro e w8 ⟨rfl, hb8⟩
        have HB8 := Lib.hid (Below.call HB7.out hb8)
        have HM8 := Lib.hid (HM7.out.below hb8)
        have HMT8 := Lib.hid (HMT7.out.below hb8)
        have hd2 := delta_any HMT8.out HM8.out
        rw [deltaM_symm HMT8.out.ok HM8.out.ok, HDD.out] at hd2
        have HD2 := Lib.hid hd2
        clear hb8 hd2 HD1
        go_wp2_with fail
        refine HD2.out.mono ?_
        rintro e w9 ⟨rfl, hb9⟩
        have HB9 := Lib.hid (Below.call HB8.out hb9)
        have HM9 := Lib.hid (HM8.out.below hb9)
        have HMT9 := Lib.hid (HMT8.out.below hb9)
        clear hb9 HD2
        have hle := delta_le HM9.out.ok HMT9.out.ok
        rw [HDD.out] at hle
        have hw1 := weight_bd HM9.out
        have hw2 := weight_bd HMT9.out
        obtain ⟨W1, hW1⟩ : ∃ x, weightM s2 = x := ⟨_, rfl⟩
        obtain ⟨W2, hW2⟩ : ∃ x, weightM st = x := ⟨_, rfl⟩
        rw [hW1] at hle hw1
        rw [hW2] at hle hw2
        obtain ⟨hw1a, hw1b⟩ := hw1
        obtain ⟨hw2a, hw2b⟩ := hw2
        have hwr : IntKind.i64.wrap (W1 + W2) = W1 + W2 := by rw [IntKind.wrap_i64]; omega
        have HW1 := Lib.hid hW1
        have HW2 := Lib.hid hW2
        have dle : decide ((D : Int) ≤ W1 + W2) = true := decide_eq_true hle
        clear hW1 hW2
        by_cases h0 : D = 0
        rotate_left
        · have b0 : ((D : Int) == 0) = false := by simp; omega
          have dgt : decide ((0 : Int) < (D : Int)) = true := decide_eq_true (by omega)
          have dgn : decide (0 < D) = true := decide_eq_true (by omega)
          have hpos : 0 < D := by omega
          have HM10 := HM9
          have HMT10 := HMT9
          have HB10 := HB9
          have hd3 := delta_any HM10.out HM10.out
          rw [deltaM_self HM10.out.ok] at hd3
          have HD3 := Lib.hid hd3
          clear hd3 h0 hle
          go_wp2_with fail
          refine HD3.out.mono ?_
          rintro e w11 ⟨rfl, hb11⟩
          have HB11 := Lib.hid (Below.call HB10.out hb11)
          have HM11 := Lib.hid (HM10.out.below hb11)
          have HMT11 := Lib.hid (HMT10.out.below hb11)
          have hwa := weight_any HM11.out
          rw [HW1.out] at hwa
          have HWA := Lib.hid hwa
          clear hb11 hwa HD3
          go_wp2_with fail
          refine HWA.out.mono ?_
          rintro e w12 ⟨rfl, hb12⟩
          have HB12 := Lib.hid (Below.call HB11.out hb12)
          have HM12 := Lib.hid (HM11.out.below hb12)
          have HMT12 := Lib.hid (HMT11.out.below hb12)
          have hwa := weight_any HMT12.out
          rw [HW2.out] at hwa
          have HWB := Lib.hid hwa
          clear hb12 hwa HWA
          go_wp2_with fail
          refine HWB.out.mono ?_
          rintro e w13 ⟨rfl, hb13⟩
          have HB13 := Lib.hid (Below.call HB12.out hb13)
          have HB13b := Lib.hid hb13
          clear hb13 HWB
          go_wp2_with fail
          go_ret
          exact ⟨by first | rfl | (simp; done) | (simp; omega), HB13.out⟩
        have hS := delta_same HM9.out.ok HMT9.out.ok HC2c.out (HDD.out.trans h0)
        have hWW := delta_weight HM9.out.ok HMT9.out.ok HC2c.out (HDD.out.trans h0)
        rw [HW1.out, HW2.out] at hWW
        have HWW := Lib.hid hWW
        have HSA := Lib.hid hS
        have b0 : ((D : Int) == 0) = true := by simp; omega
        have dgt : decide ((0 : Int) < (D : Int)) = false := decide_eq_false (by omega)
        have dgn : decide (0 < D) = false := decide_eq_false (by omega)
        have hpos : ¬ 0 < D := by omega
        have bww : (W1 == W2) = true := by simpa using hWW
        have HCS := Lib.hid (same_any HM9.out HMT9.out)
        clear hS hWW h0 hle
        go_wp2_with fail
        refine HCS.out.mono ?_
        rintro e w10 ⟨b, rfl, hb, hb10⟩
        obtain rfl : b = true := hb.2 HSA.out
        have HB10 := Lib.hid (Below.call HB9.out hb10)
        have HM10 := Lib.hid (HM9.out.below hb10)
        have HMT10 := Lib.hid (HMT9.out.below hb10)
        have hd3 := delta_any HM10.out HM10.out
        rw [deltaM_self HM10.out.ok] at hd3
        have HD3 := Lib.hid hd3
        clear hd3 hb10 hb HCS
        go_wp2_with fail
        refine HD3.out.mono ?_
        rintro e w11 ⟨rfl, hb11⟩
        have HB11 := Lib.hid (Below.call HB10.out hb11)
        have HM11 := Lib.hid (HM10.out.below hb11)
        have HMT11 := Lib.hid (HMT10.out.below hb11)
        have hwa := weight_any HM11.out
        rw [HW1.out] at hwa
        have HWA := Lib.hid hwa
        clear hb11 hwa HD3
        go_wp2_with fail
        refine HWA.out.mono ?_
        rintro e w12 ⟨rfl, hb12⟩
        have HB12 := Lib.hid (Below.call HB11.out hb12)
        have HM12 := Lib.hid (HM11.out.below hb12)
        have HMT12 := Lib.hid (HMT11.out.below hb12)
        have hwa := weight_any HMT12.out
        rw [HW2.out] at hwa
        have HWB := Lib.hid hwa
        clear hb12 hwa HWA
        go_wp2_with fail
        refine HWB.out.mono ?_
        rintro e w13 ⟨rfl, hb13⟩
        have HB13 := Lib.hid (Below.call HB12.out hb13)
        have HB13b := Lib.hid hb13
        clear hb13 HWB
        go_wp2_with fail
        have HM13 := Lib.hid (HM12.out.below HB13b.out)
        have HMT13 := Lib.hid (HMT12.out.below HB13b.out)
        have hwa := weight_any HM13.out
        rw [HW1.out] at hwa
        have HWA := Lib.hid hwa
        clear hwa
        go_wp2_with fail
        refine HWA.out.mono ?_
        rintro e w14 ⟨rfl, hb14⟩
        have HB14 := Lib.hid (Below.call HB13.out hb14)
        have HMT14 := Lib.hid (HMT13.out.below hb14)
        have hwa := weight_any HMT14.out
        rw [HW2.out] at hwa
        have HWB := Lib.hid hwa
        clear hb14 hwa HWA
        go_wp2_with fail
        refine HWB.out.mono ?_
        rintro e w15 ⟨rfl, hb15⟩
        have HB15 := Lib.hid (Below.call HB14.out hb15)
        clear hb15 HWB
        go_wp2
        go_ret
        exact ⟨rfl, HB15.out⟩
end Go.Proofs.Ytnbjodoajfkekaa

namespace Go.Proofs.Ytnbjodoajfkekaa.modelDelta
open Go.ChangeShapes Go.WideShapes Go.ChangeAt Go.RowKit
set_option linter.unusedVariables false

set_option maxRecDepth 100000 in
theorem own : ownKnob Try.prog.godebug = none := by kernel_rfl
set_option maxRecDepth 100000 in
theorem laidOut : laidOutB Try.prog = true := by kernel_rfl

set_option maxRecDepth 100000 in
theorem lifted (os : Os) (started : os.Started) (H : Type) (enc : TypeId × Value → H) (F : Stop.Interp) :
    ReturnsInHanded {} Try.checked os 5 .any ((Rows.OpenSpec.upto Rows.modelDeltaSpec).pre6 enc Try.prog Try.f5 Rows.modelDeltaUptoRow.domain false) (((Rows.OpenSpec.upto Rows.modelDeltaSpec).at F).post enc Try.prog Try.f5 false true false false) := by
  refine returnsInHanded_of_cond (C := Try.checked) (s := Rows.OpenSpec.upto Rows.modelDeltaSpec) (k := Rows.uptoSmall) rfl own started (by kernel_rfl) Try.func5
    (OpenSpec.witness (enc := enc) (C := Try.checked) (s := Rows.OpenSpec.upto Rows.modelDeltaSpec) (k := Rows.uptoSmall) rfl false ⟨#[], #[.agg #[.int .i64 0, .int .i64 0, .int .i64 0, .int .i64 0, .int .i64 0, .int .i64 0, .int .i64 0, .int .i64 0, .int .i64 0], .slice none 0 0, .agg #[.int .i64 0, .int .i64 0, .int .i64 0, .int .i64 0, .int .i64 0, .slice none 0 0]], []⟩ 8 (by kernel_rfl) (by kernel_rfl) (by kernel_rfl)
      (x := ([.agg [.lit (.int .i64 0), .lit (.int .i64 0), .lit (.int .i64 0), .lit (.int .i64 0), .lit (.int .i64 0), .lit (.int .i64 0), .lit (.int .i64 0), .lit (.int .i64 0), .lit (.int .i64 0)], .nil, .agg [.lit (.int .i64 0), .lit (.int .i64 0), .lit (.int .i64 0), .lit (.int .i64 0), .lit (.int .i64 0), .nil]], [], [])) (by kernel_rfl) rfl (by kernel_rfl)) ?_
  intro W base args ds gs before hval0 hW hcnd hk _
  have hval : ∀ (j : Nat) t v, Try.f5.params[j]? = some t → args[j]? = some v → Value.okWide Try.prog W .any base t v := hval0
  have hW' := hW
  obtain ⟨p, q, hA0, hV, rfl, hfz, hnd⟩ := hW
  have hA : DataW.TrodAll enc Try.prog W 0 (fun _ => true) true Try.f5.params.toList args.toList ds p := hA0
  rw [Try.params5] at hA hval
  obtain ⟨v0, vs0, d0, ds0, p0, q0, hargs, rfl, rfl, h0, r0⟩ := trodAll_cons hA
  obtain ⟨v1, vs1, d1, ds1, p1, q1, rfl, rfl, rfl, h1, r1⟩ := trodAll_cons r0
  obtain ⟨v2, vs2, d2, ds2, p2, q2, rfl, rfl, rfl, h2, r2⟩ := trodAll_cons r1
  obtain ⟨rfl, rfl, rfl⟩ := trodAll_nil r2
  obtain rfl : args = #[v0, v1, v2] := by cases args; simp_all
  obtain ⟨rfl, rfl⟩ := trodVars_none hV
  have k0 := h0
  have lt0 : ∀ x ∈ p0, x.block < W.heap.size := by obtain ⟨m, hm⟩ := k0; exact DataW.trod_lt m _ _ _ hm
  obtain ⟨a0_0, a0_1, a0_2, a0_3, a0_4, a0_5, a0_6, a0_7, a0_8, rfl⟩ := open_nine Try.underlying23 (by kernel_rfl) (by kernel_rfl) Try.underlying3 (hval 0 23 v0 rfl rfl) h0
  obtain ⟨a1, len1, cap1, rfl⟩ := okWide_slice Try.underlying24 (hval 1 24 v1 rfl rfl)
  have k1 := h1
  have lt1 : ∀ x ∈ p1, x.block < W.heap.size := by obtain ⟨m, hm⟩ := k1; exact DataW.trod_lt m _ _ _ hm
  obtain ⟨z1, w1, y1⟩ := ops_open h1
  have k2 := h2
  have lt2 : ∀ x ∈ p2, x.block < W.heap.size := by obtain ⟨m, hm⟩ := k2; exact DataW.trod_lt m _ _ _ hm
  obtain ⟨z2, a2, len2, cap2, rfl, w2, x2, y2⟩ := op_val (hval 2 27 v2 rfl rfl) h2
  have l2 := w2.len
  have b1 := bulk_part (l := [d0, d1, d2]) (d := d1) (by simp)
  have b2 := bulk_part (l := [d0, d1, d2]) (d := d2) (by simp)
  clear hA0 hval0
  refine (modelDelta_walk ⟨a0_0, a0_1, a0_2, a0_3, a0_4, a0_5, a0_6, a0_7, a0_8⟩ a1 len1 cap1 z1 z2 a2 len2 cap2 W w1 (by have := bulk_bound hk; simp only [List.append_nil] at this; omega) w2 (by have := bulk_bound hk; simp only [List.append_nil] at this; omega) x2).mono fun e W' ⟨he, bel⟩ => ?_
  subst he
  exact ⟨_, rfl, _, _, _, [], _, [], hW', trodAll_mk1 (shut_bool Try.underlying4 _), (trodAll_cons_mk (Below.trod laidOut (by kernel_rfl) (of_decide_eq_true (by kernel_rfl)) k0 bel lt0) (trodAll_cons_mk (Below.trod laidOut (by kernel_rfl) (of_decide_eq_true (by kernel_rfl)) k1 bel lt1) (trodAll_cons_mk (Below.trod laidOut (by kernel_rfl) (of_decide_eq_true (by kernel_rfl)) k2 bel lt2) trodAll_mk0))), rfl, bel.frame _, fun h => by cases h⟩

set_option maxRecDepth 100000 in
theorem over : Rows.modelDeltaUptoRow.holds Try.pinned (Rows.OpenSpec.upto Rows.modelDeltaSpec) :=
  OpenClaim.holds_of_cond 5 Try.f5 rfl rfl rfl rfl rfl rfl rfl ⟨rfl, rfl, rfl, rfl, rfl⟩ rfl rfl rfl rfl rfl (by kernel_rfl) Try.func5 (by kernel_rfl)
    (of_decide_eq_true (by kernel_rfl)) (by unfold Func.isWrapper; first | (rw [if_pos (by decide +kernel)]; kernel_rfl) | (rw [if_neg (by decide +kernel)]; exact ⟨rfl, rfl⟩))
    (fun os started H enc _ F => lifted os started H enc F)

/-- ModelDelta holds for every input of a bulk that fits. -/
theorem proved : Rows.ModelDeltaUptoSaid := over
end Go.Proofs.Ytnbjodoajfkekaa.modelDelta
