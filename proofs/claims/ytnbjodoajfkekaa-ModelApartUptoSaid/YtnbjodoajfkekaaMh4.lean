/- The walk of almanaclaw18.ModelApart. ModelApart: for every input the law returns true, and every argument reads as it did: the row round the walk. -/
import Derived.Test.YtnbjodoajfkekaaMh3
import Derived.WalkKit
import Derived.ProofKit
import Derived.BigQuiet
import Derived.Deep.QuietTactic
import Derived.Lib.Hide
import Derived.RegionTactic
import Derived.Test.YtnbjodoajfkekaaMj22
import Derived.JoinedCond
import Derived.Test.YtnbjodoajfkekaaMj21
import Derived.Test.YtnbjodoajfkekaaRows
import Derived.OpenShut
import Derived.ShutString
import Derived.ChangeOld
import Derived.Below
namespace Go.Proofs.Ytnbjodoajfkekaa
open Go.RowKit
set_option linter.unusedSimpArgs false
set_option maxHeartbeats 4000000 in
set_option maxRecDepth 100000 in
theorem modelApart_walk (c : Cf) (a : Option Addr) (n cap : Nat) (L : List OpP) (T : OpP) (ta : Option Addr) (tn tc : Nat) (w : World) (hL : OpsAt w a n L) (hs : sumOp L + n ≤ 1048576) (hT : RdAt .u8 w ta tn tc T.data) (hts : tn ≤ 1048576)
    (hw : (Lit.int .i64 T.kind).wf = true ∧ (Lit.int .i64 T.pid).wf = true ∧ (Lit.int .i64 T.at_).wf = true ∧ (Lit.int .i64 T.n).wf = true ∧ (Lit.int .i64 T.prot).wf = true) :
    Calls Try.prog 4 #[c.val, .slice a n cap, .agg #[.int .i64 T.kind, .int .i64 T.pid, .int .i64 T.at_, .int .i64 T.n, .int .i64 T.prot, .slice ta tn tc]] w fun e w' => e = .returned (.bool true) ∧ Below w.heap.size w w' := by
  have hb0 := below_a2 w (.cells #[.int .i64 c.a0, .int .i64 c.a1, .int .i64 c.a2, .int .i64 c.a3, .int .i64 c.page, .int .i64 c.a5, .int .i64 c.procs, .int .i64 c.regions, .int .i64 c.pages] 23) (.cells #[.int .i64 T.kind, .int .i64 T.pid, .int .i64 T.at_, .int .i64 T.n, .int .i64 T.prot, .slice ta tn tc] 27)
  have g0 := al2_0 w (.cells #[.int .i64 c.a0, .int .i64 c.a1, .int .i64 c.a2, .int .i64 c.a3, .int .i64 c.page, .int .i64 c.a5, .int .i64 c.procs, .int .i64 c.regions, .int .i64 c.pages] 23) (.cells #[.int .i64 T.kind, .int .i64 T.pid, .int .i64 T.at_, .int .i64 T.n, .int .i64 T.prot, .slice ta tn tc] 27)
  have g1 := al2_1 w (.cells #[.int .i64 c.a0, .int .i64 c.a1, .int .i64 c.a2, .int .i64 c.a3, .int .i64 c.page, .int .i64 c.a5, .int .i64 c.procs, .int .i64 c.regions, .int .i64 c.pages] 23) (.cells #[.int .i64 T.kind, .int .i64 T.pid, .int .i64 T.at_, .int .i64 T.n, .int .i64 T.prot, .slice ta tn tc] 27)
  have HB0 := Lib.hid hb0
  have HL := Lib.hid hL
  have HS := Lib.hid hs
  have HT := Lib.hid hT
  have HTS := Lib.hid hts
  have HW := Lib.hid hw
  have HK := Lib.hid (known18 ((w.alloc (.cells #[.int .i64 c.a0, .int .i64 c.a1, .int .i64 c.a2, .int .i64 c.a3, .int .i64 c.page, .int .i64 c.a5, .int .i64 c.procs, .int .i64 c.regions, .int .i64 c.pages] 23)).alloc (.cells #[.int .i64 T.kind, .int .i64 T.pid, .int .i64 T.at_, .int .i64 T.n, .int .i64 T.prot, .slice ta tn tc] 27)))
  have HG0 := Lib.hid g0
  have HG1 := Lib.hid g1
  unfold Cf.val
  clear hb0 hL hs hT hts hw g0 g1
  go_enter Try.func4, Try.ntmps4
  go_wp2_with fail
  refine HK.out.mono ?_
  rintro e w1 ⟨rfl, hb1⟩
  have HB1 := Lib.hid (Below.call HB0.out hb1)
  have HC1 := Lib.hid (row_keep HG0.out hb1)
  have HO1 := Lib.hid (row_keep HG1.out hb1)
  clear hb1 HK
  have hcf := few_any a n cap L w1 (OpsAt.below HL.out HB1.out) (by have := HS.out; omega) (by have := HS.out; omega)
  have HF := Lib.hid hcf
  clear hcf
  go_wp2_with fail
  refine HF.out.mono ?_
  rintro e w1' ⟨rfl, rfl⟩
  cases hf1 : fewB L with
  | false =>
    go_wp2
    go_ret
    exact ⟨rfl, HB1.out⟩
  | true =>
    have HFL := Lib.hid hf1
    clear hf1
    obtain ⟨o0, o1, o2, o3, o4, o5⟩ := cells6 HO1.out
    have hbs := below_a w1 (.cells #[.int .i64 T.kind, .int .i64 T.pid, .int .i64 T.at_, .int .i64 T.n, .int .i64 T.prot, .slice ta tn tc] 27)
    have hone := ops_one (heap_alloc_new w1 (.cells #[.int .i64 T.kind, .int .i64 T.pid, .int .i64 T.at_, .int .i64 T.n, .int .i64 T.prot, .slice ta tn tc] 27)) (HT.out.below (Below.call HB1.out hbs)) HW.out
    have hc2 := few_any (some ⟨w1.heap.size, 0, none⟩) 1 1 [T] _ hone (by omega) (by simp [sumOp]; have := HT.out.len; have := HTS.out; omega)
    have HF2 := Lib.hid hc2
    have HB2 := Lib.hid (Below.call HB1.out hbs)
    have HC2 := Lib.hid (row_keep HC1.out hbs)
    have HO2 := Lib.hid (row_keep HO1.out hbs)
    clear hbs hone hc2
    go_wp2_with fail
    refine HF2.out.mono ?_
    rintro e w2' ⟨rfl, rfl⟩
    clear HF2
    cases hf2 : fewB [T] with
    | false =>
      go_wp2
      go_ret
      exact ⟨rfl, HB2.out⟩
    | true =>
      clear hf2
      obtain ⟨z0, z1, z2, z3, z4, z5, z6, z7, z8⟩ := cells9 HC2.out
      have hcs := small_any c (w1.alloc (.cells #[.int .i64 T.kind, .int .i64 T.pid, .int .i64 T.at_, .int .i64 T.n, .int .i64 T.prot, .slice ta tn tc] 27))
      unfold Cf.val at hcs
      have HSM := Lib.hid hcs
      clear hcs
      go_wp2_with fail
      refine HSM.out.mono ?_
      rintro e w3 ⟨rfl, hb3⟩
      have HB3 := Lib.hid (Below.call HB2.out hb3)
      have HC3 := Lib.hid (row_keep HC2.out hb3)
      have HO3 := Lib.hid (row_keep HO2.out hb3)
      clear hb3 HSM z0 z1 z2 z3 z4 z5 z6 z7 z8 o0 o1 o2 o3 o4 o5
      cases hsm : smallB c with
      | false =>
        go_wp2
        go_ret
        exact ⟨rfl, HB3.out⟩
      | true =>
        clear hsm
        obtain ⟨z0, z1, z2, z3, z4, z5, z6, z7, z8⟩ := cells9 HC3.out
        by_cases hok : CfOk c
        rotate_left
        · have hnw := newmc_no c w3 hok
          unfold Cf.val at hnw
          have HNW := Lib.hid hnw
          clear hnw
          go_wp2_with fail
          refine HNW.out.mono ?_
          rintro e w4 ⟨rfl, hb4⟩
          have HB4 := Lib.hid (Below.call HB3.out hb4)
          clear hb4
          go_wp2
          go_ret
          exact ⟨rfl, HB4.out⟩
        have hnw := newmc_yes c w3 hok
        unfold Cf.val at hnw
        have HNW := Lib.hid hnw
        clear hnw
        go_wp2_with fail
        refine HNW.out.mono ?_
        rintro e w4 ⟨hh, rfl, hm4, hown, hhm, hb4⟩
        have hops := ((OpsIn.of (OpsAt.below HL.out HB3.out) (No := hh.own) hown).tn (Tn.of (Q := fun _ => False) hb4) (fun _ h => h.elim))
        have hrun := run_any hm4 a n cap L hops (by have h1 := HL.out.len; have h2 := few_len HFL.out; omega)
        have HRUN := Lib.hid hrun
        have HB4 := Lib.hid (Below.call HB3.out hb4)
        have HO4 := Lib.hid (row_keep HO3.out hb4)
        have HM4 := Lib.hid hm4
        have HOWN := Lib.hid (fun k hk => Nat.le_trans HB3.out.size (hown k hk))
        have HOW3 := Lib.hid hown
        have HOLT : Hid (∀ k, hh.own k → k < w4.heap.size) := fun k hk => hm4.lt k hk
        have HS4 := Lib.hid hb4.size
        clear hrun hops hb4 hm4 hown hhm HNW z0 z1 z2 z3 z4 z5 z6 z7 z8
        go_wp2_with fail
        refine HRUN.out.mono ?_
        rintro e w5 ⟨v, vs, rfl, hR⟩
        obtain ⟨va, vc, rfl⟩ := hR.own.shape
        have hm5 : McIn w5 hh.own hh (runM (mc0 c) L) := by
          obtain ⟨NoX, h1, h2, _⟩ := hR.mc
          rw [List.take_of_length_le (by rw [HL.out.len]; exact Nat.le_refl _)] at h1
          exact h1.less h2 ⟨HM4.out.no.1, HM4.out.no.2.1, HM4.out.no.2.2.1⟩
        obtain ⟨st, hst⟩ : ∃ s, runM (mc0 c) L = s := ⟨_, rfl⟩
        rw [hst] at hm5
        have HB5 : Hid (Below w.heap.size w w5) := HB4.out.trans (hR.tn.below (fun k hk ho => by have := HOWN.out k ho; omega) HB4.out.size)
        have HO5 := Lib.hid (row_tn HO4.out hR.tn (fun hk => by have h1 := HOW3.out _ hk; have h2 := (Array.getElem?_eq_some_iff.1 HO3.out).1; omega))
        have hs5 := hR.tn.size
        have HS5 := Lib.hid hs5
        have htw := twin_any hm5
        have HTW := Lib.hid htw
        have HM5 := Lib.hid hm5
        clear hR hst hm5 HRUN htw hs5
        go_wp2_with fail
        refine HTW.out.mono ?_
        rintro e w6 ⟨ht, rfl, hm6t, hown6, hhm6, hb6⟩
        obtain ⟨NoD, hNoD⟩ : ∃ X : Nat → Prop, X = fun k => hh.own k ∨ ht.own k := ⟨_, rfl⟩
        rw [← hNoD] at hm6t
        have hm6 : McIn w6 NoD hh st := HM5.out.reno hb6 (fun k hk => by rw [hNoD]; exact .inl hk) (fun k hk => by rw [hNoD] at hk; exact hk.imp id (hown6 k)) (fun k hk => hm6t.lt k hk)
        have HAP : Hid (∀ k, hh.own k → NoD k ∧ ¬ ht.own k) := fun k hk => ⟨by rw [hNoD]; exact .inl hk, fun h2 => by have h3 := hown6 k h2; have h4 := HOLT.out k hk; have h5 := HS5.out; omega⟩
        have HNOD : Hid (∀ k, NoD k → w.heap.size ≤ k) := fun k hk => by rw [hNoD] at hk; exact hk.elim (fun hk => HOWN.out k hk) (fun hk => Nat.le_trans HB5.out.size (hown6 k hk))
        have HM6 := Lib.hid hm6
        have HMT6 := Lib.hid hm6t
        have HB6 := Lib.hid (Below.call HB5.out hb6)
        have hrow6 := row_keep HO5.out hb6
        obtain ⟨o0, o1, o2, o3, o4, o5⟩ := cells6 hrow6
        have HO6 := Lib.hid hrow6
        have hdo := do_any hm6 T.o ta tn tc HW.out.2.1 HW.out.2.2.1 HW.out.2.2.2.1 (HT.out.below HB6.out) (fun x hx h0 hk => by have h1 := HT.out.lt x hx h0; have h2 := HNOD.out _ hk; omega)
        obtain ⟨s2, hs2⟩ : ∃ x, stepM st T.o = x := ⟨_, rfl⟩
        have hc2 : s2.c = st.c := by rw [← hs2]; exact stepM_c st T.o
        have HC2c := Lib.hid hc2
        have HS2 := Lib.hid hs2
        unfold OpP.o at hdo
        have HDO := Lib.hid hdo
        clear hm6 hm6t hown6 hhm6 hb6 hrow6 hdo hNoD HTW HM5 hs2 hc2
        go_wp2_with fail
        refine HDO.out.mono ?_
        rintro e w7 ⟨dv, pv, rfl, hod, hop, hm7, ht7⟩
        have hs2 := HS2.out
        unfold OpP.o at hs2
        rw [hs2] at hm7
        have HM7 := Lib.hid hm7
        have HMT7 := Lib.hid (HMT6.out.tn ht7 (fun k hk => HAP.out k hk))
        have HB7 : Hid (Below w.heap.size w w7) := HB6.out.trans (ht7.below (fun k hk ho => by have h1 := HOWN.out k ho; omega) HB6.out.size)
        obtain ⟨da, dc, rfl⟩ := hod.shape
        obtain ⟨pa, pc, rfl⟩ := hop.shape
        obtain ⟨A, hA⟩ : ∃ x, ansM st ⟨T.kind, T.pid, T.at_, T.n, T.prot, T.data⟩ = x := ⟨_, rfl⟩
        have he := ans_err st ⟨T.kind, T.pid, T.at_, T.n, T.prot, T.data⟩
        rw [hA] at he ⊢
        obtain ⟨E, pE, dE, lE⟩ := A
        replace he : E = checkE st ⟨T.kind, T.pid, T.at_, T.n, T.prot, T.data⟩ := he
        have HE := Lib.hid he
        have hrow7 := row_tn HO6.out ht7 (fun hk => by have h1 := HOWN.out _ hk; have h2 := (Array.getElem?_eq_some_iff.1 HO3.out).1; have h3 := HOW3.out _ hk; omega)
        dsimp only
        have hb8 := below_a w7 (.cells #[.int .i64 E, .int .i64 pE, .slice da dE.length dc, .slice pa lE.length pc] 40)
        have hr8 := heap_alloc_new w7 (.cells #[.int .i64 E, .int .i64 pE, .slice da dE.length dc, .slice pa lE.length pc] 40)
        obtain ⟨w8, hw8⟩ : ∃ x, w7.alloc (.cells #[.int .i64 E, .int .i64 pE, .slice da dE.length dc, .slice pa lE.length pc] 40) = x := ⟨_, rfl⟩
        obtain ⟨ab, hab⟩ : ∃ x, w7.heap.size = x := ⟨_, rfl⟩
        rw [hw8] at hb8 hr8
        rw [hab] at hr8
        obtain ⟨y0, y1, y2, y3⟩ := cells4a hr8
        have HB8 := Lib.hid (Below.call HB7.out hb8)
        have HM8 := Lib.hid (HM7.out.below hb8)
        have HMT8 := Lib.hid (HMT7.out.below hb8)
        have hrow8 := row_keep hrow7 hb8
        obtain ⟨o0, o1, o2, o3, o4, o5⟩ := cells6 hrow8
        have HROW8 := Lib.hid hrow8
        have HW8 := Lib.hid hw8
        clear hod hop hm7 ht7 HDO hA he hrow7 hb8 hr8 hw8 hrow8 hs2
        have HS2b : Hid (stepM st ⟨T.kind, T.pid, T.at_, T.n, T.prot, T.data⟩ = s2) := HS2.out
        by_cases hE0 : E = 0
        rotate_left
        · have hst : s2 = st := by
            rw [← HS2b.out]
            exact step_same (.inl (by rw [← HE.out]; exact hE0))
          subst hst
          have q1 : decide (E = 0) = false := decide_eq_false hE0
          have q2 : (E != 0) = true := by simpa using hE0
          have q3 : (E == 0) = false := by simpa using hE0
          clear hE0
          go_wp2_with fail
          rw [HW8.out]
          have HCS := Lib.hid (same_any HM8.out HMT8.out)
          go_wp2_with fail
          refine HCS.out.mono ?_
          rintro e w9 ⟨b, rfl, hb, hb9⟩
          obtain rfl : b = true := hb.2 (SameP.refl _)
          have HB9 := Lib.hid (Below.call HB8.out hb9)
          have HM9 := Lib.hid (HM8.out.below hb9)
          have HMT9 := Lib.hid (HMT8.out.below hb9)
          have HCS2 := Lib.hid (same_any HMT9.out HM9.out)
          clear hb9 hb HCS
          go_wp2_with fail
          refine HCS2.out.mono ?_
          rintro e w10 ⟨b, rfl, hb, hb10⟩
          obtain rfl : b = true := hb.2 (SameP.refl _)
          have HB10 := Lib.hid (Below.call HB9.out hb10)
          have HM10 := Lib.hid (HM9.out.below hb10)
          have HMT10 := Lib.hid (HMT9.out.below hb10)
          have hwa := weight_any HM10.out
          have hwb := fun (wx : World) (hx : Below w10.heap.size w10 wx) => weight_any (HMT10.out.below hx)
          obtain ⟨W1, hW1⟩ : ∃ x, weightM s2 = x := ⟨_, rfl⟩
          rw [hW1] at hwa
          simp only [hW1] at hwb
          have HWA := Lib.hid hwa
          have HWB := Lib.hid hwb
          clear hb10 hb HCS2 hwa hwb hW1
          go_wp2_with fail
          refine HWA.out.mono ?_
          rintro e w11 ⟨rfl, hb11⟩
          have HB11 := Lib.hid (Below.call HB10.out hb11)
          have HWC := Lib.hid (HWB.out w11 hb11)
          clear hb11 HWA HWB
          go_wp2_with fail
          refine HWC.out.mono ?_
          rintro e w12 ⟨rfl, hb12⟩
          have HB12 := Lib.hid (Below.call HB11.out hb12)
          clear hb12 HWC
          go_wp2
          go_ret
          exact ⟨by first | rfl | (simp; done), HB12.out⟩
        subst hE0
        have HCH := Lib.hid (changes_any T.kind w8)
        by_cases hk : T.kind = 5 ∨ T.kind = 9
        · have hst : s2 = st := by
            rw [← HS2b.out]
            exact step_same (.inr hk)
          subst hst
          have hch : decide (T.kind = 5 ∨ T.kind = 9) = true := decide_eq_true hk
          rw [hch] at HCH
          clear hch hk
          go_wp2_with (rw [HW8.out])
          refine HCH.out.mono ?_
          rintro e w8' ⟨rfl, rfl⟩
          have HCS := Lib.hid (same_any HM8.out HMT8.out)
          go_wp2_with fail
          refine HCS.out.mono ?_
          rintro e w9 ⟨b, rfl, hb, hb9⟩
          obtain rfl : b = true := hb.2 (SameP.refl _)
          have HB9 := Lib.hid (Below.call HB8.out hb9)
          have HM9 := Lib.hid (HM8.out.below hb9)
          have HMT9 := Lib.hid (HMT8.out.below hb9)
          have HCS2 := Lib.hid (same_any HMT9.out HM9.out)
          clear hb9 hb HCS
          go_wp2_with fail
          refine HCS2.out.mono ?_
          rintro e w10 ⟨b, rfl, hb, hb10⟩
          obtain rfl : b = true := hb.2 (SameP.refl _)
          have HB10 := Lib.hid (Below.call HB9.out hb10)
          have HM10 := Lib.hid (HM9.out.below hb10)
          have HMT10 := Lib.hid (HMT9.out.below hb10)
          have hwa := weight_any HM10.out
          have hwb := fun (wx : World) (hx : Below w10.heap.size w10 wx) => weight_any (HMT10.out.below hx)
          obtain ⟨W1, hW1⟩ : ∃ x, weightM s2 = x := ⟨_, rfl⟩
          rw [hW1] at hwa
          simp only [hW1] at hwb
          have HWA := Lib.hid hwa
          have HWB := Lib.hid hwb
          clear hb10 hb HCS2 hwa hwb hW1
          go_wp2_with fail
          refine HWA.out.mono ?_
          rintro e w11 ⟨rfl, hb11⟩
          have HB11 := Lib.hid (Below.call HB10.out hb11)
          have HWC := Lib.hid (HWB.out w11 hb11)
          clear hb11 HWA HWB
          go_wp2_with fail
          refine HWC.out.mono ?_
          rintro e w12 ⟨rfl, hb12⟩
          have HB12 := Lib.hid (Below.call HB11.out hb12)
          clear hb12 HWC
          go_wp2
          go_ret
          exact ⟨by first | rfl | (simp; done), HB12.out⟩
        have hch : decide (T.kind = 5 ∨ T.kind = 9) = false := decide_eq_false hk
        rw [hch] at HCH
        clear hch hk
        go_wp2_with (rw [HW8.out])
        refine HCH.out.mono ?_
        rintro e w8' ⟨rfl, rfl⟩
        have hcp := pids_any HMT8.out
        obtain ⟨PL, hPL⟩ : ∃ x, pidsK st.v st.pr = x := ⟨_, rfl⟩
        rw [hPL] at hcp
        have HPL := Lib.hid hPL
        have HCP := Lib.hid hcp
        clear hPL hcp HCH
        go_wp2_with fail
        refine HCP.out.mono ?_
        rintro e w9 ⟨v9, rfl, ho9, hb9⟩
        obtain ⟨NP, hNP⟩ : ∃ x, PL.length = x := ⟨_, rfl⟩
        obtain ⟨a9, cc9, rfl⟩ := ho9.shapeN NP hNP
        have HNP := Lib.hid hNP
        have HRD9 := Lib.hid ho9.rd
        have HB9 := Lib.hid (Below.call HB8.out hb9)
        have HM9 := Lib.hid (HM8.out.below hb9)
        have HMT9 := Lib.hid (HMT8.out.below hb9)
        have HROW9 := Lib.hid (row_keep HROW8.out hb9)
        have hnb : NP ≤ 64 := by
          have h1 := pidsK_le st.v st.pr
          have h2 := HMT9.out.ok.prL
          have h3 := HPL.out
          have h4 := HNP.out
          rw [h3] at h1
          omega
        clear ho9 hb9 HCP hNP y0 y1 y2 y3 o0 o1 o2 o3 o4 o5
        go_wp2_with fail
        go_loopw [12] (fun iv wr => ∃ q : Nat, q ≤ NP ∧ iv = .int .i64 q ∧ Hid (Below w9.heap.size w9 wr)) (fun iv _ => NP - (intOf iv).toNat)
        case atStart => exact ⟨0, by omega, rfl, Below.refl _ _⟩
        case round =>
          obtain ⟨q, hq, rfl, HB⟩ := hrel
          by_cases hlt : q < NP
          rotate_left
          · obtain rfl : q = NP := by omega
            have dl : decide ((q : Int) < (q : Int)) = false := decide_eq_false (by omega)
            go_wp2
            go_ret
            exact ⟨rfl, HB9.out.trans (HB.out.mono HB9.out.size)⟩
          have dl : decide ((q : Int) < (NP : Int)) = true := decide_eq_true (by omega)
          obtain ⟨b, o, rfl, hc⟩ := (HRD9.out.below HB.out).cell q hlt
          have hwf := HRD9.out.wfAt q hlt
          have hmem : nth PL q ∈ PL := by rw [nth_eq (by have := HNP.out; omega)]; exact List.getElem_mem _
          obtain ⟨pk, hP⟩ : ∃ x, nth PL q = x := ⟨_, rfl⟩
          rw [hP] at hc hwf hmem
          have HHP : Hid (st.has pk = true) := (HMT9.out.ok.mem pk).1 (by show pk ∈ pidsK st.v st.pr; rw [HPL.out]; exact hmem)
          have HWF := Lib.hid hwf
          have HMr := Lib.hid (HM9.out.below HB.out)
          have HMTr := Lib.hid (HMT9.out.below HB.out)
          have HRr := Lib.hid (row_keep HROW9.out HB.out)
          obtain ⟨o0, o1, o2, o3, o4, o5⟩ := cells6 HRr.out
          clear hwf hmem hP
          by_cases e1 : pk = T.pid
          rotate_left
          · have f1 : (pk == T.pid) = false := by simpa using e1
            have f2 : decide (pk = T.pid) = false := decide_eq_false e1
            have HKP := Lib.hid (step_keep HMT9.out.ok (o := ⟨T.kind, T.pid, T.at_, T.n, T.prot, T.data⟩) HHP.out (.inl e1))
            rw [HS2b.out] at HKP
            clear e1
            have HKR : Hid (s2.rs pk = st.rs pk) := HKP.out.1
            have HKM : Hid (s2.ms pk = st.ms pk) := HKP.out.2
            have hc1 := regions_any HMr.out pk HWF.out
            obtain ⟨RR, hRR⟩ : ∃ x, st.rs pk = x := ⟨_, rfl⟩
            obtain ⟨MM, hMM⟩ : ∃ x, (st.ms pk).map Prod.fst = x := ⟨_, rfl⟩
            have HRR := Lib.hid hRR
            have HMM := Lib.hid hMM
            have hrl := HMTr.out.few pk
            rw [hRR] at hrl
            have hml := HMTr.out.ok.few pk
            have hml2 : MM.length ≤ 65536 := by rw [← hMM, List.length_map]; exact hml
            rw [HKR.out, hRR] at hc1
            have HC1 := Lib.hid hc1
            have HRL := Lib.hid hrl
            have HML := Lib.hid hml2
            clear hc1 hRR hMM hrl hml hml2
            go_wp2_with fail
            refine HC1.out.mono ?_
            rintro e x1 ⟨v1, rfl, ho1, hb1⟩
            obtain ⟨a1, c1, rfl⟩ := ho1.shape
            have HX1 := Lib.hid (Below.call HB.out hb1)
            have HM1 := Lib.hid (HMr.out.below hb1)
            have HT1 := Lib.hid (HMTr.out.below hb1)
            have HO1 := Lib.hid ho1
            have hc2 := regions_any HT1.out pk HWF.out
            rw [HRR.out] at hc2
            have HC2 := Lib.hid hc2
            clear ho1 hb1 HC1 hc2 o0 o1 o2 o3 o4 o5 hc
            go_wp2_with fail
            refine HC2.out.mono ?_
            rintro e x2 ⟨v2, rfl, ho2, hb2⟩
            obtain ⟨a2, c2, rfl⟩ := ho2.shape
            have HX2 := Lib.hid (Below.call HX1.out hb2)
            have HM2 := Lib.hid (HM1.out.below hb2)
            have HT2 := Lib.hid (HT1.out.below hb2)
            have HO1 := Lib.hid (HO1.out.below hb2)
            have HC3 := Lib.hid (regs_yes a1 a2 RR.length c1 c2 RR x2 (HO1.out.rd rgC) (ho2.rd rgC) (by have := HRL.out; omega))
            clear ho2 hb2 HC2
            go_wp2_with fail
            refine HC3.out.mono ?_
            rintro e x3 ⟨rfl, hb3⟩
            have HX3 := Lib.hid (Below.call HX2.out hb3)
            have HM3 := Lib.hid (HM2.out.below hb3)
            have HT3 := Lib.hid (HT2.out.below hb3)
            have hc4 := stored_any HM3.out pk
            rw [HKM.out, HMM.out] at hc4
            have HC4 := Lib.hid hc4
            clear hb3 HC3 hc4
            go_wp2_with fail
            refine HC4.out.mono ?_
            rintro e x4 ⟨v4, rfl, ho4, hb4⟩
            obtain ⟨a4, c4, rfl⟩ := ho4.shape
            have HX4 := Lib.hid (Below.call HX3.out hb4)
            have HM4 := Lib.hid (HM3.out.below hb4)
            have HT4 := Lib.hid (HT3.out.below hb4)
            have HO4 := Lib.hid ho4
            have hc5 := stored_any HT4.out pk
            rw [HMM.out] at hc5
            have HC5 := Lib.hid hc5
            clear ho4 hb4 HC4 hc5
            go_wp2_with fail
            refine HC5.out.mono ?_
            rintro e x5 ⟨v5, rfl, ho5, hb5⟩
            obtain ⟨a5, c5, rfl⟩ := ho5.shape
            have HX5 := Lib.hid (Below.call HX4.out hb5)
            have HM5' := Lib.hid (HM4.out.below hb5)
            have HT5 := Lib.hid (HT4.out.below hb5)
            have HO4 := Lib.hid (HO4.out.below hb5)
            have HC6 := Lib.hid (ints_yes a4 MM.length c4 a5 MM.length c5 MM x5 HO4.out.rd ho5.rd)
            clear ho5 hb5 HC5
            go_wp2_with fail
            refine HC6.out.mono ?_
            rintro e x6 ⟨rfl, hb6⟩
            have HX6 := Lib.hid (Below.call HX5.out hb6)
            have HM6' := Lib.hid (HM5'.out.below hb6)
            have HT6 := Lib.hid (HT5.out.below hb6)
            have hc7 := stored_any HT6.out pk
            rw [HMM.out] at hc7
            have HC7 := Lib.hid hc7
            clear hb6 HC6 hc7
            go_wp2_with fail
            refine HC7.out.mono ?_
            rintro e x7 ⟨v7, rfl, ho7, hb7⟩
            obtain ⟨a7, c7, rfl⟩ := ho7.shape
            have HX7 := Lib.hid (Below.call HX6.out hb7)
            have HM7' := Lib.hid (HM6'.out.below hb7)
            have HT7 := Lib.hid (HT6.out.below hb7)
            have HRD7 := Lib.hid ho7.rd
            clear ho7 hb7 HC7
            obtain ⟨wS, hwS⟩ : ∃ x : World, x = wr := ⟨_, rfl⟩
            subst hwS
            go_wp2_with fail
            have hmlx := HML.out
            go_loopw [15] (fun iv wr => ∃ j : Nat, j ≤ MM.length ∧ iv = .int .i64 j ∧ Hid (Below x7.heap.size x7 wr)) (fun iv _ => MM.length - (intOf iv).toNat)
            case atStart => exact ⟨0, by omega, rfl, Below.refl _ _⟩
            case round =>
              obtain ⟨j, hj, rfl, HBJ⟩ := hrel
              by_cases hlj : j < MM.length
              · have dj : decide ((j : Int) < (MM.length : Int)) = true := decide_eq_true (by omega)
                obtain ⟨bj, oj, rfl, hcj⟩ := (HRD7.out.below HBJ.out).cell j hlj
                have hwj := HRD7.out.wfAt j hlj
                have hin : nth MM j ∈ MM := by rw [nth_eq hlj]; exact List.getElem_mem _
                obtain ⟨pn, hpn⟩ : ∃ x, nth MM j = x := ⟨_, rfl⟩
                rw [hpn] at hcj hwj hin
                have hfind : findB (st.rs pk) pn = true := by
                  rw [← HMM.out] at hin
                  obtain ⟨x, hx, he⟩ := List.mem_map.1 hin
                  rw [← he]
                  exact (HT7.out.ok.pg pk x hx).2
                have HMj := Lib.hid (HM7'.out.below HBJ.out)
                have HTj := Lib.hid (HT7.out.below HBJ.out)
                have hc8 := pageof_yes HMj.out pk pn HWF.out hwj (by rw [HKR.out]; exact hfind)
                rw [HKM.out, HC2c.out] at hc8
                have HC8 := Lib.hid hc8
                have HFD := Lib.hid hfind
                have HWJ := Lib.hid hwj
                have HCJ := Lib.hid hcj
                clear hc8 hfind hwj hin hpn
                go_wp2_with fail
                refine HC8.out.mono ?_
                rintro e x8 ⟨v8, rfl, ho8, hb8⟩
                obtain ⟨a8, c8, rfl⟩ := ho8.shape
                have HX8 := Lib.hid (Below.call HBJ.out hb8)
                have HT8 := Lib.hid (HTj.out.below hb8)
                have HO8 := Lib.hid ho8
                have HC9 := Lib.hid (pageof_yes HT8.out pk pn HWF.out HWJ.out HFD.out)
                have hcj2 := (Below.cell hb8 (block_lt_of_cell HCJ.out)).trans HCJ.out
                clear ho8 hb8 HC8 hcj
                go_wp2_with fail
                refine HC9.out.mono ?_
                rintro e x9 ⟨v9, rfl, ho9, hb9⟩
                obtain ⟨a9', c9', rfl⟩ := ho9.shape
                have HX9 := Lib.hid (Below.call HX8.out hb9)
                have k1 := conv_rd (P := Try.prog) u8T s8 su (HO8.out.rd.below hb9)
                have k2 := conv_rd (P := Try.prog) u8T s8 su ho9.rd
                clear ho9 hb9 HC9 hcj2
                go_wp2_with fail
                go_roundw
                case rel => exact ⟨j + 1, by omega, by go_num, HX9⟩
                case measure => simp [intOf] <;> omega
              · obtain rfl : j = MM.length := by omega
                have HBF := Lib.hid (HX7.out.trans (HBJ.out.mono HX7.out.size))
                go_wp2_with fail
                go_roundw
                case rel => exact ⟨q + 1, by omega, by go_num, HBF⟩
                case measure => simp [intOf] <;> omega
          have f1 : (pk == T.pid) = true := by simpa using e1
          have f2 : decide (pk = T.pid) = true := decide_eq_true e1
          clear e1
          by_cases e7 : T.kind = 7
          · have f3 : (T.kind != 7) = false := by simpa using e7
            have f4 : (T.kind == 7) = true := by simpa using e7
            have HKP := Lib.hid (step_keep HMT9.out.ok (o := ⟨T.kind, T.pid, T.at_, T.n, T.prot, T.data⟩) HHP.out (.inr (.inl e7)))
            rw [HS2b.out] at HKP
            clear e7
            have HKR : Hid (s2.rs pk = st.rs pk) := HKP.out.1
            have HKM : Hid (s2.ms pk = st.ms pk) := HKP.out.2
            have hc1 := regions_any HMr.out pk HWF.out
            obtain ⟨RR, hRR⟩ : ∃ x, st.rs pk = x := ⟨_, rfl⟩
            obtain ⟨MM, hMM⟩ : ∃ x, (st.ms pk).map Prod.fst = x := ⟨_, rfl⟩
            have HRR := Lib.hid hRR
            have HMM := Lib.hid hMM
            have hrl := HMTr.out.few pk
            rw [hRR] at hrl
            have hml := HMTr.out.ok.few pk
            have hml2 : MM.length ≤ 65536 := by rw [← hMM, List.length_map]; exact hml
            rw [HKR.out, hRR] at hc1
            have HC1 := Lib.hid hc1
            have HRL := Lib.hid hrl
            have HML := Lib.hid hml2
            clear hc1 hRR hMM hrl hml hml2
            go_wp2_with fail
            refine HC1.out.mono ?_
            rintro e x1 ⟨v1, rfl, ho1, hb1⟩
            obtain ⟨a1, c1, rfl⟩ := ho1.shape
            have HX1 := Lib.hid (Below.call HB.out hb1)
            have HM1 := Lib.hid (HMr.out.below hb1)
            have HT1 := Lib.hid (HMTr.out.below hb1)
            have HO1 := Lib.hid ho1
            have hc2 := regions_any HT1.out pk HWF.out
            rw [HRR.out] at hc2
            have HC2 := Lib.hid hc2
            clear ho1 hb1 HC1 hc2 o0 o1 o2 o3 o4 o5 hc
            go_wp2_with fail
            refine HC2.out.mono ?_
            rintro e x2 ⟨v2, rfl, ho2, hb2⟩
            obtain ⟨a2, c2, rfl⟩ := ho2.shape
            have HX2 := Lib.hid (Below.call HX1.out hb2)
            have HM2 := Lib.hid (HM1.out.below hb2)
            have HT2 := Lib.hid (HT1.out.below hb2)
            have HO1 := Lib.hid (HO1.out.below hb2)
            have HC3 := Lib.hid (regs_yes a1 a2 RR.length c1 c2 RR x2 (HO1.out.rd rgC) (ho2.rd rgC) (by have := HRL.out; omega))
            clear ho2 hb2 HC2
            go_wp2_with fail
            refine HC3.out.mono ?_
            rintro e x3 ⟨rfl, hb3⟩
            have HX3 := Lib.hid (Below.call HX2.out hb3)
            have HM3 := Lib.hid (HM2.out.below hb3)
            have HT3 := Lib.hid (HT2.out.below hb3)
            have hc4 := stored_any HM3.out pk
            rw [HKM.out, HMM.out] at hc4
            have HC4 := Lib.hid hc4
            clear hb3 HC3 hc4
            go_wp2_with fail
            refine HC4.out.mono ?_
            rintro e x4 ⟨v4, rfl, ho4, hb4⟩
            obtain ⟨a4, c4, rfl⟩ := ho4.shape
            have HX4 := Lib.hid (Below.call HX3.out hb4)
            have HM4 := Lib.hid (HM3.out.below hb4)
            have HT4 := Lib.hid (HT3.out.below hb4)
            have HO4 := Lib.hid ho4
            have hc5 := stored_any HT4.out pk
            rw [HMM.out] at hc5
            have HC5 := Lib.hid hc5
            clear ho4 hb4 HC4 hc5
            go_wp2_with fail
            refine HC5.out.mono ?_
            rintro e x5 ⟨v5, rfl, ho5, hb5⟩
            obtain ⟨a5, c5, rfl⟩ := ho5.shape
            have HX5 := Lib.hid (Below.call HX4.out hb5)
            have HM5' := Lib.hid (HM4.out.below hb5)
            have HT5 := Lib.hid (HT4.out.below hb5)
            have HO4 := Lib.hid (HO4.out.below hb5)
            have HC6 := Lib.hid (ints_yes a4 MM.length c4 a5 MM.length c5 MM x5 HO4.out.rd ho5.rd)
            clear ho5 hb5 HC5
            go_wp2_with fail
            refine HC6.out.mono ?_
            rintro e x6 ⟨rfl, hb6⟩
            have HX6 := Lib.hid (Below.call HX5.out hb6)
            have HM6' := Lib.hid (HM5'.out.below hb6)
            have HT6 := Lib.hid (HT5.out.below hb6)
            have hc7 := stored_any HT6.out pk
            rw [HMM.out] at hc7
            have HC7 := Lib.hid hc7
            clear hb6 HC6 hc7
            go_wp2_with fail
            refine HC7.out.mono ?_
            rintro e x7 ⟨v7, rfl, ho7, hb7⟩
            obtain ⟨a7, c7, rfl⟩ := ho7.shape
            have HX7 := Lib.hid (Below.call HX6.out hb7)
            have HM7' := Lib.hid (HM6'.out.below hb7)
            have HT7 := Lib.hid (HT6.out.below hb7)
            have HRD7 := Lib.hid ho7.rd
            clear ho7 hb7 HC7
            obtain ⟨wS, hwS⟩ : ∃ x : World, x = wr := ⟨_, rfl⟩
            subst hwS
            go_wp2_with fail
            have hmlx := HML.out
            go_loopw [15] (fun iv wr => ∃ j : Nat, j ≤ MM.length ∧ iv = .int .i64 j ∧ Hid (Below x7.heap.size x7 wr)) (fun iv _ => MM.length - (intOf iv).toNat)
            case atStart => exact ⟨0, by omega, rfl, Below.refl _ _⟩
            case round =>
              obtain ⟨j, hj, rfl, HBJ⟩ := hrel
              by_cases hlj : j < MM.length
              · have dj : decide ((j : Int) < (MM.length : Int)) = true := decide_eq_true (by omega)
                obtain ⟨bj, oj, rfl, hcj⟩ := (HRD7.out.below HBJ.out).cell j hlj
                have hwj := HRD7.out.wfAt j hlj
                have hin : nth MM j ∈ MM := by rw [nth_eq hlj]; exact List.getElem_mem _
                obtain ⟨pn, hpn⟩ : ∃ x, nth MM j = x := ⟨_, rfl⟩
                rw [hpn] at hcj hwj hin
                have hfind : findB (st.rs pk) pn = true := by
                  rw [← HMM.out] at hin
                  obtain ⟨x, hx, he⟩ := List.mem_map.1 hin
                  rw [← he]
                  exact (HT7.out.ok.pg pk x hx).2
                have HMj := Lib.hid (HM7'.out.below HBJ.out)
                have HTj := Lib.hid (HT7.out.below HBJ.out)
                have hc8 := pageof_yes HMj.out pk pn HWF.out hwj (by rw [HKR.out]; exact hfind)
                rw [HKM.out, HC2c.out] at hc8
                have HC8 := Lib.hid hc8
                have HFD := Lib.hid hfind
                have HWJ := Lib.hid hwj
                have HCJ := Lib.hid hcj
                clear hc8 hfind hwj hin hpn
                go_wp2_with fail
                refine HC8.out.mono ?_
                rintro e x8 ⟨v8, rfl, ho8, hb8⟩
                obtain ⟨a8, c8, rfl⟩ := ho8.shape
                have HX8 := Lib.hid (Below.call HBJ.out hb8)
                have HT8 := Lib.hid (HTj.out.below hb8)
                have HO8 := Lib.hid ho8
                have HC9 := Lib.hid (pageof_yes HT8.out pk pn HWF.out HWJ.out HFD.out)
                have hcj2 := (Below.cell hb8 (block_lt_of_cell HCJ.out)).trans HCJ.out
                clear ho8 hb8 HC8 hcj
                go_wp2_with fail
                refine HC9.out.mono ?_
                rintro e x9 ⟨v9, rfl, ho9, hb9⟩
                obtain ⟨a9', c9', rfl⟩ := ho9.shape
                have HX9 := Lib.hid (Below.call HX8.out hb9)
                have k1 := conv_rd (P := Try.prog) u8T s8 su (HO8.out.rd.below hb9)
                have k2 := conv_rd (P := Try.prog) u8T s8 su ho9.rd
                clear ho9 hb9 HC9 hcj2
                go_wp2_with fail
                go_roundw
                case rel => exact ⟨j + 1, by omega, by go_num, HX9⟩
                case measure => simp [intOf] <;> omega
              · obtain rfl : j = MM.length := by omega
                have HBF := Lib.hid (HX7.out.trans (HBJ.out.mono HX7.out.size))
                go_wp2_with fail
                go_roundw
                case rel => exact ⟨q + 1, by omega, by go_num, HBF⟩
                case measure => simp [intOf] <;> omega
          have f3 : (T.kind != 7) = true := by simpa using e7
          have f4 : (T.kind == 7) = false := by simpa using e7
          clear e7
          by_cases e9 : T.kind = 1
          · have f5 : (T.kind != 1) = false := by simpa using e9
            have f6 : (T.kind == 1) = true := by simpa using e9
            have HKP := Lib.hid (step_keep HMT9.out.ok (o := ⟨T.kind, T.pid, T.at_, T.n, T.prot, T.data⟩) HHP.out (.inr (.inr e9)))
            rw [HS2b.out] at HKP
            clear e9
            have HKR : Hid (s2.rs pk = st.rs pk) := HKP.out.1
            have HKM : Hid (s2.ms pk = st.ms pk) := HKP.out.2
            have hc1 := regions_any HMr.out pk HWF.out
            obtain ⟨RR, hRR⟩ : ∃ x, st.rs pk = x := ⟨_, rfl⟩
            obtain ⟨MM, hMM⟩ : ∃ x, (st.ms pk).map Prod.fst = x := ⟨_, rfl⟩
            have HRR := Lib.hid hRR
            have HMM := Lib.hid hMM
            have hrl := HMTr.out.few pk
            rw [hRR] at hrl
            have hml := HMTr.out.ok.few pk
            have hml2 : MM.length ≤ 65536 := by rw [← hMM, List.length_map]; exact hml
            rw [HKR.out, hRR] at hc1
            have HC1 := Lib.hid hc1
            have HRL := Lib.hid hrl
            have HML := Lib.hid hml2
            clear hc1 hRR hMM hrl hml hml2
            go_wp2_with fail
            refine HC1.out.mono ?_
            rintro e x1 ⟨v1, rfl, ho1, hb1⟩
            obtain ⟨a1, c1, rfl⟩ := ho1.shape
            have HX1 := Lib.hid (Below.call HB.out hb1)
            have HM1 := Lib.hid (HMr.out.below hb1)
            have HT1 := Lib.hid (HMTr.out.below hb1)
            have HO1 := Lib.hid ho1
            have hc2 := regions_any HT1.out pk HWF.out
            rw [HRR.out] at hc2
            have HC2 := Lib.hid hc2
            clear ho1 hb1 HC1 hc2 o0 o1 o2 o3 o4 o5 hc
            go_wp2_with fail
            refine HC2.out.mono ?_
            rintro e x2 ⟨v2, rfl, ho2, hb2⟩
            obtain ⟨a2, c2, rfl⟩ := ho2.shape
            have HX2 := Lib.hid (Below.call HX1.out hb2)
            have HM2 := Lib.hid (HM1.out.below hb2)
            have HT2 := Lib.hid (HT1.out.below hb2)
            have HO1 := Lib.hid (HO1.out.below hb2)
            have HC3 := Lib.hid (regs_yes a1 a2 RR.length c1 c2 RR x2 (HO1.out.rd rgC) (ho2.rd rgC) (by have := HRL.out; omega))
            clear ho2 hb2 HC2
            go_wp2_with fail
            refine HC3.out.mono ?_
            rintro e x3 ⟨rfl, hb3⟩
            have HX3 := Lib.hid (Below.call HX2.out hb3)
            have HM3 := Lib.hid (HM2.out.below hb3)
            have HT3 := Lib.hid (HT2.out.below hb3)
            have hc4 := stored_any HM3.out pk
            rw [HKM.out, HMM.out] at hc4
            have HC4 := Lib.hid hc4
            clear hb3 HC3 hc4
            go_wp2_with fail
            refine HC4.out.mono ?_
            rintro e x4 ⟨v4, rfl, ho4, hb4⟩
            obtain ⟨a4, c4, rfl⟩ := ho4.shape
            have HX4 := Lib.hid (Below.call HX3.out hb4)
            have HM4 := Lib.hid (HM3.out.below hb4)
            have HT4 := Lib.hid (HT3.out.below hb4)
            have HO4 := Lib.hid ho4
            have hc5 := stored_any HT4.out pk
            rw [HMM.out] at hc5
            have HC5 := Lib.hid hc5
            clear ho4 hb4 HC4 hc5
            go_wp2_with fail
            refine HC5.out.mono ?_
            rintro e x5 ⟨v5, rfl, ho5, hb5⟩
            obtain ⟨a5, c5, rfl⟩ := ho5.shape
            have HX5 := Lib.hid (Below.call HX4.out hb5)
            have HM5' := Lib.hid (HM4.out.below hb5)
            have HT5 := Lib.hid (HT4.out.below hb5)
            have HO4 := Lib.hid (HO4.out.below hb5)
            have HC6 := Lib.hid (ints_yes a4 MM.length c4 a5 MM.length c5 MM x5 HO4.out.rd ho5.rd)
            clear ho5 hb5 HC5
            go_wp2_with fail
            refine HC6.out.mono ?_
            rintro e x6 ⟨rfl, hb6⟩
            have HX6 := Lib.hid (Below.call HX5.out hb6)
            have HM6' := Lib.hid (HM5'.out.below hb6)
            have HT6 := Lib.hid (HT5.out.below hb6)
            have hc7 := stored_any HT6.out pk
            rw [HMM.out] at hc7
            have HC7 := Lib.hid hc7
            clear hb6 HC6 hc7
            go_wp2_with fail
            refine HC7.out.mono ?_
            rintro e x7 ⟨v7, rfl, ho7, hb7⟩
            obtain ⟨a7, c7, rfl⟩ := ho7.shape
            have HX7 := Lib.hid (Below.call HX6.out hb7)
            have HM7' := Lib.hid (HM6'.out.below hb7)
            have HT7 := Lib.hid (HT6.out.below hb7)
            have HRD7 := Lib.hid ho7.rd
            clear ho7 hb7 HC7
            obtain ⟨wS, hwS⟩ : ∃ x : World, x = wr := ⟨_, rfl⟩
            subst hwS
            go_wp2_with fail
            have hmlx := HML.out
            go_loopw [15] (fun iv wr => ∃ j : Nat, j ≤ MM.length ∧ iv = .int .i64 j ∧ Hid (Below x7.heap.size x7 wr)) (fun iv _ => MM.length - (intOf iv).toNat)
            case atStart => exact ⟨0, by omega, rfl, Below.refl _ _⟩
            case round =>
              obtain ⟨j, hj, rfl, HBJ⟩ := hrel
              by_cases hlj : j < MM.length
              · have dj : decide ((j : Int) < (MM.length : Int)) = true := decide_eq_true (by omega)
                obtain ⟨bj, oj, rfl, hcj⟩ := (HRD7.out.below HBJ.out).cell j hlj
                have hwj := HRD7.out.wfAt j hlj
                have hin : nth MM j ∈ MM := by rw [nth_eq hlj]; exact List.getElem_mem _
                obtain ⟨pn, hpn⟩ : ∃ x, nth MM j = x := ⟨_, rfl⟩
                rw [hpn] at hcj hwj hin
                have hfind : findB (st.rs pk) pn = true := by
                  rw [← HMM.out] at hin
                  obtain ⟨x, hx, he⟩ := List.mem_map.1 hin
                  rw [← he]
                  exact (HT7.out.ok.pg pk x hx).2
                have HMj := Lib.hid (HM7'.out.below HBJ.out)
                have HTj := Lib.hid (HT7.out.below HBJ.out)
                have hc8 := pageof_yes HMj.out pk pn HWF.out hwj (by rw [HKR.out]; exact hfind)
                rw [HKM.out, HC2c.out] at hc8
                have HC8 := Lib.hid hc8
                have HFD := Lib.hid hfind
                have HWJ := Lib.hid hwj
                have HCJ := Lib.hid hcj
                clear hc8 hfind hwj hin hpn
                go_wp2_with fail
                refine HC8.out.mono ?_
                rintro e x8 ⟨v8, rfl, ho8, hb8⟩
                obtain ⟨a8, c8, rfl⟩ := ho8.shape
                have HX8 := Lib.hid (Below.call HBJ.out hb8)
                have HT8 := Lib.hid (HTj.out.below hb8)
                have HO8 := Lib.hid ho8
                have HC9 := Lib.hid (pageof_yes HT8.out pk pn HWF.out HWJ.out HFD.out)
                have hcj2 := (Below.cell hb8 (block_lt_of_cell HCJ.out)).trans HCJ.out
                clear ho8 hb8 HC8 hcj
                go_wp2_with fail
                refine HC9.out.mono ?_
                rintro e x9 ⟨v9, rfl, ho9, hb9⟩
                obtain ⟨a9', c9', rfl⟩ := ho9.shape
                have HX9 := Lib.hid (Below.call HX8.out hb9)
                have k1 := conv_rd (P := Try.prog) u8T s8 su (HO8.out.rd.below hb9)
                have k2 := conv_rd (P := Try.prog) u8T s8 su ho9.rd
                clear ho9 hb9 HC9 hcj2
                go_wp2_with fail
                go_roundw
                case rel => exact ⟨j + 1, by omega, by go_num, HX9⟩
                case measure => simp [intOf] <;> omega
              · obtain rfl : j = MM.length := by omega
                have HBF := Lib.hid (HX7.out.trans (HBJ.out.mono HX7.out.size))
                go_wp2_with fail
                go_roundw
                case rel => exact ⟨q + 1, by omega, by go_num, HBF⟩
                case measure => simp [intOf] <;> omega
          have f5 : (T.kind != 1) = true := by simpa using e9
          have f6 : (T.kind == 1) = false := by simpa using e9
          clear e9
          go_wp2_with fail
          go_roundw
          case rel => exact ⟨q + 1, by omega, by go_num, HB⟩
          case measure => simp [intOf] <;> omega
end Go.Proofs.Ytnbjodoajfkekaa

namespace Go.Proofs.Ytnbjodoajfkekaa.modelApart
open Go.ChangeShapes Go.WideShapes Go.ChangeAt Go.RowKit
set_option linter.unusedVariables false

set_option maxRecDepth 100000 in
theorem own : ownKnob Try.prog.godebug = none := by kernel_rfl
set_option maxRecDepth 100000 in
theorem laidOut : laidOutB Try.prog = true := by kernel_rfl

set_option maxRecDepth 100000 in
theorem lifted (os : Os) (started : os.Started) (H : Type) (enc : TypeId × Value → H) (F : Stop.Interp) :
    ReturnsInHanded {} Try.checked os 4 .any ((Rows.OpenSpec.upto Rows.modelApartSpec).pre6 enc Try.prog Try.f4 Rows.modelApartUptoRow.domain false) (((Rows.OpenSpec.upto Rows.modelApartSpec).at F).post enc Try.prog Try.f4 false true false false) := by
  refine returnsInHanded_of_cond (C := Try.checked) (s := Rows.OpenSpec.upto Rows.modelApartSpec) (k := Rows.uptoSmall) rfl own started (by kernel_rfl) Try.func4
    (OpenSpec.witness (enc := enc) (C := Try.checked) (s := Rows.OpenSpec.upto Rows.modelApartSpec) (k := Rows.uptoSmall) rfl false ⟨#[], #[.agg #[.int .i64 0, .int .i64 0, .int .i64 0, .int .i64 0, .int .i64 0, .int .i64 0, .int .i64 0, .int .i64 0, .int .i64 0], .slice none 0 0, .agg #[.int .i64 0, .int .i64 0, .int .i64 0, .int .i64 0, .int .i64 0, .slice none 0 0]], []⟩ 8 (by kernel_rfl) (by kernel_rfl) (by kernel_rfl)
      (x := ([.agg [.lit (.int .i64 0), .lit (.int .i64 0), .lit (.int .i64 0), .lit (.int .i64 0), .lit (.int .i64 0), .lit (.int .i64 0), .lit (.int .i64 0), .lit (.int .i64 0), .lit (.int .i64 0)], .nil, .agg [.lit (.int .i64 0), .lit (.int .i64 0), .lit (.int .i64 0), .lit (.int .i64 0), .lit (.int .i64 0), .nil]], [], [])) (by kernel_rfl) rfl (by kernel_rfl)) ?_
  intro W base args ds gs before hval0 hW hcnd hk _
  have hval : ∀ (j : Nat) t v, Try.f4.params[j]? = some t → args[j]? = some v → Value.okWide Try.prog W .any base t v := hval0
  have hW' := hW
  obtain ⟨p, q, hA0, hV, rfl, hfz, hnd⟩ := hW
  have hA : DataW.TrodAll enc Try.prog W 0 (fun _ => true) true Try.f4.params.toList args.toList ds p := hA0
  rw [Try.params4] at hA hval
  obtain ⟨v0, vs0, d0, ds0, p0, q0, hargs, rfl, rfl, h0, r0⟩ := trodAll_cons hA
  obtain ⟨v1, vs1, d1, ds1, p1, q1, rfl, rfl, rfl, h1, r1⟩ := trodAll_cons r0
  obtain ⟨v2, vs2, d2, ds2, p2, q2, rfl, rfl, rfl, h2, r2⟩ := trodAll_cons r1
  obtain ⟨rfl, rfl, rfl⟩ := trodAll_nil r2
  obtain rfl : args = #[v0, v1, v2] := by cases args; simp_all
  obtain ⟨rfl, rfl⟩ := trodVars_none hV
  have k0 := h0
  have lt0 : ∀ x ∈ p0, x.block < W.heap.size := by obtain ⟨m, hm⟩ := k0; exact DataW.trod_lt m _ _ _ hm
  obtain ⟨a0_0, a0_1, a0_2, a0_3, a0_4, a0_5, a0_6, a0_7, a0_8, rfl⟩ := open_nine Try.underlying23 (by kernel_rfl) (by kernel_rfl) Try.underlying3 (hval 0 23 v0 rfl rfl) h0
  obtain ⟨a1, len1, cap1, rfl⟩ := okWide_slice Try.underlying24 (hval 1 24 v1 rfl rfl)
  have k1 := h1
  have lt1 : ∀ x ∈ p1, x.block < W.heap.size := by obtain ⟨m, hm⟩ := k1; exact DataW.trod_lt m _ _ _ hm
  obtain ⟨z1, w1, y1⟩ := ops_open h1
  have k2 := h2
  have lt2 : ∀ x ∈ p2, x.block < W.heap.size := by obtain ⟨m, hm⟩ := k2; exact DataW.trod_lt m _ _ _ hm
  obtain ⟨z2, a2, len2, cap2, rfl, w2, x2, y2⟩ := op_val (hval 2 27 v2 rfl rfl) h2
  have l2 := w2.len
  have b1 := bulk_part (l := [d0, d1, d2]) (d := d1) (by simp)
  have b2 := bulk_part (l := [d0, d1, d2]) (d := d2) (by simp)
  clear hA0 hval0
  refine (modelApart_walk ⟨a0_0, a0_1, a0_2, a0_3, a0_4, a0_5, a0_6, a0_7, a0_8⟩ a1 len1 cap1 z1 z2 a2 len2 cap2 W w1 (by have := bulk_bound hk; simp only [List.append_nil] at this; omega) w2 (by have := bulk_bound hk; simp only [List.append_nil] at this; omega) x2).mono fun e W' ⟨he, bel⟩ => ?_
  subst he
  exact ⟨_, rfl, _, _, _, [], _, [], hW', trodAll_mk1 (shut_bool Try.underlying4 _), (trodAll_cons_mk (Below.trod laidOut (by kernel_rfl) (of_decide_eq_true (by kernel_rfl)) k0 bel lt0) (trodAll_cons_mk (Below.trod laidOut (by kernel_rfl) (of_decide_eq_true (by kernel_rfl)) k1 bel lt1) (trodAll_cons_mk (Below.trod laidOut (by kernel_rfl) (of_decide_eq_true (by kernel_rfl)) k2 bel lt2) trodAll_mk0))), rfl, bel.frame _, fun h => by cases h⟩

set_option maxRecDepth 100000 in
theorem over : Rows.modelApartUptoRow.holds Try.pinned (Rows.OpenSpec.upto Rows.modelApartSpec) :=
  OpenClaim.holds_of_cond 4 Try.f4 rfl rfl rfl rfl rfl rfl rfl ⟨rfl, rfl, rfl, rfl, rfl⟩ rfl rfl rfl rfl rfl (by kernel_rfl) Try.func4 (by kernel_rfl)
    (of_decide_eq_true (by kernel_rfl)) (by unfold Func.isWrapper; first | (rw [if_pos (by decide +kernel)]; kernel_rfl) | (rw [if_neg (by decide +kernel)]; exact ⟨rfl, rfl⟩))
    (fun os started H enc _ F => lifted os started H enc F)

/-- ModelApart holds for every input of a bulk that fits. -/
theorem proved : Rows.ModelApartUptoSaid := over
end Go.Proofs.Ytnbjodoajfkekaa.modelApart
