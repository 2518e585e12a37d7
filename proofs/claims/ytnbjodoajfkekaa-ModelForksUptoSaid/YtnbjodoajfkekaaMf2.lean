/- The walk of almanaclaw18.ModelForks. ModelForks: for every input the law returns true, and every argument reads as it did: the row round the walk. -/
import Derived.Test.YtnbjodoajfkekaaMj0
import Derived.Test.YtnbjodoajfkekaaMj22
import Derived.Test.YtnbjodoajfkekaaMf1
import Derived.Test.YtnbjodoajfkekaaMj16
import Derived.WalkKit
import Derived.ProofKit
import Derived.BigQuiet
import Derived.Deep.QuietTactic
import Derived.Lib.Hide
import Derived.RegionTactic
import Derived.JoinedCond
import Derived.Test.YtnbjodoajfkekaaMj21
import Derived.Test.YtnbjodoajfkekaaRows
import Derived.OpenShut
import Derived.ShutString
import Derived.ChangeOld
import Derived.Below
namespace Go.Proofs.Ytnbjodoajfkekaa
open Go.RowKit
set_option linter.unusedSimpArgs false
theorem McIn.fresh {w : World} {No : Nat → Prop} {h : McH} {c : Cf} (i : McIn w No h (mc0 c)) {No' : Nat → Prop} (h1 : ∀ k, h.own k → No' k) (h2 : ¬ No' h.m) (h3 : ∀ k, No' k → k < w.heap.size) : McIn w No' h (mc0 c) := by
  obtain ⟨D, E, e1, e2, e3, e4⟩ := i.dat
  have h0 : ∀ p, (mc0 c).has p = false := fun p => by
    unfold Mc.has hasB mc0
    simp
  exact ⟨i.row, i.set, ⟨D, E, e1, e2, ⟨fun p hp => (by have := (e3.all p hp).1; rw [h0] at this; cases this), e3.gone⟩, ⟨fun p hp => (by obtain ⟨b, hb, _⟩ := e4.all p hp; cases hb), e4.has⟩⟩, i.ok, ⟨h1 _ (.inl rfl), h1 _ (.inr (.inl rfl)), h1 _ (.inr (.inr rfl)), h2⟩, i.ne, h3⟩
theorem owns_tn {k : IntKind} {e : TypeId} {w w' : World} {base : Nat} {v : Value} {l : List Int} {Q : Nat → Prop} (h : Owns k e w base v l) (t : Tn Q w w') (hq : ∀ j, Q j → j < base) : Owns k e w' base v l := by
  obtain ⟨hw, h⟩ := h
  rcases h with h | ⟨h1, h2 | ⟨g, cap, cur, hv, hb, hh, hr⟩⟩
  · exact ⟨hw, .inl h⟩
  · exact ⟨hw, .inr ⟨h1, .inl h2⟩⟩
  · exact ⟨hw, .inr ⟨h1, .inr ⟨g, cap, cur, hv, hb, row_tn hh t (fun e => by have := hq _ e; omega), hr⟩⟩⟩
theorem OpsAt.below {w w' : World} {a : Option Addr} {n : Nat} {L : List OpP} (h : OpsAt w a n L) (hb : Below w.heap.size w w') : OpsAt w' a n L :=
  ⟨h.len, fun i A hA => by
    obtain ⟨b, o, e, ho⟩ := h.at_ i A hA
    obtain ⟨a5, n5, c5, y0, y1, y2, y3, y4, y5, hr⟩ := ho.ex
    have hc : ∀ {j v}, w.cell? ⟨b, j, none⟩ = some v → w'.cell? ⟨b, j, none⟩ = some v := fun {j v} e => (Below.cell hb (block_lt_of_cell e)).trans e
    exact ⟨b, o, e, ⟨a5, n5, c5, hc y0, hc y1, hc y2, hc y3, hc y4, hc y5, hr.below hb⟩, ho.wf⟩⟩
theorem ops_one {w : World} {b : Nat} {T : OpP} {ta : Option Addr} {tn tc : Nat} (h : w.heap[b]? = some (.cells #[.int .i64 T.kind, .int .i64 T.pid, .int .i64 T.at_, .int .i64 T.n, .int .i64 T.prot, .slice ta tn tc] 27 (0, 0))) (hr : RdAt .u8 w ta tn tc T.data) (hw : (Lit.int .i64 T.kind).wf = true ∧ (Lit.int .i64 T.pid).wf = true ∧ (Lit.int .i64 T.at_).wf = true ∧ (Lit.int .i64 T.n).wf = true ∧ (Lit.int .i64 T.prot).wf = true) : OpsAt w (some ⟨b, 0, none⟩) 1 [T] := by
  refine ⟨rfl, fun i A hA => ⟨b, 0, rfl, ?_⟩⟩
  have hi : i = 0 := by have := (List.getElem?_eq_some_iff.1 hA).1; simp at this; omega
  subst hi
  injection hA with hA
  subst hA
  obtain ⟨y0, y1, y2, y3, y4, y5⟩ := cells6 h
  exact ⟨⟨ta, tn, tc, y0, y1, y2, y3, y4, y5, hr⟩, hw⟩
set_option maxHeartbeats 4000000 in
set_option maxRecDepth 100000 in
theorem modelForks_walk (c : Cf) (a : Option Addr) (n cap : Nat) (L : List OpP) (pid : Int) (T : OpP) (ta : Option Addr) (tn tc : Nat) (w : World) (hL : OpsAt w a n L) (hs : sumOp L + n ≤ 1048576) (hp : (Lit.int .i64 pid).wf = true) (hT : RdAt .u8 w ta tn tc T.data) (hts : tn ≤ 1048576)
    (hw : (Lit.int .i64 T.kind).wf = true ∧ (Lit.int .i64 T.pid).wf = true ∧ (Lit.int .i64 T.at_).wf = true ∧ (Lit.int .i64 T.n).wf = true ∧ (Lit.int .i64 T.prot).wf = true) :
    Calls Try.prog 3 #[c.val, .slice a n cap, .int .i64 pid, .agg #[.int .i64 T.kind, .int .i64 T.pid, .int .i64 T.at_, .int .i64 T.n, .int .i64 T.prot, .slice ta tn tc]] w fun e w' => e = .returned (.bool true) ∧ Below w.heap.size w w' := by
  have hb0 := below_a2 w (.cells #[.int .i64 c.a0, .int .i64 c.a1, .int .i64 c.a2, .int .i64 c.a3, .int .i64 c.page, .int .i64 c.a5, .int .i64 c.procs, .int .i64 c.regions, .int .i64 c.pages] 23) (.cells #[.int .i64 T.kind, .int .i64 T.pid, .int .i64 T.at_, .int .i64 T.n, .int .i64 T.prot, .slice ta tn tc] 27)
  have g0 := al2_0 w (.cells #[.int .i64 c.a0, .int .i64 c.a1, .int .i64 c.a2, .int .i64 c.a3, .int .i64 c.page, .int .i64 c.a5, .int .i64 c.procs, .int .i64 c.regions, .int .i64 c.pages] 23) (.cells #[.int .i64 T.kind, .int .i64 T.pid, .int .i64 T.at_, .int .i64 T.n, .int .i64 T.prot, .slice ta tn tc] 27)
  have g1 := al2_1 w (.cells #[.int .i64 c.a0, .int .i64 c.a1, .int .i64 c.a2, .int .i64 c.a3, .int .i64 c.page, .int .i64 c.a5, .int .i64 c.procs, .int .i64 c.regions, .int .i64 c.pages] 23) (.cells #[.int .i64 T.kind, .int .i64 T.pid, .int .i64 T.at_, .int .i64 T.n, .int .i64 T.prot, .slice ta tn tc] 27)
  have HB0 := Lib.hid hb0
  have HL := Lib.hid hL
  have HS := Lib.hid hs
  have HP := Lib.hid hp
  have HT := Lib.hid hT
  have HTS := Lib.hid hts
  have HW := Lib.hid hw
  have HK := Lib.hid (known18 ((w.alloc (.cells #[.int .i64 c.a0, .int .i64 c.a1, .int .i64 c.a2, .int .i64 c.a3, .int .i64 c.page, .int .i64 c.a5, .int .i64 c.procs, .int .i64 c.regions, .int .i64 c.pages] 23)).alloc (.cells #[.int .i64 T.kind, .int .i64 T.pid, .int .i64 T.at_, .int .i64 T.n, .int .i64 T.prot, .slice ta tn tc] 27)))
  have HG0 := Lib.hid g0
  have HG1 := Lib.hid g1
  unfold Cf.val
  clear hb0 hL hs hp hT hts hw g0 g1
  go_enter Try.func3, Try.ntmps3
  go_wp2_with fail
  refine HK.out.mono ?_
  rintro e w1 ⟨rfl, hb1⟩
  have HB1 := Lib.hid (Below.call HB0.out hb1)
  have HC1 := Lib.hid (row_keep HG0.out hb1)
  have HO1 := Lib.hid (row_keep HG1.out hb1)
  clear hb1 HK
  have hcf := few_any a n cap L w1 (OpsAt.below HL.out HB1.out) (by have := HS.out; omega) (by have := HS.out; omega)
  have HF := Lib.hid hcf
  clear hcf
  go_wp2_with fail
  refine HF.out.mono ?_
  rintro e w1' ⟨rfl, rfl⟩
  cases hf1 : fewB L with
  | false =>
    go_wp2
    go_ret
    exact ⟨rfl, HB1.out⟩
  | true =>
    obtain ⟨o0, o1, o2, o3, o4, o5⟩ := cells6 HO1.out
    have hbs := below_a w1 (.cells #[.int .i64 T.kind, .int .i64 T.pid, .int .i64 T.at_, .int .i64 T.n, .int .i64 T.prot, .slice ta tn tc] 27)
    have hone := ops_one (heap_alloc_new w1 (.cells #[.int .i64 T.kind, .int .i64 T.pid, .int .i64 T.at_, .int .i64 T.n, .int .i64 T.prot, .slice ta tn tc] 27)) (HT.out.below (Below.call HB1.out hbs)) HW.out
    have hc2 := few_any (some ⟨w1.heap.size, 0, none⟩) 1 1 [T] _ hone (by omega) (by simp [sumOp]; have := HT.out.len; have := HTS.out; omega)
    have HF2 := Lib.hid hc2
    have HB2 := Lib.hid (Below.call HB1.out hbs)
    have HC2 := Lib.hid (row_keep HC1.out hbs)
    have HO2 := Lib.hid (row_keep HO1.out hbs)
    clear hbs hone hc2
    go_wp2_with fail
    refine HF2.out.mono ?_
    rintro e w2' ⟨rfl, rfl⟩
    clear HF2
    cases hf2 : fewB [T] with
    | false =>
      go_wp2
      go_ret
      exact ⟨rfl, HB2.out⟩
    | true =>
      obtain ⟨z0, z1, z2, z3, z4, z5, z6, z7, z8⟩ := cells9 HC2.out
      have hcs := small_any c (w1.alloc (.cells #[.int .i64 T.kind, .int .i64 T.pid, .int .i64 T.at_, .int .i64 T.n, .int .i64 T.prot, .slice ta tn tc] 27))
      unfold Cf.val at hcs
      have HSM := Lib.hid hcs
      clear hcs
      go_wp2_with fail
      refine HSM.out.mono ?_
      rintro e w3 ⟨rfl, hb3⟩
      have HB3 := Lib.hid (Below.call HB2.out hb3)
      have HC3 := Lib.hid (row_keep HC2.out hb3)
      have HO3 := Lib.hid (row_keep HO2.out hb3)
      clear hb3 HSM z0 z1 z2 z3 z4 z5 z6 z7 z8 o0 o1 o2 o3 o4 o5
      cases hsm : smallB c with
      | false =>
        go_wp2
        go_ret
        exact ⟨rfl, HB3.out⟩
      | true =>
        obtain ⟨z0, z1, z2, z3, z4, z5, z6, z7, z8⟩ := cells9 HC3.out
        by_cases hok : CfOk c
        · have hnw := newmc_yes c w3 hok
          unfold Cf.val at hnw
          have HNW := Lib.hid hnw
          clear hnw
          go_wp2_with fail
          refine HNW.out.mono ?_
          rintro e w4 ⟨hh, rfl, hm4, hown, hhm, hb4⟩
          obtain ⟨NoQ, hNoQ⟩ : ∃ X : Nat → Prop, X = fun k => hh.own k ∨ k = w.heap.size + 1 := ⟨_, rfl⟩
          have hbx : w.heap.size + 1 < w3.heap.size := (Array.getElem?_eq_some_iff.1 HO3.out).1
          have HNQG : Hid (∀ k, NoQ k → w.heap.size ≤ k) := fun k hk => by
            rw [hNoQ] at hk
            rcases hk with hk | hk
            · have := hown k hk; have := HB3.out.size; omega
            · omega
          replace hm4 := hm4.fresh (No' := NoQ) (fun k hk => by rw [hNoQ]; exact .inl hk) (fun hk => by
            rw [hNoQ] at hk
            rcases hk with hk | hk
            · exact hm4.no.2.2.2 hk
            · omega) (fun k hk => by
            rw [hNoQ] at hk
            rcases hk with hk | hk
            · exact hm4.lt k hk
            · have := hb4.size; omega)
          have HOLT : Hid (∀ k, hh.own k → k < w4.heap.size) := fun k hk => hm4.lt k (hm4.own_no k hk)
          have HNQX : Hid (NoQ (w.heap.size + 1)) := by show NoQ _; rw [hNoQ]; exact .inr rfl
          have HNQB : Hid (∀ k, NoQ k → hh.own k ∨ k = w.heap.size + 1) := fun k hk => by rw [hNoQ] at hk; exact hk
          have hops := ((OpsIn.of HL.out (No := NoQ) HNQG.out).tn (Tn.of (Q := fun _ => False) (Below.call HB3.out hb4)) (fun _ h => h.elim))
          have hfl : n ≤ 1000 := by
            have h1 := HL.out.len
            have h2 : (L.length ≤ 200) := by
              have h3 := hf1
              unfold fewB at h3
              simp at h3
              omega
            omega
          have hrun := run_any hm4 a n cap L hops hfl
          have HRUN := Lib.hid hrun
          have HB4 := Lib.hid (Below.call HB3.out hb4)
          have HO4 := Lib.hid (row_keep HO3.out hb4)
          have HM4 := Lib.hid hm4
          have HOWN := Lib.hid (fun k hk => Nat.le_trans HB3.out.size (hown k hk))
          have HOW3 := Lib.hid hown
          have HHM := Lib.hid hhm
          clear hrun hops hfl hb4 hm4 hown hhm HNW z0 z1 z2 z3 z4 z5 z6 z7 z8
          go_wp2_with fail
          refine HRUN.out.mono ?_
          rintro e w5 ⟨v, vs, rfl, hR⟩
          obtain ⟨va, vc, rfl⟩ := hR.own.shape
          have hm5 : McIn w5 NoQ hh (runM (mc0 c) L) := by
            obtain ⟨NoX, h1, h2, _⟩ := hR.mc
            rw [List.take_of_length_le (by rw [HL.out.len]; exact Nat.le_refl _)] at h1
            exact h1.less h2 ⟨HM4.out.no.1, HM4.out.no.2.1, HM4.out.no.2.2.1⟩
          obtain ⟨st, hst⟩ : ∃ s, runM (mc0 c) L = s := ⟨_, rfl⟩
          rw [hst] at hm5
          have HM5 := Lib.hid hm5
          have HT5 := Lib.hid hR.tn
          clear hR hst hm5 HRUN
          have HWT := Lib.hid (weight_any HM5.out)
          go_wp2_with fail
          refine HWT.out.mono ?_
          rintro e w6 ⟨rfl, hb6⟩
          have hm6 := HM5.out.below hb6
          have hdo := do_any hm6 ⟨7, pid, 0, 0, 0, []⟩ none 0 0 HP.out (show (Lit.int .i64 0).wf = true from by decide) (show (Lit.int .i64 0).wf = true from by decide) (RdAt.nil _ _) (fun x h => by cases h)
          have HM6 := Lib.hid hm6
          have HDO := Lib.hid hdo
          have HT6 := Lib.hid (HT5.out.call hb6)
          clear hb6 hm6 hdo HWT HT5
          go_wp2_with fail
          refine HDO.out.mono ?_
          rintro e w7 ⟨dv, pv, rfl, hod, hop, hm7, ht7⟩
          obtain ⟨xa, xc, rfl⟩ := hod.shape
          obtain ⟨ya, yc, rfl⟩ := hop.shape
          have HT7 := Lib.hid (HT6.out.trans ht7)
          have HM7 := Lib.hid hm7
          clear hod hop hm7 ht7 HDO HT6
          have hfix : Below w.heap.size w w7 := HB4.out.trans (HT7.out.below (fun k hk ho => by have := HOWN.out k ho; omega) HB4.out.size)
          have HB7 := Lib.hid hfix
          clear hfix
          rcases fork_cases HM6.out.ok pid with ⟨_, hst1, her⟩ | ⟨k0, hk0, hnk, hhp, hst1, han⟩
          · obtain ⟨A, hA⟩ : ∃ x, ansM st ⟨7, pid, 0, 0, 0, []⟩ = x := ⟨_, rfl⟩
            rw [hA] at her ⊢
            obtain ⟨E, pE, dE, lE⟩ := A
            have her' : E ≠ 0 := her
            have q1 : decide (E = 0) = false := decide_eq_false her'
            have q2 : (E != 0) = true := by simpa using her'
            have q3 : (E == 0) = false := by simpa using her'
            have hm7 := HM7.out
            rw [hst1] at hm7
            have hb8 := below_a w7 (.cells #[.int .i64 E, .int .i64 pE, .slice xa dE.length xc, .slice ya lE.length yc] 40)
            have hr8 := heap_alloc_new w7 (.cells #[.int .i64 E, .int .i64 pE, .slice xa dE.length xc, .slice ya lE.length yc] 40)
            obtain ⟨y0, y1, y2, y3⟩ := cells4a hr8
            have HW8 := Lib.hid (weight_any (hm7.below hb8))
            have HB8 := Lib.hid (Below.call HB7.out hb8)
            clear hm7 hb8 hr8 hA her hst1
            go_wp2_with fail
            refine HW8.out.mono ?_
            rintro e w9 ⟨rfl, hb9⟩
            have HB9 := Lib.hid (Below.call HB8.out hb9)
            clear hb9
            go_wp2
            go_ret
            exact ⟨by simp, HB9.out⟩
          · rw [han]
            have hm7 := HM7.out
            rw [hst1] at hm7
            dsimp only
            have hb8 := below_a w7 (.cells #[.int .i64 0, .int .i64 (k0 : Int), .slice xa ([] : List Int).length xc, .slice ya ([] : List Int).length yc] 40)
            have hr8 := heap_alloc_new w7 (.cells #[.int .i64 0, .int .i64 (k0 : Int), .slice xa ([] : List Int).length xc, .slice ya ([] : List Int).length yc] 40)
            obtain ⟨y0, y1, y2, y3⟩ := cells4a hr8
            have hm8 := hm7.below hb8
            have hne : pid ≠ (k0 : Int) := fun e => by rw [e, hnk] at hhp; cases hhp
            have hr1 : (forkM st k0 pid).rs pid = st.rs pid := upd_other _ _ hne
            have hr2 : (forkM st k0 pid).rs (k0 : Int) = st.rs pid := upd_same _ _ _
            have hs1 : (forkM st k0 pid).ms pid = st.ms pid := upd_other _ _ hne
            have hs2 : (forkM st k0 pid).ms (k0 : Int) = st.ms pid := upd_same _ _ _
            have hfw := fork_weight HM6.out.ok (pid := pid) hk0 hnk
            have hwb := weight_bd HM6.out
            have hkb := HM6.out.ok.prL
            have HK0 : Hid ((Lit.int .i64 (k0 : Int)).wf = true) := WalkArith.wf_i64 ⟨by omega, by omega⟩
            obtain ⟨F, hF⟩ : ∃ s, forkM st k0 pid = s := ⟨_, rfl⟩
            rw [hF] at hm8 hr1 hr2 hs1 hs2 hfw
            obtain ⟨R, hR⟩ : ∃ x, st.rs pid = x := ⟨_, rfl⟩
            rw [hR] at hr1 hr2 hfw
            obtain ⟨X, hX⟩ : ∃ x, (st.ms pid).map Prod.fst = x := ⟨_, rfl⟩
            have hXl : (st.ms pid).length = X.length := by rw [← hX, List.length_map]
            rw [hXl] at hfw
            have hRl : R.length ≤ 32 := by rw [← hR]; exact HM6.out.few pid
            have hXb : X.length ≤ 65536 := by rw [← hXl]; exact HM6.out.ok.few pid
            obtain ⟨W, hW⟩ : ∃ x, weightM st = x := ⟨_, rfl⟩
            rw [hW] at hfw hwb ⊢
            have u1 : IntKind.i64.wrap (W + 1) = W + 1 := by rw [IntKind.wrap_i64]; omega
            have u2 : IntKind.i64.wrap (W + 1 + (R.length : Int)) = W + 1 + R.length := by rw [IntKind.wrap_i64]; omega
            have u3 : IntKind.i64.wrap (W + 1 + (R.length : Int) + (X.length : Int)) = W + 1 + R.length + X.length := by rw [IntKind.wrap_i64]; omega
            have hcw := weight_any hm8
            rw [hfw] at hcw
            have HCW := Lib.hid hcw
            have HNE := Lib.hid hne
            have HM8 := Lib.hid hm8
            have HB8 := Lib.hid (Below.call HB7.out hb8)
            have HRA := Lib.hid hr1
            have HRB := Lib.hid hr2
            have HMS := Lib.hid (show F.ms (k0 : Int) = F.ms pid by rw [hs1, hs2])
            have HSA := Lib.hid (show (F.ms pid).map Prod.fst = X by rw [hs1]; exact hX)
            have HSB := Lib.hid (show (F.ms (k0 : Int)).map Prod.fst = X by rw [hs2]; exact hX)
            have HRL := Lib.hid hRl
            have HROW := Lib.hid hr8
            have HT8 := Lib.hid (HT7.out.call hb8)
            clear hcw hm8 hm7 hb8 hr8 hr1 hr2 hs1 hs2 hfw hF hR hX hXl hW hst1 han hne HM7 HM6 HM5 HT7 hnk hhp hk0 hkb hRl hwb
            go_wp2_with fail
            refine HCW.out.mono ?_
            rintro e w9 ⟨rfl, hb9⟩
            have HM9 := Lib.hid (HM8.out.below hb9)
            have HB9 := Lib.hid (Below.call HB8.out hb9)
            replace y1 := (Below.cell hb9 (block_lt_of_cell y1)).trans y1
            replace HT8 := Lib.hid (HT8.out.call hb9)
            clear hb9 HCW
            have hcr := regions_any HM9.out pid HP.out
            rw [HRA.out] at hcr
            have HCR := Lib.hid hcr
            clear hcr
            go_wp2_with fail
            refine HCR.out.mono ?_
            rintro e w10 ⟨v10, rfl, ho10, hb10⟩
            obtain ⟨a10, c10, rfl⟩ := ho10.shape
            have HM10 := Lib.hid (HM9.out.below hb10)
            have HB10 := Lib.hid (Below.call HB9.out hb10)
            replace y1 := (Below.cell hb10 (block_lt_of_cell y1)).trans y1
            replace HT8 := Lib.hid (HT8.out.call hb10)
            clear ho10 hb10 HCR
            have hcs := stored_any HM10.out pid
            rw [HSA.out] at hcs
            have HCS := Lib.hid hcs
            clear hcs
            go_wp2_with fail
            refine HCS.out.mono ?_
            rintro e w11 ⟨v11, rfl, ho11, hb11⟩
            obtain ⟨a11, c11, rfl⟩ := ho11.shape
            have HM11 := Lib.hid (HM10.out.below hb11)
            have HB11 := Lib.hid (Below.call HB10.out hb11)
            replace y1 := (Below.cell hb11 (block_lt_of_cell y1)).trans y1
            replace HT8 := Lib.hid (HT8.out.call hb11)
            clear ho11 hb11 HCS
            have hcr := regions_any HM11.out (k0 : Int) HK0.out
            rw [HRB.out] at hcr
            have HCR := Lib.hid hcr
            clear hcr
            go_wp2_with fail
            refine HCR.out.mono ?_
            rintro e w12 ⟨v12, rfl, ho12, hb12⟩
            obtain ⟨a12, c12, rfl⟩ := ho12.shape
            have HM12 := Lib.hid (HM11.out.below hb12)
            have HB12 := Lib.hid (Below.call HB11.out hb12)
            have HO12 := Lib.hid (ho12.rd rgC)
            replace y1 := (Below.cell hb12 (block_lt_of_cell y1)).trans y1
            replace HT8 := Lib.hid (HT8.out.call hb12)
            clear ho12 hb12 HCR
            have hcr := regions_any HM12.out pid HP.out
            rw [HRA.out] at hcr
            have HCR := Lib.hid hcr
            clear hcr
            go_wp2_with fail
            refine HCR.out.mono ?_
            rintro e w13 ⟨v13, rfl, ho13, hb13⟩
            obtain ⟨a13, c13, rfl⟩ := ho13.shape
            have HM13 := Lib.hid (HM12.out.below hb13)
            have HB13 := Lib.hid (Below.call HB12.out hb13)
            have HRS := Lib.hid (regs_yes a12 a13 R.length c12 c13 R w13 (HO12.out.below hb13) (ho13.rd rgC) (by have := HRL.out; omega))
            replace y1 := (Below.cell hb13 (block_lt_of_cell y1)).trans y1
            replace HT8 := Lib.hid (HT8.out.call hb13)
            clear ho13 hb13 HCR HO12
            go_wp2_with fail
            refine HRS.out.mono ?_
            rintro e w14 ⟨rfl, hb14⟩
            have HM14 := Lib.hid (HM13.out.below hb14)
            have HB14 := Lib.hid (Below.call HB13.out hb14)
            replace y1 := (Below.cell hb14 (block_lt_of_cell y1)).trans y1
            replace HT8 := Lib.hid (HT8.out.call hb14)
            clear hb14 HRS
            have hcs := stored_any HM14.out (k0 : Int)
            rw [HSB.out] at hcs
            have HCS := Lib.hid hcs
            clear hcs
            go_wp2_with fail
            refine HCS.out.mono ?_
            rintro e w15 ⟨v15, rfl, ho15, hb15⟩
            obtain ⟨a15, c15, rfl⟩ := ho15.shape
            have HM15 := Lib.hid (HM14.out.below hb15)
            have HB15 := Lib.hid (Below.call HB14.out hb15)
            have HO15 := Lib.hid ho15.rd
            replace y1 := (Below.cell hb15 (block_lt_of_cell y1)).trans y1
            replace HT8 := Lib.hid (HT8.out.call hb15)
            clear ho15 hb15 HCS
            have hcs := stored_any HM15.out pid
            rw [HSA.out] at hcs
            have HCS := Lib.hid hcs
            clear hcs
            go_wp2_with fail
            refine HCS.out.mono ?_
            rintro e w16 ⟨v16, rfl, ho16, hb16⟩
            obtain ⟨a16, c16, rfl⟩ := ho16.shape
            have HM16 := Lib.hid (HM15.out.below hb16)
            have HB16 := Lib.hid (Below.call HB15.out hb16)
            have HIN := Lib.hid (ints_yes a15 X.length c15 a16 X.length c16 X w16 (HO15.out.below hb16) ho16.rd)
            replace y1 := (Below.cell hb16 (block_lt_of_cell y1)).trans y1
            replace HT8 := Lib.hid (HT8.out.call hb16)
            clear ho16 hb16 HCS
            go_wp2_with fail
            refine HIN.out.mono ?_
            rintro e w17 ⟨rfl, hb17⟩
            have HM17 := Lib.hid (HM16.out.below hb17)
            have HB17 := Lib.hid (Below.call HB16.out hb17)
            replace y1 := (Below.cell hb17 (block_lt_of_cell y1)).trans y1
            replace HT8 := Lib.hid (HT8.out.call hb17)
            clear hb17 HIN HO15
            have hcs := stored_any HM17.out pid
            rw [HSA.out] at hcs
            have HCS := Lib.hid hcs
            clear hcs
            go_wp2_with fail
            refine HCS.out.mono ?_
            rintro e w18 ⟨v18, rfl, ho18, hb18⟩
            have HS17 := Lib.hid HT8.out.size
            obtain ⟨a18, c18, rfl⟩ := ho18.shape
            have HM18 := Lib.hid (HM17.out.below hb18)
            have HB18 := Lib.hid (Below.call HB17.out hb18)
            have HL18 := Lib.hid ho18
            replace y1 := (Below.cell hb18 (block_lt_of_cell y1)).trans y1
            replace HT8 := Lib.hid (HT8.out.call hb18)
            clear ho18 hb18 HCS
            have hcr := regions_any HM18.out pid HP.out
            rw [HRA.out] at hcr
            have HCR := Lib.hid hcr
            clear hcr
            go_wp2_with fail
            refine HCR.out.mono ?_
            rintro e w19 ⟨v19, rfl, ho19, hb19⟩
            have HS18 := Lib.hid HT8.out.size
            obtain ⟨a19, c19, rfl⟩ := ho19.shape
            have HM19 := Lib.hid (HM18.out.below hb19)
            have HB19 := Lib.hid (Below.call HB18.out hb19)
            have HR19 := Lib.hid ho19
            have HL19 := Lib.hid (HL18.out.below hb19)
            replace y1 := (Below.cell hb19 (block_lt_of_cell y1)).trans y1
            replace HT8 := Lib.hid (HT8.out.call hb19)
            clear ho19 hb19 HCR HL18
            have HFA : Hid (∀ q, q < X.length → findB (F.rs pid) (nth X q) = true) := fun q hq => by
              have h1 := HSA.out
              have h2 : nth X q ∈ (F.ms pid).map Prod.fst := by rw [h1, nth_eq hq]; exact List.getElem_mem hq
              obtain ⟨x, hx, he⟩ := List.mem_map.1 h2
              rw [← he]
              exact (HM19.out.ok.pg pid x hx).2
            have HFB : Hid (∀ q, q < X.length → findB (F.rs (k0 : Int)) (nth X q) = true) := fun q hq => by rw [HRB.out, ← HRA.out]; exact HFA.out q hq
            have HXB := Lib.hid hXb
            clear hXb
            go_wp2_with fail
            go_loopw [15, 16] (fun pv iv wr => ∃ (q : Nat) (vs : List Value), q ≤ X.length ∧ iv = .int .i64 q ∧ Hid (Below w19.heap.size w19 wr) ∧ Hid (RowsIn wr NoQ pv vs ((X.take q).map (fun x => pgB F.c.page (F.ms pid) x))) ∧ Hid (∀ g, pv.ownBlock = some g → w19.heap.size ≤ g)) (fun _ iv _ => X.length - (intOf iv).toNat)
            case atStart => exact ⟨0, [], by omega, rfl, Below.refl _ _, RowsIn.nil _ _, fun g hg => (by cases hg)⟩
            case round =>
              obtain ⟨q, vs, hq, rfl, HB, HROWS, HGE⟩ := hrel
              obtain ⟨pa, pc, rfl⟩ := HROWS.out.shape
              have HVL : Hid (vs.length = q) := by show vs.length = q; rw [HROWS.out.len, List.length_map, List.length_take]; omega
              by_cases hlt : q < X.length
              · have dl : decide ((q : Int) < (X.length : Int)) = true := decide_eq_true (by omega)
                obtain ⟨bl, ol, rfl, hcl⟩ := (HL19.out.rd.below HB.out).cell q hlt
                have hwf := HL19.out.rd.wfAt q hlt
                have hm := HM19.out.below HB.out
                have HC1 := Lib.hid (pageof_yes hm pid (nth X q) HP.out hwf (HFA.out q hlt))
                have HMR := Lib.hid hm
                have HWF := Lib.hid hwf
                replace y1 := (Below.cell HB.out (block_lt_of_cell y1)).trans y1
                have HCL := Lib.hid hcl
                clear hm hwf
                go_wp2_with fail
                refine HC1.out.mono ?_
                rintro e w20 ⟨v20, rfl, ho20, hb20⟩
                obtain ⟨a20, c20, rfl⟩ := ho20.shape
                have HM20 := Lib.hid (HMR.out.below hb20)
                have HB20 := Lib.hid (Below.call HB.out hb20)
                have HO20 := Lib.hid ho20
                have HY1 := Lib.hid ((Below.cell hb20 (block_lt_of_cell y1)).trans y1)
                have HCL20 := Lib.hid ((Below.cell hb20 (block_lt_of_cell HCL.out)).trans HCL.out)
                have HR20 := Lib.hid (HROWS.out.below hb20)
                have HS20 := Lib.hid hb20.size
                clear ho20 hb20 HC1 y1 hcl HCL
                go_wp2_with fail
                refine' reg_free (G := Kept) (pickF [eqV _, eqV _, eqV _, eqV _, eqV _, eqV _, eqV _, (fun v w => ∃ a n c, v = .tuple #[.slice a n c, .bool true] ∧ RdAt .u8 w a n c (pgB F.c.page (F.ms pid) (nth X q))), (fun v w => ∃ a n c, v = .tuple #[.slice a n c, .bool true] ∧ RdAt .u8 w a n c (pgB F.c.page (F.ms pid) (nth X q))), isBytes (pgB F.c.page (F.ms pid) (nth X q)), eqV _, isBytes (pgB F.c.page (F.ms pid) (nth X q)), eqV _]) [125, 126, 127, 128, 129, 130, 131, 132, 124, 133, 134, 19, 20] [[], [], [1], [], [], [3, 4], [5], [0, 2, 6], [7], [8], [8], [9], [10]] [0, 1, 2, 3, 4, 5, 6, 7, 8, 9, 10, 11, 12] (by kernel_rfl) Kept.refl Kept.trans (pick_stays ⟨eqV_stays _, eqV_stays _, eqV_stays _, eqV_stays _, eqV_stays _, eqV_stays _, eqV_stays _, (fun _ _ _ h hb => by obtain ⟨a, n, c, e, hr⟩ := h; exact ⟨a, n, c, e, hr.below hb⟩), (fun _ _ _ h hb => by obtain ⟨a, n, c, e, hr⟩ := h; exact ⟨a, n, c, e, hr.below hb⟩), isBytes_stays _, eqV_stays _, isBytes_stays _, eqV_stays _, trivial⟩) 206 rfl (by kernel_rfl) (by kernel_rfl) rfl rfl ?r1obl ?r1fin
                case r1obl =>
                  refine And.intro ?r1o0 (And.intro ?r1o1 (And.intro ?r1o2 (And.intro ?r1o3 (And.intro ?r1o4 (And.intro ?r1o5 (And.intro ?r1o6 (And.intro ?r1o7 (And.intro ?r1o8 (And.intro ?r1o9 (And.intro ?r1o10 (And.intro ?r1o11 (And.intro ?r1o12 (True.intro)))))))))))))
                  case r1o0 =>
                    intro w1 hG
                    refine turn_on (by rfl) ?_
                    intro K hK
                    go_simp
                    refine hK _ _ ⟨rfl, Kept.refl _, ?_⟩
                    show _ = _
                    simp only [gv1]
                    rfl
                  case r1o1 =>
                    intro w1 hG
                    refine turn_on (by rfl) ?_
                    intro K hK
                    go_simp
                    refine hK _ _ ⟨rfl, Kept.refl _, ?_⟩
                    show _ = _
                    simp only [gv1]
                    rfl
                  case r1o2 =>
                    intro w1 hG
                    intro v1 h1
                    change _ = _ at h1
                    subst h1
                    refine turn_on (by rfl) ?_
                    intro K hK
                    simp only [gv2]
                    have y1 := (Below.cell (kept_0 hG) (block_lt_of_cell HY1.out)).trans HY1.out
                    go_simp
                    refine hK _ _ ⟨rfl, Kept.refl _, ?_⟩
                    show _ = _
                    simp only [gv1]
                    rfl
                  case r1o3 =>
                    intro w1 hG
                    refine turn_on (by rfl) ?_
                    intro K hK
                    go_simp
                    refine hK _ _ ⟨rfl, Kept.refl _, ?_⟩
                    show _ = _
                    simp only [gv1]
                    rfl
                  case r1o4 =>
                    intro w1 hG
                    refine turn_on (by rfl) ?_
                    intro K hK
                    go_simp
                    refine hK _ _ ⟨rfl, Kept.refl _, ?_⟩
                    show _ = _
                    simp only [gv1]
                    rfl
                  case r1o5 =>
                    intro w1 hG
                    intro v3 h3
                    change _ = _ at h3
                    subst h3
                    intro v4 h4
                    change _ = _ at h4
                    subst h4
                    refine turn_on (by rfl) ?_
                    intro K hK
                    simp only [gv2]
                    go_simp
                    refine hK _ _ ⟨rfl, Kept.refl _, ?_⟩
                    show _ = _
                    simp only [gv1]
                    rfl
                  case r1o6 =>
                    intro w1 hG
                    intro v5 h5
                    change _ = _ at h5
                    subst h5
                    refine turn_on (by rfl) ?_
                    intro K hK
                    simp only [gv2]
                    have cl := (Below.cell (kept_0 hG) (block_lt_of_cell HCL20.out)).trans HCL20.out
                    go_simp
                    refine hK _ _ ⟨rfl, Kept.refl _, ?_⟩
                    show _ = _
                    simp only [gv1]
                    rfl
                  case r1o7 =>
                    intro w1 hG
                    intro v0 h0
                    change _ = _ at h0
                    subst h0
                    intro v2 h2
                    change _ = _ at h2
                    subst h2
                    intro v6 h6
                    change _ = _ at h6
                    subst h6
                    refine turn_on (by rfl) ?_
                    intro K hK
                    simp only [gv2]
                    go_simp
                    refine Calls.mono (pageof_yes (HM20.out.below (kept_0 hG)) (k0 : Int) (nth X q) HK0.out HWF.out (HFB.out q hlt)) ?_
                    rintro e w2 ⟨vv, rfl, hov, hbx⟩
                    rw [HMS.out] at hov
                    refine hK _ _ ⟨rfl, hbx, ?_⟩
                    obtain ⟨a9, c9, rfl⟩ := hov.shape
                    exact ⟨_, _, _, rfl, hov.rd⟩
                  case r1o8 =>
                    intro w1 hG
                    intro v7 h7
                    obtain ⟨a7, n7, c7, rfl, h7⟩ := h7
                    refine turn_on (by rfl) ?_
                    intro K hK
                    simp only [gv2]
                    go_simp
                    refine hK _ _ ⟨rfl, Kept.refl _, ?_⟩
                    exact ⟨_, _, _, rfl, h7⟩
                  case r1o9 =>
                    intro w1 hG
                    intro v8 h8
                    obtain ⟨a8, n8, c8, rfl, h8⟩ := h8
                    refine turn_on (by rfl) ?_
                    intro K hK
                    simp only [gv2]
                    go_simp
                    refine hK _ _ ⟨rfl, Kept.refl _, ?_⟩
                    show isBytes _ _ _
                    simp only [gv1]
                    exact h8.isBytes
                  case r1o10 =>
                    intro w1 hG
                    intro v8 h8
                    obtain ⟨a8, n8, c8, rfl, h8⟩ := h8
                    refine turn_on (by rfl) ?_
                    intro K hK
                    simp only [gv2]
                    go_simp
                    refine hK _ _ ⟨rfl, Kept.refl _, ?_⟩
                    show _ = _
                    simp only [gv1]
                    rfl
                  case r1o11 =>
                    intro w1 hG
                    intro v9 h9
                    obtain ⟨a9, n9, c9, rfl, h9⟩ := h9
                    refine turn_on (by rfl) ?_
                    intro K hK
                    simp only [gv2]
                    go_simp
                    refine hK _ _ ⟨rfl, Kept.refl _, ?_⟩
                    show isBytes _ _ _
                    simp only [gv1]
                    exact h9.isBytes
                  case r1o12 =>
                    intro w1 hG
                    intro v10 h10
                    change _ = _ at h10
                    subst h10
                    refine turn_on (by rfl) ?_
                    intro K hK
                    simp only [gv2]
                    go_simp
                    refine hK _ _ ⟨rfl, Kept.refl _, ?_⟩
                    show _ = _
                    simp only [gv1]
                    rfl
                intro w1 hG
                intro v0 h0
                change _ = _ at h0
                subst h0
                intro v1 h1
                change _ = _ at h1
                subst h1
                intro v2 h2
                change _ = _ at h2
                subst h2
                intro v3 h3
                change _ = _ at h3
                subst h3
                intro v4 h4
                change _ = _ at h4
                subst h4
                intro v5 h5
                change _ = _ at h5
                subst h5
                intro v6 h6
                change _ = _ at h6
                subst h6
                intro v7 h7
                obtain ⟨a7, n7, c7, rfl, h7⟩ := h7
                intro v8 h8
                obtain ⟨a8, n8, c8, rfl, h8⟩ := h8
                intro v9 h9
                obtain ⟨a9, n9, c9, rfl, h9⟩ := h9
                intro v10 h10
                change _ = _ at h10
                subst h10
                intro v11 h11
                obtain ⟨a11, n11, c11, rfl, h11⟩ := h11
                intro v12 h12
                change _ = _ at h12
                subst h12
                simp only [Given, gv2]
                have hg := kept_0 hG
                have k1 := conv_rd (P := Try.prog) u8T s8 su (HO20.out.rd.below hg)
                have k2 := conv_rd (P := Try.prog) u8T s8 su h11
                have HR1 := Lib.hid (HR20.out.below hg)
                have HB1 := Lib.hid (Below.call HB20.out hg)
                have HX1 := Lib.hid (HO20.out.rd.below hg)
                have HNQ : Hid (∀ x, a20 = some x → 0 < (pgB F.c.page (F.ms pid) (nth X q)).length → ¬ NoQ x.block ∧ some x.block ≠ (Value.slice pa vs.length pc).ownBlock) := fun x hx h0 => by
                  have h1 := HO20.out.blk x hx h0
                  refine ⟨fun hk => ?_, fun e => ?_⟩
                  · have h2 := HMR.out.lt _ hk; omega
                  · have h2 := (HROWS.out.own.lt _ e.symm).2; omega
                have HQL : Hid (∀ k, NoQ k → k < w1.heap.size) := fun k hk => Nat.lt_of_lt_of_le (HM20.out.lt _ hk) hg.size
                have hvb : vs.length ≤ 1000000 := by have := HXB.out; have := HVL.out; omega
                have hxb := HXB.out
                clear hG hg h11 h7 h8 h9 HO20
                go_wp2_with (first | (at_builtin; refine rowsin_one rfl (.tmp 145) (.tmp 147) rfl w1 NoQ (Value.slice pa vs.length pc) vs _ rfl HR1.out a20 _ c20 _ HX1.out HNQ.out HQL.out rfl hvb ?_; intro v5 w5 hW5 hg5 hb5; obtain ⟨a5, c5, rfl⟩ := hW5.shape; have W5_ := Lib.hid hW5; have G5_ := Lib.hid hg5; have B5_ := Lib.hid hb5; clear hW5 hg5 hb5))
                go_roundw
                case rel =>
                  have hw5 := W5_.out
                  rw [List.length_append] at hw5
                  refine ⟨q + 1, vs ++ [Value.slice a20 (pgB F.c.page (F.ms pid) (nth X q)).length c20], by omega, by go_num, Below.grown HB1.out G5_.out HB1.out.size (fun g hg => HGE.out g hg), ?_, ?_⟩
                  · rw [List.take_add_one, List.getElem?_eq_getElem hlt, List.map_append]
                    rw [show nth X q = X[q] from nth_eq hlt] at hw5 ⊢
                    exact hw5
                  · intro g hg
                    have h9 := B5_.out
                    rw [List.length_append] at h9
                    rcases h9 with h9 | h9
                    · exact HGE.out g (by rw [← h9]; exact hg)
                    · exact Nat.le_trans HB1.out.size (h9 g hg)
                case measure => simp [intOf] <;> omega
              · obtain rfl : q = X.length := by omega
                rw [List.take_length] at HROWS
                have HB20 := Lib.hid (HB19.out.trans (HB.out.mono HB19.out.size))
                have hsz : w.heap.size + 1 < w4.heap.size := (Array.getElem?_eq_some_iff.1 HO4.out).1
                have hnw4 : ¬ hh.own (w.heap.size + 1) := fun hk => by have h1 := HOW3.out _ hk; have h2 := (Array.getElem?_eq_some_iff.1 HO3.out).1; omega
                have HO20 := Lib.hid (row_keep (row_tn HO4.out HT8.out hnw4) HB.out)
                have HM20 := Lib.hid (HM19.out.below HB.out)
                have HR20 := Lib.hid (HR19.out.below HB.out)
                have HL20 := Lib.hid (HL19.out.below HB.out)
                have HT20 := Lib.hid (HT8.out.call HB.out)
                have HNW4 := Lib.hid hnw4
                have HSZ4 := Lib.hid hsz
                replace y1 := (Below.cell HB.out (block_lt_of_cell y1)).trans y1
                obtain ⟨o0, o1, o2, o3, o4, o5⟩ := cells6 HO20.out
                clear hsz hnw4
                obtain ⟨w21, hw21⟩ : ∃ x, sets wr (w.heap.size + 1) [(1, .int .i64 (k0 : Int))] = x := ⟨_, rfl⟩
                have hg := sets_grown (b := w.heap.size + 1) [(1, .int .i64 (k0 : Int))] wr
                have hr7 := sets_row [(1, .int .i64 (k0 : Int))] HO20.out
                rw [hw21] at hg hr7
                replace hr7 : w21.heap[w.heap.size + 1]? = some (.cells #[.int .i64 T.kind, .int .i64 (k0 : Int), .int .i64 T.at_, .int .i64 T.n, .int .i64 T.prot, .slice ta tn tc] 27 (0, 0)) := hr7
                have htn : Tn (fun k => k = w.heap.size + 1) wr w21 := (Tn.refl _ _).put hg (.inl rfl)
                have hsq := HSZ4.out
                have HM21 := Lib.hid (HM20.out.tn htn (fun k e => by rw [e]; exact ⟨HNQX.out, HNW4.out⟩))
                have HROW21 := Lib.hid (HROWS.out.tn htn (fun k e => by rw [e]; exact HNQX.out))
                have HR21 := Lib.hid (HR20.out.tn htn (fun k e => by have h1 := HS17.out; have h2 := HS18.out; omega))
                have HL21 := Lib.hid (owns_tn HL20.out htn (fun k e => by have h1 := HS17.out; have h2 := HS18.out; omega))
                have HB21 : Hid (Below w.heap.size w w21) := HB20.out.trans (htn.below (fun k hk e => by omega) HB20.out.size)
                have HT21 := Lib.hid ((HT.out.below HB21.out))
                obtain ⟨p0, p1, p2, p3, p4, p5⟩ := cells6 hr7
                have HP0 := Lib.hid p0
                have HCR := Lib.hid (oprefright_any (dc := tc) (w := w21) ta tn ⟨T.kind, (k0 : Int), T.at_, T.n, T.prot, T.data⟩ HT.out.len)
                have HROW7 := Lib.hid hr7
                obtain ⟨RO, hRO⟩ : ∃ x, rightOp ⟨T.kind, (k0 : Int), T.at_, T.n, T.prot, T.data⟩ = x := ⟨_, rfl⟩
                rw [hRO] at HCR
                replace hw21 : wr.setCell ⟨w.heap.size + 1, 1, none⟩ (.int .i64 (k0 : Int)) = w21 := hw21
                have hfz : wr.frozen? ⟨w.heap.size + 1, 1, none⟩ = false := frozen_of_row wr (w.heap.size + 1) 1 _ _ HO20.out
                clear hg hr7 htn hsq hRO
                go_wp2_with (rw [hw21])
                refine Calls.mono HCR.out ?_
                rintro e w22 ⟨rfl, hb22⟩
                have HB22 := Lib.hid (Below.call HB21.out hb22)
                have HM22 := Lib.hid (HM21.out.below hb22)
                have HROW22 := Lib.hid (HROW21.out.below hb22)
                have HR22 := Lib.hid (HR21.out.below hb22)
                have HL22 := Lib.hid (HL21.out.below hb22)
                have HT22 := Lib.hid (HT21.out.below hb22)
                replace p0 := (Below.cell hb22 (block_lt_of_cell p0)).trans p0
                replace p1 := (Below.cell hb22 (block_lt_of_cell p1)).trans p1
                replace p2 := (Below.cell hb22 (block_lt_of_cell p2)).trans p2
                replace p3 := (Below.cell hb22 (block_lt_of_cell p3)).trans p3
                replace p4 := (Below.cell hb22 (block_lt_of_cell p4)).trans p4
                replace p5 := (Below.cell hb22 (block_lt_of_cell p5)).trans p5
                clear hb22 HCR hw21 y1 o0 o1 o2 o3 o4 o5
                cases RO with
                | false =>
                  go_wp2
                  go_ret
                  exact ⟨rfl, HB22.out⟩
                | true =>
                  by_cases k7 : T.kind = 7
                  · have b7 : (T.kind == 7) = true := by simpa using k7
                    have d7 : decide (T.kind = 7) = true := decide_eq_true k7
                    clear k7
                    go_wp2
                    go_ret
                    exact ⟨rfl, HB22.out⟩
                  by_cases k1 : T.kind = 1
                  · have b7 : (T.kind == 7) = false := by simpa using k7
                    have b1 : (T.kind == 1) = true := by simpa using k1
                    have d7 : decide (T.kind = 7) = false := decide_eq_false k7
                    have d1 : decide (T.kind = 1) = true := decide_eq_true k1
                    clear k7 k1
                    go_wp2
                    go_ret
                    exact ⟨rfl, HB22.out⟩
                  have b7 : (T.kind == 7) = false := by simpa using k7
                  have b1 : (T.kind == 1) = false := by simpa using k1
                  have d7 : decide (T.kind = 7) = false := decide_eq_false k7
                  have d1 : decide (T.kind = 1) = false := decide_eq_false k1
                  have hap := step_apart (st := F) (o := ⟨T.kind, (k0 : Int), T.at_, T.n, T.prot, T.data⟩) k1 k7 (p := pid) HNE.out
                  have hdo := do_any HM22.out ⟨T.kind, (k0 : Int), T.at_, T.n, T.prot, T.data⟩ ta tn tc HK0.out HW.out.2.2.1 HW.out.2.2.2.1 HT22.out (fun x hx h0 hk => by have h1 := HT.out.lt x hx h0; have h2 := HNQG.out _ hk; have h3 := HB0.out.size; omega)
                  obtain ⟨st3, hst3⟩ : ∃ x, stepM F ⟨T.kind, (k0 : Int), T.at_, T.n, T.prot, T.data⟩ = x := ⟨_, rfl⟩
                  rw [hst3] at hap hdo
                  have HAP := Lib.hid hap
                  have HDO2 := Lib.hid hdo
                  clear k7 k1 hap hdo hst3
                  go_wp2_with fail
                  refine HDO2.out.mono ?_
                  rintro e w23 ⟨dv, pv, rfl, _, _, hm23, ht23⟩
                  have HM23 := Lib.hid hm23
                  have HB23 : Hid (Below w.heap.size w w23) := HB22.out.trans (ht23.below (fun k hk ho => by have := HOWN.out k ho; omega) HB22.out.size)
                  have HROW23 := Lib.hid (HROW22.out.tn ht23 (fun k ho => HM22.out.own_no k ho))
                  have HR23 := Lib.hid (HR22.out.tn ht23 (fun k ho => by have h1 := HOLT.out k ho; have h2 := HS18.out; omega))
                  have HL23 := Lib.hid (owns_tn HL22.out ht23 (fun k ho => by have h1 := HOLT.out k ho; have h2 := HS17.out; omega))
                  have hc := regions_any HM23.out pid HP.out
                  rw [HAP.out.1, HRA.out] at hc
                  have HC24 := Lib.hid hc
                  clear hm23 ht23 hc HDO2 p0 p1 p2 p3 p4 p5
                  go_wp2_with fail
                  refine HC24.out.mono ?_
                  rintro e w24 ⟨v24, rfl, ho24, hb24⟩
                  obtain ⟨a24, c24, rfl⟩ := ho24.shape
                  have HB24 := Lib.hid (Below.call HB23.out hb24)
                  have HR24 := Lib.hid (HR23.out.below hb24)
                  have HL24 := Lib.hid (HL23.out.below hb24)
                  have HM24 := Lib.hid (HM23.out.below hb24)
                  have HROW24 := Lib.hid (HROW23.out.below hb24)
                  have HC25 := Lib.hid (regs_yes a24 a19 R.length c24 c19 R w24 (ho24.rd rgC) (HR24.out.rd rgC) (by have := HRL.out; omega))
                  clear ho24 hb24 HC24
                  go_wp2_with fail
                  refine HC25.out.mono ?_
                  rintro e w25 ⟨rfl, hb25⟩
                  have HB25 := Lib.hid (Below.call HB24.out hb25)
                  have HL25 := Lib.hid (HL24.out.below hb25)
                  have HM25 := Lib.hid (HM24.out.below hb25)
                  have HROW25 := Lib.hid (HROW24.out.below hb25)
                  have hc := stored_any HM25.out pid
                  rw [HAP.out.2.1, HSA.out] at hc
                  have HC26 := Lib.hid hc
                  clear hb25 hc HC25
                  go_wp2_with fail
                  refine HC26.out.mono ?_
                  rintro e w26 ⟨v26, rfl, ho26, hb26⟩
                  obtain ⟨a26, c26, rfl⟩ := ho26.shape
                  have HB26 := Lib.hid (Below.call HB25.out hb26)
                  have HL26 := Lib.hid (HL25.out.below hb26)
                  have HM26 := Lib.hid (HM25.out.below hb26)
                  have HROW26 := Lib.hid (HROW25.out.below hb26)
                  have HC27 := Lib.hid (ints_yes a26 X.length c26 a18 X.length c18 X w26 ho26.rd HL26.out.rd)
                  clear ho26 hb26 HC26
                  go_wp2_with fail
                  refine HC27.out.mono ?_
                  rintro e w27 ⟨rfl, hb27⟩
                  have HB27 := Lib.hid (Below.call HB26.out hb27)
                  have HL27 := Lib.hid (HL26.out.below hb27)
                  have HM27 := Lib.hid (HM26.out.below hb27)
                  have HROW27 := Lib.hid (HROW26.out.below hb27)
                  clear hb27 HC27
                  go_wp2_with fail
                  obtain ⟨wT, hwT⟩ : ∃ x : World, x = wr := ⟨_, rfl⟩
                  subst hwT
                  have hxb := HXB.out
                  go_loopw [21] (fun iv wr => ∃ q : Nat, q ≤ X.length ∧ iv = .int .i64 q ∧ Hid (Below w27.heap.size w27 wr)) (fun iv _ => X.length - (intOf iv).toNat)
                  case atStart => exact ⟨0, by omega, rfl, Below.refl _ _⟩
                  case round =>
                    obtain ⟨q, hq, rfl, HB⟩ := hrel
                    by_cases hlt : q < X.length
                    · have dl : decide ((q : Int) < (X.length : Int)) = true := decide_eq_true (by omega)
                      obtain ⟨bl, ol, rfl, hcl⟩ := (HL27.out.rd.below HB.out).cell q hlt
                      have hwf := HL27.out.rd.wfAt q hlt
                      have hmr := HM27.out.below HB.out
                      have hc := pageof_yes hmr pid (nth X q) HP.out hwf (by rw [HAP.out.1]; exact HFA.out q hlt)
                      rw [HAP.out.2.1, HAP.out.2.2] at hc
                      have HC28 := Lib.hid hc
                      obtain ⟨gp, cp, ap, np, cp2, hvp, _, _, hcp, hrp⟩ := (HROW27.out.below HB.out).cell q (pgB F.c.page (F.ms pid) (nth X q)) (by rw [List.getElem?_map, List.getElem?_eq_getElem hlt, nth_eq hlt]; rfl)
                      injection hvp with hv1 hv2 hv3
                      subst hv1 hv3
                      have HCP := Lib.hid hcp
                      have HRP := Lib.hid hrp
                      clear hc hmr hwf hv2 hcp hrp
                      go_wp2_with fail
                      refine HC28.out.mono ?_
                      rintro e w28 ⟨v28, rfl, ho28, hb28⟩
                      obtain ⟨a28, c28, rfl⟩ := ho28.shape
                      have HO28 := Lib.hid ho28
                      have HB28 := Lib.hid (Below.call HB.out hb28)
                      have HCP28 := Lib.hid ((Below.cell hb28 (block_lt_of_cell HCP.out)).trans HCP.out)
                      have HRP28 := Lib.hid (HRP.out.below hb28)
                      clear ho28 hb28 HC28 hcl
                      go_wp2_with fail
                      refine' reg_free (G := Kept) (pickF [eqV _, eqV _, eqV _, eqV _, eqV _, eqV _, eqV _, eqV _]) [198, 199, 200, 201, 202, 203, 204, 205] [[], [0], [], [], [2, 3], [4], [5], [1, 6]] [0, 1, 2, 3, 4, 5, 6, 7] (by kernel_rfl) Kept.refl Kept.trans (pick_stays ⟨eqV_stays _, eqV_stays _, eqV_stays _, eqV_stays _, eqV_stays _, eqV_stays _, eqV_stays _, eqV_stays _, trivial⟩) 206 rfl (by kernel_rfl) (by kernel_rfl) rfl rfl ?r2obl ?r2fin
                      case r2obl =>
                        refine And.intro ?r2o0 (And.intro ?r2o1 (And.intro ?r2o2 (And.intro ?r2o3 (And.intro ?r2o4 (And.intro ?r2o5 (And.intro ?r2o6 (And.intro ?r2o7 (True.intro))))))))
                        case r2o0 =>
                          intro w1 hG
                          refine turn_on (by rfl) ?_
                          intro K hK
                          go_simp
                          refine hK _ _ ⟨rfl, Kept.refl _, ?_⟩
                          show _ = _
                          simp only [gv1]
                          rfl
                        case r2o1 =>
                          intro w1 hG
                          intro v0 h0
                          change _ = _ at h0
                          subst h0
                          refine turn_on (by rfl) ?_
                          intro K hK
                          simp only [gv2]
                          refine wp_conv 199 rfl u8T s8 su _ rfl rfl (HO28.out.rd.below (kept_0 hG)) ?_
                          refine hK _ _ ⟨rfl, Kept.refl _, ?_⟩
                          show _ = _
                          simp only [gv1]
                          rfl
                        case r2o2 =>
                          intro w1 hG
                          refine turn_on (by rfl) ?_
                          intro K hK
                          go_simp
                          refine hK _ _ ⟨rfl, Kept.refl _, ?_⟩
                          show _ = _
                          simp only [gv1]
                          rfl
                        case r2o3 =>
                          intro w1 hG
                          refine turn_on (by rfl) ?_
                          intro K hK
                          go_simp
                          refine hK _ _ ⟨rfl, Kept.refl _, ?_⟩
                          show _ = _
                          simp only [gv1]
                          rfl
                        case r2o4 =>
                          intro w1 hG
                          intro v2 h2
                          change _ = _ at h2
                          subst h2
                          intro v3 h3
                          change _ = _ at h3
                          subst h3
                          refine turn_on (by rfl) ?_
                          intro K hK
                          simp only [gv2]
                          go_simp
                          refine hK _ _ ⟨rfl, Kept.refl _, ?_⟩
                          show _ = _
                          simp only [gv1]
                          rfl
                        case r2o5 =>
                          intro w1 hG
                          intro v4 h4
                          change _ = _ at h4
                          subst h4
                          refine turn_on (by rfl) ?_
                          intro K hK
                          simp only [gv2]
                          have hcc := (Below.cell (kept_0 hG) (block_lt_of_cell HCP28.out)).trans HCP28.out
                          go_simp
                          refine hK _ _ ⟨rfl, Kept.refl _, ?_⟩
                          show _ = _
                          simp only [gv1]
                          rfl
                        case r2o6 =>
                          intro w1 hG
                          intro v5 h5
                          change _ = _ at h5
                          subst h5
                          refine turn_on (by rfl) ?_
                          intro K hK
                          simp only [gv2]
                          refine wp_conv 204 rfl u8T s8 su _ rfl rfl (HRP28.out.below (kept_0 hG)) ?_
                          refine hK _ _ ⟨rfl, Kept.refl _, ?_⟩
                          show _ = _
                          simp only [gv1]
                          rfl
                        case r2o7 =>
                          intro w1 hG
                          intro v1 h1
                          change _ = _ at h1
                          subst h1
                          intro v6 h6
                          change _ = _ at h6
                          subst h6
                          refine turn_on (by rfl) ?_
                          intro K hK
                          simp only [gv2]
                          go_simp
                          refine hK _ _ ⟨rfl, Kept.refl _, ?_⟩
                          show _ = _
                          simp only [gv1]
                          rfl
                      intro w1 hG
                      intro v0 h0
                      change _ = _ at h0
                      subst h0
                      intro v1 h1
                      change _ = _ at h1
                      subst h1
                      intro v2 h2
                      change _ = _ at h2
                      subst h2
                      intro v3 h3
                      change _ = _ at h3
                      subst h3
                      intro v4 h4
                      change _ = _ at h4
                      subst h4
                      intro v5 h5
                      change _ = _ at h5
                      subst h5
                      intro v6 h6
                      change _ = _ at h6
                      subst h6
                      intro v7 h7
                      change _ = _ at h7
                      subst h7
                      simp only [Given, gv2]
                      have HB29 := Lib.hid (Below.call HB28.out (kept_0 hG))
                      clear hG
                      go_wp2_with fail
                      go_roundw
                      case rel => exact ⟨q + 1, by omega, by go_num, HB29⟩
                      case measure => simp [intOf] <;> omega
                    · obtain rfl : q = X.length := by omega
                      go_wp2
                      go_ret
                      exact ⟨rfl, HB27.out.trans (HB.out.mono HB27.out.size)⟩
        · have hnw := newmc_no c w3 hok
          unfold Cf.val at hnw
          have HNW := Lib.hid hnw
          clear hnw
          go_wp2_with fail
          refine HNW.out.mono ?_
          rintro e w4 ⟨rfl, hb4⟩
          have HB4 := Lib.hid (Below.call HB3.out hb4)
          clear hb4
          go_wp2
          go_ret
          exact ⟨rfl, HB4.out⟩
end Go.Proofs.Ytnbjodoajfkekaa

namespace Go.Proofs.Ytnbjodoajfkekaa.modelForks
open Go.ChangeShapes Go.WideShapes Go.ChangeAt Go.RowKit
set_option linter.unusedVariables false

set_option maxRecDepth 100000 in
theorem own : ownKnob Try.prog.godebug = none := by kernel_rfl
set_option maxRecDepth 100000 in
theorem laidOut : laidOutB Try.prog = true := by kernel_rfl

set_option maxRecDepth 100000 in
theorem lifted (os : Os) (started : os.Started) (H : Type) (enc : TypeId × Value → H) (F : Stop.Interp) :
    ReturnsInHanded {} Try.checked os 3 .any ((Rows.OpenSpec.upto Rows.modelForksSpec).pre6 enc Try.prog Try.f3 Rows.modelForksUptoRow.domain false) (((Rows.OpenSpec.upto Rows.modelForksSpec).at F).post enc Try.prog Try.f3 false true false false) := by
  refine returnsInHanded_of_cond (C := Try.checked) (s := Rows.OpenSpec.upto Rows.modelForksSpec) (k := Rows.uptoSmall) rfl own started (by kernel_rfl) Try.func3
    (OpenSpec.witness (enc := enc) (C := Try.checked) (s := Rows.OpenSpec.upto Rows.modelForksSpec) (k := Rows.uptoSmall) rfl false ⟨#[], #[.agg #[.int .i64 0, .int .i64 0, .int .i64 0, .int .i64 0, .int .i64 0, .int .i64 0, .int .i64 0, .int .i64 0, .int .i64 0], .slice none 0 0, .int .i64 0, .agg #[.int .i64 0, .int .i64 0, .int .i64 0, .int .i64 0, .int .i64 0, .slice none 0 0]], []⟩ 8 (by kernel_rfl) (by kernel_rfl) (by kernel_rfl)
      (x := ([.agg [.lit (.int .i64 0), .lit (.int .i64 0), .lit (.int .i64 0), .lit (.int .i64 0), .lit (.int .i64 0), .lit (.int .i64 0), .lit (.int .i64 0), .lit (.int .i64 0), .lit (.int .i64 0)], .nil, .lit (.int .i64 0), .agg [.lit (.int .i64 0), .lit (.int .i64 0), .lit (.int .i64 0), .lit (.int .i64 0), .lit (.int .i64 0), .nil]], [], [])) (by kernel_rfl) rfl (by kernel_rfl)) ?_
  intro W base args ds gs before hval0 hW hcnd hk _
  have hval : ∀ (j : Nat) t v, Try.f3.params[j]? = some t → args[j]? = some v → Value.okWide Try.prog W .any base t v := hval0
  have hW' := hW
  obtain ⟨p, q, hA0, hV, rfl, hfz, hnd⟩ := hW
  have hA : DataW.TrodAll enc Try.prog W 0 (fun _ => true) true Try.f3.params.toList args.toList ds p := hA0
  rw [Try.params3] at hA hval
  obtain ⟨v0, vs0, d0, ds0, p0, q0, hargs, rfl, rfl, h0, r0⟩ := trodAll_cons hA
  obtain ⟨v1, vs1, d1, ds1, p1, q1, rfl, rfl, rfl, h1, r1⟩ := trodAll_cons r0
  obtain ⟨v2, vs2, d2, ds2, p2, q2, rfl, rfl, rfl, h2, r2⟩ := trodAll_cons r1
  obtain ⟨v3, vs3, d3, ds3, p3, q3, rfl, rfl, rfl, h3, r3⟩ := trodAll_cons r2
  obtain ⟨rfl, rfl, rfl⟩ := trodAll_nil r3
  obtain rfl : args = #[v0, v1, v2, v3] := by cases args; simp_all
  obtain ⟨rfl, rfl⟩ := trodVars_none hV
  have k0 := h0
  have lt0 : ∀ x ∈ p0, x.block < W.heap.size := by obtain ⟨m, hm⟩ := k0; exact DataW.trod_lt m _ _ _ hm
  obtain ⟨a0_0, a0_1, a0_2, a0_3, a0_4, a0_5, a0_6, a0_7, a0_8, rfl⟩ := open_nine Try.underlying23 (by kernel_rfl) (by kernel_rfl) Try.underlying3 (hval 0 23 v0 rfl rfl) h0
  obtain ⟨a1, len1, cap1, rfl⟩ := okWide_slice Try.underlying24 (hval 1 24 v1 rfl rfl)
  have k1 := h1
  have lt1 : ∀ x ∈ p1, x.block < W.heap.size := by obtain ⟨m, hm⟩ := k1; exact DataW.trod_lt m _ _ _ hm
  obtain ⟨z1, w1, y1⟩ := ops_open h1
  obtain ⟨a2, rfl, rfl, rfl, w2⟩ := open_int Try.underlying3 (hval 2 3 v2 rfl rfl) h2
  have k3 := h3
  have lt3 : ∀ x ∈ p3, x.block < W.heap.size := by obtain ⟨m, hm⟩ := k3; exact DataW.trod_lt m _ _ _ hm
  obtain ⟨z3, a3, len3, cap3, rfl, w3, x3, y3⟩ := op_val (hval 3 27 v3 rfl rfl) h3
  have l3 := w3.len
  have b1 := bulk_part (l := [d0, d1, (.lit (.int .i64 a2)), d3]) (d := d1) (by simp)
  have b3 := bulk_part (l := [d0, d1, (.lit (.int .i64 a2)), d3]) (d := d3) (by simp)
  clear hA0 hval0
  refine (modelForks_walk ⟨a0_0, a0_1, a0_2, a0_3, a0_4, a0_5, a0_6, a0_7, a0_8⟩ a1 len1 cap1 z1 a2 z3 a3 len3 cap3 W w1 (by have := bulk_bound hk; simp only [List.append_nil] at this; omega) w2 w3 (by have := bulk_bound hk; simp only [List.append_nil] at this; omega) x3).mono fun e W' ⟨he, bel⟩ => ?_
  subst he
  exact ⟨_, rfl, _, _, _, [], _, [], hW', trodAll_mk1 (shut_bool Try.underlying4 _), (trodAll_cons_mk (Below.trod laidOut (by kernel_rfl) (of_decide_eq_true (by kernel_rfl)) k0 bel lt0) (trodAll_cons_mk (Below.trod laidOut (by kernel_rfl) (of_decide_eq_true (by kernel_rfl)) k1 bel lt1) (trodAll_cons_mk (shut_int Try.underlying3 w2) (trodAll_cons_mk (Below.trod laidOut (by kernel_rfl) (of_decide_eq_true (by kernel_rfl)) k3 bel lt3) trodAll_mk0)))), rfl, bel.frame _, fun h => by cases h⟩

set_option maxRecDepth 100000 in
theorem over : Rows.modelForksUptoRow.holds Try.pinned (Rows.OpenSpec.upto Rows.modelForksSpec) :=
  OpenClaim.holds_of_cond 3 Try.f3 rfl rfl rfl rfl rfl rfl rfl ⟨rfl, rfl, rfl, rfl, rfl⟩ rfl rfl rfl rfl rfl (by kernel_rfl) Try.func3 (by kernel_rfl)
    (of_decide_eq_true (by kernel_rfl)) (by unfold Func.isWrapper; first | (rw [if_pos (by decide +kernel)]; kernel_rfl) | (rw [if_neg (by decide +kernel)]; exact ⟨rfl, rfl⟩))
    (fun os started H enc _ F => lifted os started H enc F)

/-- ModelForks holds for every input of a bulk that fits. -/
theorem proved : Rows.ModelForksUptoSaid := over
end Go.Proofs.Ytnbjodoajfkekaa.modelForks
