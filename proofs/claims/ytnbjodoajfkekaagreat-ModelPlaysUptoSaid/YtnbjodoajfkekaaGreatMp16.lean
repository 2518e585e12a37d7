/- The walk of almanaclaw18.ModelPlays. -/
import Derived.Test.YtnbjodoajfkekaaGreatMu0
import Derived.Test.YtnbjodoajfkekaaGreatMp15
import Derived.Test.YtnbjodoajfkekaaGreatMp3
import Derived.Test.YtnbjodoajfkekaaGreatMu19
import Derived.WalkKit
import Derived.ProofKit
import Derived.BigQuiet
import Derived.Deep.QuietTactic
import Derived.Lib.Hide
import Derived.RegionTactic
namespace Go.Proofs.YtnbjodoajfkekaaGreat
open Go.RowKit
set_option linter.unusedSimpArgs false
set_option maxHeartbeats 4000000 in
set_option maxRecDepth 100000 in
theorem modelPlays_walk (c : Cf) (a : Option Addr) (n cap : Nat) (L : List OpP) (pid page : Int) (w : World) (hL : OpsAt w a n L) (hs : sumOp L + n ≤ 1048576) (hp : (Lit.int .i64 pid).wf = true) (hpg : (Lit.int .i64 page).wf = true) :
  Calls Tryz.prog 3 #[c.val, .slice a n cap, .int .i64 pid, .int .i64 page] w fun e w' => e = .returned (.bool true) ∧ Below w.heap.size w w' := by
 have hb0 := below_a w (.cells #[.int .i64 c.a0, .int .i64 c.a1, .int .i64 c.a2, .int .i64 c.a3, .int .i64 c.page, .int .i64 c.a5, .int .i64 c.procs, .int .i64 c.regions, .int .i64 c.pages] 23)
 have g0 := heap_alloc_new w (.cells #[.int .i64 c.a0, .int .i64 c.a1, .int .i64 c.a2, .int .i64 c.a3, .int .i64 c.page, .int .i64 c.a5, .int .i64 c.procs, .int .i64 c.regions, .int .i64 c.pages] 23)
 have HB0 := Lib.hid hb0; have HL := Lib.hid hL; have HS := Lib.hid hs; have HP := Lib.hid hp; have HPG := Lib.hid hpg
 have HK := Lib.hid (known18 (w.alloc (.cells #[.int .i64 c.a0, .int .i64 c.a1, .int .i64 c.a2, .int .i64 c.a3, .int .i64 c.page, .int .i64 c.a5, .int .i64 c.procs, .int .i64 c.regions, .int .i64 c.pages] 23)))
 have HG0 := Lib.hid g0
 unfold Cf.val
 clear hb0 hL hs hp hpg g0
 go_enter Tryz.func3, Tryz.ntmps3
 go_wp2_with fail
 refine HK.out.mono ?_
 rintro e w1 ⟨rfl, hb1⟩
 have HB1 := Lib.hid (Below.call HB0.out hb1)
 have HC1 := Lib.hid (row_keep HG0.out hb1)
 clear hb1 HK
 have hcf := few_any a n cap L w1 (OpsAt.below HL.out HB1.out) (by have := HS.out; omega) (by have := HS.out; omega)
 have HF := Lib.hid hcf; clear hcf; go_wp2_with fail
 refine HF.out.mono ?_
 rintro e w1' ⟨rfl, rfl⟩
 cases hf1 : fewB L with
 | false =>
  go_wp2
  go_ret
  exact ⟨rfl, HB1.out⟩
 | true =>
  obtain ⟨z0, z1, z2, z3, z4, z5, z6, z7, z8⟩ := cells9 HC1.out
  have hcs := small_any c w1
  unfold Cf.val at hcs
  have HSM := Lib.hid hcs; clear hcs; go_wp2_with fail
  refine HSM.out.mono ?_
  rintro e w3 ⟨rfl, hb3⟩
  have HB3 := Lib.hid (Below.call HB1.out hb3)
  have HC3 := Lib.hid (row_keep HC1.out hb3)
  clear hb3 HSM z0 z1 z2 z3 z4 z5 z6 z7 z8
  cases hsm : smallB c with
  | false =>
   go_wp2
   go_ret
   exact ⟨rfl, HB3.out⟩
  | true =>
   obtain ⟨z0, z1, z2, z3, z4, z5, z6, z7, z8⟩ := cells9 HC3.out
   by_cases hok : CfOk c
   ·have hnw := newmc_yes c w3 hok
    unfold Cf.val at hnw
    have HNW := Lib.hid hnw; clear hnw; go_wp2_with fail
    refine HNW.out.mono ?_
    rintro e w4 ⟨hh, rfl, hm4, hown, hhm, hb4⟩
    have hrw := rnew18_yes c w4 hok
    unfold Cf.val at hrw
    have HRW := Lib.hid hrw
    have HC4 := Lib.hid (row_keep HC3.out hb4)
    clear hrw z0 z1 z2 z3 z4 z5 z6 z7 z8
    obtain ⟨z0, z1, z2, z3, z4, z5, z6, z7, z8⟩ := cells9 HC4.out
    go_wp2_with fail
    refine HRW.out.mono ?_
    rintro e w5 ⟨hr, rfl, hr5, hro, hrm, hb5⟩
    obtain ⟨rm, hrmE⟩ : ∃ y, hr.m = y := ⟨_, rfl⟩
    have hps := PlS.start HL.out (Below.call HB3.out hb4) hm4 (fun k hk => Nat.le_trans HB3.out.size (hown k hk)) hb5 hr5 hro hrm
    rw [hrmE] at hps ⊢
    have HPS : Hid (PlS w w5 hh rm (runM (mc0 c) (L.take 0)) a n L) := hps
    have hfl : n ≤ 1000 := by
     have h1 := HL.out.len
     have h2 : (L.length ≤ 200) := by
      have h3 := hf1
      unfold fewB at h3
      simp at h3
      omega
     omega
    have HLN := Lib.hid HL.out.len
    have HWF : Hid (∀ (k : Nat) (A : OpP), L[k]? = some A → (Lit.int .i64 A.kind).wf = true ∧ (Lit.int .i64 A.pid).wf = true ∧ (Lit.int .i64 A.at_).wf = true ∧ (Lit.int .i64 A.n).wf = true ∧ (Lit.int .i64 A.prot).wf = true) := fun k A hA => by
     obtain ⟨b, o, e, ho⟩ := HL.out.at_ k A hA
     exact ho.wf
    clear hps hm4 hown hhm hb4 hr5 hro hrm hb5 hrmE HNW HRW z0 z1 z2 z3 z4 z5 z6 z7 z8; go_wp2_with fail
    go_loopw [13] (fun i wr => ∃ k : Nat, k ≤ n ∧ i = .int .i64 k ∧ Hid (PlS w wr hh rm (runM (mc0 c) (L.take k)) a n L)) (fun i _ => n - (intOf i).toNat)
    case atStart => exact ⟨0, by omega, rfl, HPS⟩
    case round =>
     obtain ⟨k, hk, rfl, hh2⟩ := hrel
     obtain ⟨⟨No, hr, mi, ri, hrm, dj, ops, hno⟩, hbel⟩ := hh2.out
     have HBEL := Lib.hid hbel
     by_cases hkn : k < n
     ·obtain ⟨A, hA⟩ : ∃ A, L[k]? = some A := ⟨_, List.getElem?_eq_getElem (by rw [HLN.out]; exact hkn)⟩
      have HW := Lib.hid (HWF.out k A hA)
      have hstep : runM (mc0 c) (L.take (k + 1)) = stepM (runM (mc0 c) (L.take k)) A.o := by rw [take_snoc hA]; exact runM_snoc _ _ _
      obtain ⟨st, hst⟩ : ∃ y, runM (mc0 c) (L.take k) = y := ⟨_, rfl⟩
      rw [hst] at mi ri dj hstep; have HSTEP := Lib.hid hstep
      obtain ⟨b, o, ta, tn, tc, ha, hop⟩ := ops.opC hA
      subst ha; have MI := Lib.hid mi; have RI := Lib.hid ri; have HRM := Lib.hid hrm; have DJ := Lib.hid dj; have OPS := Lib.hid ops; have HNO := Lib.hid hno; have HOP := Lib.hid hop; clear hh2 mi ri hrm dj ops hno hbel hA hstep hst hop
      obtain ⟨wB, hwB⟩ : ∃ y : World, y = wr := ⟨_, rfl⟩
      subst hwB
      have hcap0 : (n : Int) ≤ 1000 := by omega
      go_wp2_with fail
      refine' reg_free (G := Kept) (pickF [eqV _, eqV _, eqV _, eqV _, eqV _, eqV _, eqV _, eqV _, eqV _, eqV _, eqV (.bool false), eqV _, eqV _, eqV _, eqV _, eqV _, eqV _, eqV _, eqV _, eqV _, eqV _, eqV _, eqV _, eqV _, eqV (.bool false), eqV _, eqV _, eqV _, eqV _, eqV _, eqV _, eqV _, eqV _, eqV _, eqV _, eqV _, eqV _, eqV _, eqV _, eqV (.bool false), eqV _]) [52, 53, 54, 55, 56, 57, 58, 59, 60, 61, 62, 63, 64, 65, 66, 67, 68, 69, 70, 71, 72, 73, 74, 75, 76, 77, 78, 79, 80, 81, 82, 83, 84, 85, 86, 87, 88, 89, 90, 91, 92] [[], [], [0, 1], [2], [3], [], [], [5, 6], [7], [8], [4, 9], [10], [11], [11], [11, 12, 13], [11, 14], [11, 15], [11, 16], [11], [11], [11, 18, 19], [11, 20], [11, 21], [11, 22], [11, 17, 23], [11, 24], [25], [26], [26], [26], [26, 28, 29], [26, 30], [26, 27, 31], [26], [26], [26], [26, 34, 35], [26, 36], [26, 33, 37], [26, 32, 38], [26, 39]] [0, 1, 2, 3, 4, 5, 6, 7, 8, 9, 10, 11, 12, 13, 14, 15, 16, 17, 18, 19, 20, 21, 22, 23, 24, 25, 26, 27, 28, 29, 30, 31, 32, 33, 34, 35, 36, 37, 38, 39, 40] (by kernel_rfl) Kept.refl Kept.trans (pick_stays ⟨eS _, eS _, eS _, eS _, eS _, eS _, eS _, eS _, eS _, eS _, eS _, eS _, eS _, eS _, eS _, eS _, eS _, eS _, eS _, eS _, eS _, eS _, eS _, eS _, eS _, eS _, eS _, eS _, eS _, eS _, eS _, eS _, eS _, eS _, eS _, eS _, eS _, eS _, eS _, eS _, eS _, trivial⟩) 127 rfl (by kernel_rfl) (by kernel_rfl) rfl rfl ?r1obl ?r1fin
      case r1obl =>
       refine ⟨?r1o0, ?r1o1, ?r1o2, ?r1o3, ?r1o4, ?r1o5, ?r1o6, ?r1o7, ?r1o8, ?r1o9, ?r1o10, ?r1o11, ?r1o12, ?r1o13, ?r1o14, ?r1o15, ?r1o16, ?r1o17, ?r1o18, ?r1o19, ?r1o20, ?r1o21, ?r1o22, ?r1o23, ?r1o24, ?r1o25, ?r1o26, ?r1o27, ?r1o28, ?r1o29, ?r1o30, ?r1o31, ?r1o32, ?r1o33, ?r1o34, ?r1o35, ?r1o36, ?r1o37, ?r1o38, ?r1o39, ?r1o40, trivial⟩
       case r1o0 =>
        intro w1 hG; refine t1o (by rfl) ?_; intro K hK; go_simp; refine hK _ _ ⟨rfl, Kept.refl _, ?_⟩; show _ = _; simp only [gv1]; rfl
       case r1o1 =>
        intro w1 hG; refine t1o (by rfl) ?_; intro K hK; go_simp; refine hK _ _ ⟨rfl, Kept.refl _, ?_⟩; show _ = _; simp only [gv1]; rfl
       case r1o2 =>
        intro w1 hG; intro v0 h0; change _ = _ at h0; subst h0; intro v1 h1; change _ = _ at h1; subst h1; refine t1o (by rfl) ?_; intro K hK; simp only [gv2]; go_simp; refine hK _ _ ⟨rfl, Kept.refl _, ?_⟩; show _ = _; simp only [gv1]; rfl
       case r1o3 =>
        intro w1 hG; intro v2 h2; change _ = _ at h2; subst h2; refine t1o (by rfl) ?_; intro K hK; simp only [gv2]
        have hbk := kept_0 hG
        have hop := HOP.out.below hbk
        obtain ⟨y0, y1, y2, y3, y4, y5⟩ := hop.c
        go_simp; refine hK _ _ ⟨rfl, Kept.refl _, ?_⟩; show _ = _; simp only [gv1]; rfl
       case r1o4 =>
        intro w1 hG; intro v3 h3; change _ = _ at h3; subst h3; refine t1o (by rfl) ?_; intro K hK; simp only [gv2]
        have hbk := kept_0 hG
        have hop := HOP.out.below hbk
        go_simp
        refine Calls.mono (opright_any ta tn tc w1 A.o hop.rd.len) ?_
        rintro e w2 ⟨rfl, hb2⟩
        refine hK _ _ ⟨rfl, hb2, ?_⟩
        show _ = _; simp only [gv1]; rfl
       case r1o5 =>
        intro w1 hG; refine t1o (by rfl) ?_; intro K hK; go_simp; refine hK _ _ ⟨rfl, Kept.refl _, ?_⟩; show _ = _; simp only [gv1]; rfl
       case r1o6 =>
        intro w1 hG; refine t1o (by rfl) ?_; intro K hK; go_simp; refine hK _ _ ⟨rfl, Kept.refl _, ?_⟩; show _ = _; simp only [gv1]; rfl
       case r1o7 =>
        intro w1 hG; intro v5 h5; change _ = _ at h5; subst h5; intro v6 h6; change _ = _ at h6; subst h6; refine t1o (by rfl) ?_; intro K hK; simp only [gv2]; go_simp; refine hK _ _ ⟨rfl, Kept.refl _, ?_⟩; show _ = _; simp only [gv1]; rfl
       case r1o8 =>
        intro w1 hG; intro v7 h7; change _ = _ at h7; subst h7; refine t1o (by rfl) ?_; intro K hK; simp only [gv2]
        have hbk := kept_0 hG
        have hop := HOP.out.below hbk
        obtain ⟨y0, y1, y2, y3, y4, y5⟩ := hop.c
        go_simp; refine hK _ _ ⟨rfl, Kept.refl _, ?_⟩; show _ = _; simp only [gv1]; rfl
       case r1o9 =>
        intro w1 hG; intro v8 h8; change _ = _ at h8; subst h8; refine t1o (by rfl) ?_; intro K hK; simp only [gv2]
        have hbk := kept_0 hG
        have hop := HOP.out.below hbk
        go_simp
        refine Calls.mono (oprefright_any ta tn tc w1 A.o hop.rd.len) ?_
        rintro e w2 ⟨rfl, hb2⟩
        refine hK _ _ ⟨rfl, hb2, ?_⟩
        show _ = _; simp only [gv1]; rfl
       case r1o10 =>
        intro w1 hG; intro v4 h4; change _ = _ at h4; subst h4; intro v9 h9; change _ = _ at h9; subst h9; refine t1o (by rfl) ?_; intro K hK; simp only [gv2]; go_simp; refine hK _ _ ⟨rfl, Kept.refl _, ?_⟩; show _ = _; simp only [gv1]
       case r1o11 =>
        intro w1 hG; intro v10 h10; change _ = _ at h10; subst h10; refine t1o (by rfl) ?_; intro K hK; simp only [gv2]; go_simp; refine hK _ _ ⟨rfl, Kept.refl _, ?_⟩; show _ = _; simp only [gv1]; rfl
       case r1o12 =>
        intro w1 hG; intro v11 h11; change _ = _ at h11; subst h11; refine t1o (by rfl) ?_; intro K hK; simp only [gv2]; go_simp; refine hK _ _ ⟨rfl, Kept.refl _, ?_⟩; show _ = _; simp only [gv1]; rfl
       case r1o13 =>
        intro w1 hG; intro v11 h11; change _ = _ at h11; subst h11; refine t1o (by rfl) ?_; intro K hK; simp only [gv2]; go_simp; refine hK _ _ ⟨rfl, Kept.refl _, ?_⟩; show _ = _; simp only [gv1]; rfl
       case r1o14 =>
        intro w1 hG; intro v11 h11; change _ = _ at h11; subst h11; intro v12 h12; change _ = _ at h12; subst h12; intro v13 h13; change _ = _ at h13; subst h13; refine t1o (by rfl) ?_; intro K hK; simp only [gv2]; go_simp; refine hK _ _ ⟨rfl, Kept.refl _, ?_⟩; show _ = _; simp only [gv1]; rfl
       case r1o15 =>
        intro w1 hG; intro v11 h11; change _ = _ at h11; subst h11; intro v14 h14; change _ = _ at h14; subst h14; refine t1o (by rfl) ?_; intro K hK; simp only [gv2]; go_simp; refine hK _ _ ⟨rfl, Kept.refl _, ?_⟩; show _ = _; simp only [gv1]; rfl
       case r1o16 =>
        intro w1 hG; intro v11 h11; change _ = _ at h11; subst h11; intro v15 h15; change _ = _ at h15; subst h15; refine t1o (by rfl) ?_; intro K hK; simp only [gv2]
        have hbk := kept_0 hG
        have hop := HOP.out.below hbk
        obtain ⟨y0, y1, y2, y3, y4, y5⟩ := hop.c
        go_simp; refine hK _ _ ⟨rfl, Kept.refl _, ?_⟩; show _ = _; simp only [gv1]; rfl
       case r1o17 =>
        intro w1 hG; intro v11 h11; change _ = _ at h11; subst h11; intro v16 h16; change _ = _ at h16; subst h16; refine t1o (by rfl) ?_; intro K hK; simp only [gv2]
        have hbk := kept_0 hG
        have hop := HOP.out.below hbk
        go_simp
        refine Calls.mono (changes_any A.kind w1) ?_
        rintro e w2 ⟨rfl, rfl⟩
        refine hK _ _ ⟨rfl, Kept.refl _, ?_⟩; show _ = _; simp only [gv1]; rfl
       case r1o18 =>
        intro w1 hG; intro v11 h11; change _ = _ at h11; subst h11; refine t1o (by rfl) ?_; intro K hK; simp only [gv2]; go_simp; refine hK _ _ ⟨rfl, Kept.refl _, ?_⟩; show _ = _; simp only [gv1]; rfl
       case r1o19 =>
        intro w1 hG; intro v11 h11; change _ = _ at h11; subst h11; refine t1o (by rfl) ?_; intro K hK; simp only [gv2]; go_simp; refine hK _ _ ⟨rfl, Kept.refl _, ?_⟩; show _ = _; simp only [gv1]; rfl
       case r1o20 =>
        intro w1 hG; intro v11 h11; change _ = _ at h11; subst h11; intro v18 h18; change _ = _ at h18; subst h18; intro v19 h19; change _ = _ at h19; subst h19; refine t1o (by rfl) ?_; intro K hK; simp only [gv2]; go_simp; refine hK _ _ ⟨rfl, Kept.refl _, ?_⟩; show _ = _; simp only [gv1]; rfl
       case r1o21 =>
        intro w1 hG; intro v11 h11; change _ = _ at h11; subst h11; intro v20 h20; change _ = _ at h20; subst h20; refine t1o (by rfl) ?_; intro K hK; simp only [gv2]; go_simp; refine hK _ _ ⟨rfl, Kept.refl _, ?_⟩; show _ = _; simp only [gv1]; rfl
       case r1o22 =>
        intro w1 hG; intro v11 h11; change _ = _ at h11; subst h11; intro v21 h21; change _ = _ at h21; subst h21; refine t1o (by rfl) ?_; intro K hK; simp only [gv2]
        have hbk := kept_0 hG
        have hop := HOP.out.below hbk
        obtain ⟨y0, y1, y2, y3, y4, y5⟩ := hop.c
        go_simp; refine hK _ _ ⟨rfl, Kept.refl _, ?_⟩; show _ = _; simp only [gv1]; rfl
       case r1o23 =>
        intro w1 hG; intro v11 h11; change _ = _ at h11; subst h11; intro v22 h22; change _ = _ at h22; subst h22; refine t1o (by rfl) ?_; intro K hK; simp only [gv2]
        have hbk := kept_0 hG
        have hop := HOP.out.below hbk
        go_simp
        refine Calls.mono (rchanges_any A.kind w1) ?_
        rintro e w2 ⟨rfl, rfl⟩
        refine hK _ _ ⟨rfl, Kept.refl _, ?_⟩; show _ = _; simp only [gv1]; rfl
       case r1o24 =>
        intro w1 hG; intro v11 h11; change _ = _ at h11; subst h11; intro v17 h17; change _ = _ at h17; subst h17; intro v23 h23; change _ = _ at h23; subst h23; refine t1o (by rfl) ?_; intro K hK; simp only [gv2]; go_simp; refine hK _ _ ⟨rfl, Kept.refl _, ?_⟩; show _ = _; simp only [gv1]
       case r1o25 =>
        intro w1 hG; intro v11 h11; change _ = _ at h11; subst h11; intro v24 h24; change _ = _ at h24; subst h24; refine t1o (by rfl) ?_; intro K hK; simp only [gv2]; go_simp; refine hK _ _ ⟨rfl, Kept.refl _, ?_⟩; show _ = _; simp only [gv1]; rfl
       case r1o26 =>
        intro w1 hG; intro v25 h25; change _ = _ at h25; subst h25; refine t1o (by rfl) ?_; intro K hK; simp only [gv2]; go_simp; refine hK _ _ ⟨rfl, Kept.refl _, ?_⟩; show _ = _; simp only [gv1]; rfl
       case r1o27 =>
        intro w1 hG; intro v26 h26; change _ = _ at h26; subst h26; refine t1o (by rfl) ?_; intro K hK; simp only [gv2]; go_simp; refine hK _ _ ⟨rfl, Kept.refl _, ?_⟩; show _ = _; simp only [gv1]; rfl
       case r1o28 =>
        intro w1 hG; intro v26 h26; change _ = _ at h26; subst h26; refine t1o (by rfl) ?_; intro K hK; simp only [gv2]; go_simp; refine hK _ _ ⟨rfl, Kept.refl _, ?_⟩; show _ = _; simp only [gv1]; rfl
       case r1o29 =>
        intro w1 hG; intro v26 h26; change _ = _ at h26; subst h26; refine t1o (by rfl) ?_; intro K hK; simp only [gv2]; go_simp; refine hK _ _ ⟨rfl, Kept.refl _, ?_⟩; show _ = _; simp only [gv1]; rfl
       case r1o30 =>
        intro w1 hG; intro v26 h26; change _ = _ at h26; subst h26; intro v28 h28; change _ = _ at h28; subst h28; intro v29 h29; change _ = _ at h29; subst h29; refine t1o (by rfl) ?_; intro K hK; simp only [gv2]; go_simp; refine hK _ _ ⟨rfl, Kept.refl _, ?_⟩; show _ = _; simp only [gv1]; rfl
       case r1o31 =>
        intro w1 hG; intro v26 h26; change _ = _ at h26; subst h26; intro v30 h30; change _ = _ at h30; subst h30; refine t1o (by rfl) ?_; intro K hK; simp only [gv2]
        have hbk := kept_0 hG
        have hop := HOP.out.below hbk
        obtain ⟨y0, y1, y2, y3, y4, y5⟩ := hop.c
        go_simp; refine hK _ _ ⟨rfl, Kept.refl _, ?_⟩; show _ = _; simp only [gv1]; rfl
       case r1o32 =>
        intro w1 hG; intro v26 h26; change _ = _ at h26; subst h26; intro v27 h27; change _ = _ at h27; subst h27; intro v31 h31; change _ = _ at h31; subst h31; refine t1o (by rfl) ?_; intro K hK; simp only [gv2]
        have hbk := kept_0 hG
        have hop := HOP.out.below hbk
        go_simp
        refine Calls.mono (check_any (MI.out.below hbk) A.o ta tn tc HW.out.2.1 HW.out.2.2.1 HW.out.2.2.2.1 hop.rd.len (by have h1 := hop.rd.cap; have h2 := hop.rd.max; unfold maxLen at h2; omega)) ?_
        rintro e w2 ⟨rfl, hb2⟩
        refine hK _ _ ⟨rfl, hb2, ?_⟩
        show _ = _; simp only [gv1]; rfl
       case r1o33 =>
        intro w1 hG; intro v26 h26; change _ = _ at h26; subst h26; refine t1o (by rfl) ?_; intro K hK; simp only [gv2]; go_simp; refine hK _ _ ⟨rfl, Kept.refl _, ?_⟩; show _ = _; simp only [gv1]; rfl
       case r1o34 =>
        intro w1 hG; intro v26 h26; change _ = _ at h26; subst h26; refine t1o (by rfl) ?_; intro K hK; simp only [gv2]; go_simp; refine hK _ _ ⟨rfl, Kept.refl _, ?_⟩; show _ = _; simp only [gv1]; rfl
       case r1o35 =>
        intro w1 hG; intro v26 h26; change _ = _ at h26; subst h26; refine t1o (by rfl) ?_; intro K hK; simp only [gv2]; go_simp; refine hK _ _ ⟨rfl, Kept.refl _, ?_⟩; show _ = _; simp only [gv1]; rfl
       case r1o36 =>
        intro w1 hG; intro v26 h26; change _ = _ at h26; subst h26; intro v34 h34; change _ = _ at h34; subst h34; intro v35 h35; change _ = _ at h35; subst h35; refine t1o (by rfl) ?_; intro K hK; simp only [gv2]; go_simp; refine hK _ _ ⟨rfl, Kept.refl _, ?_⟩; show _ = _; simp only [gv1]; rfl
       case r1o37 =>
        intro w1 hG; intro v26 h26; change _ = _ at h26; subst h26; intro v36 h36; change _ = _ at h36; subst h36; refine t1o (by rfl) ?_; intro K hK; simp only [gv2]
        have hbk := kept_0 hG
        have hop := HOP.out.below hbk
        obtain ⟨y0, y1, y2, y3, y4, y5⟩ := hop.c
        go_simp; refine hK _ _ ⟨rfl, Kept.refl _, ?_⟩; show _ = _; simp only [gv1]; rfl
       case r1o38 =>
        intro w1 hG; intro v26 h26; change _ = _ at h26; subst h26; intro v33 h33; change _ = _ at h33; subst h33; intro v37 h37; change _ = _ at h37; subst h37; refine t1o (by rfl) ?_; intro K hK; simp only [gv2]
        have hbk := kept_0 hG
        have hop := HOP.out.below hbk
        go_simp
        refine Calls.mono (by have hq := rcheck_any (RI.out.below hbk) A.o ta tn tc HW.out.2.1 HW.out.2.2.1 HW.out.2.2.2.1 hop.rd.len (by have h1 := hop.rd.cap; have h2 := hop.rd.max; unfold maxLen at h2; omega); rw [HRM.out] at hq; exact hq) ?_
        rintro e w2 ⟨rfl, hb2⟩
        refine hK _ _ ⟨rfl, hb2, ?_⟩
        show _ = _; simp only [gv1]; rfl
       case r1o39 =>
        intro w1 hG; intro v26 h26; change _ = _ at h26; subst h26; intro v32 h32; change _ = _ at h32; subst h32; intro v38 h38; change _ = _ at h38; subst h38; refine t1o (by rfl) ?_; intro K hK; simp only [gv2]; go_simp; refine hK _ _ ⟨rfl, Kept.refl _, ?_⟩; show _ = _; simp only [gv1]
       case r1o40 =>
        intro w1 hG; intro v26 h26; change _ = _ at h26; subst h26; intro v39 h39; change _ = _ at h39; subst h39; refine t1o (by rfl) ?_; intro K hK; simp only [gv2]; go_simp; refine hK _ _ ⟨rfl, Kept.refl _, ?_⟩; show _ = _; simp only [gv1]; rfl
      intro w1 hG; intro v0 h0; change _ = _ at h0; subst h0; intro v1 h1; change _ = _ at h1; subst h1; intro v2 h2; change _ = _ at h2; subst h2; intro v3 h3; change _ = _ at h3; subst h3; intro v4 h4; change _ = _ at h4; subst h4; intro v5 h5; change _ = _ at h5; subst h5; intro v6 h6; change _ = _ at h6; subst h6; intro v7 h7; change _ = _ at h7; subst h7; intro v8 h8; change _ = _ at h8; subst h8
      intro v9 h9; change _ = _ at h9; subst h9; intro v10 h10; change _ = _ at h10; subst h10; intro v11 h11; change _ = _ at h11; subst h11; intro v12 h12; change _ = _ at h12; subst h12; intro v13 h13; change _ = _ at h13; subst h13; intro v14 h14; change _ = _ at h14; subst h14; intro v15 h15; change _ = _ at h15; subst h15; intro v16 h16; change _ = _ at h16; subst h16; intro v17 h17; change _ = _ at h17
      subst h17; intro v18 h18; change _ = _ at h18; subst h18; intro v19 h19; change _ = _ at h19; subst h19; intro v20 h20; change _ = _ at h20; subst h20; intro v21 h21; change _ = _ at h21; subst h21; intro v22 h22; change _ = _ at h22; subst h22; intro v23 h23; change _ = _ at h23; subst h23; intro v24 h24; change _ = _ at h24; subst h24; intro v25 h25; change _ = _ at h25; subst h25; intro v26 h26
      change _ = _ at h26; subst h26; intro v27 h27; change _ = _ at h27; subst h27; intro v28 h28; change _ = _ at h28; subst h28; intro v29 h29; change _ = _ at h29; subst h29; intro v30 h30; change _ = _ at h30; subst h30; intro v31 h31; change _ = _ at h31; subst h31; intro v32 h32; change _ = _ at h32; subst h32; intro v33 h33; change _ = _ at h33; subst h33; intro v34 h34; change _ = _ at h34
      subst h34; intro v35 h35; change _ = _ at h35; subst h35; intro v36 h36; change _ = _ at h36; subst h36; intro v37 h37; change _ = _ at h37; subst h37; intro v38 h38; change _ = _ at h38; subst h38; intro v39 h39; change _ = _ at h39; subst h39; intro v40 h40; change _ = _ at h40; subst h40
      simp only [Given, gv2]
      have hbk := kept_0 hG
      have MI1 := Lib.hid (MI.out.below hbk)
      have RI1 := Lib.hid (RI.out.below hbk)
      have OPS1 := Lib.hid (OPS.out.tn (Tn.of (Q := fun _ => False) hbk) (fun _ h => h.elim))
      have HOP1 := Lib.hid (HOP.out.below hbk)
      have HBL1 := Lib.hid (HBEL.out.trans (hbk.mono HBEL.out.size))
      clear hG hbk
      obtain ⟨wC, hwC⟩ : ∃ y : World, y = w1 := ⟨_, rfl⟩
      subst hwC
      have HOWN := Lib.hid (fun k hk => MI1.out.own_no k hk)
      have HROWN := Lib.hid (fun k hk => RI1.out.own_no k hk)
      obtain ⟨AN, hAN⟩ : ∃ y, ansM st A.o = y := ⟨_, rfl⟩
      have HAN := Lib.hid hAN
      have hbd : Below wC.heap.size wC wC.drew := ⟨rfl, rfl, rfl, Nat.le_refl _, fun _ _ => rfl⟩
      have i4 : OpC wC.drew No b (o + k * 6) A ta tn tc := HOP1.out.below hbd
      have i5 : McIn wC.drew No hh st ∧ OpC wC.drew No b (o + k * 6) A ta tn tc := ⟨MI1.out.below hbd, i4⟩
      have i11 : RmIn wC.drew No hr st ∧ OpC wC.drew No b (o + k * 6) A ta tn tc := ⟨RI1.out.below hbd, i4⟩
      have i34 : Tn (fun j => hh.own j ∨ hr.own st j) wC wC.drew := Tn.of hbd
      clear hAN hbd; go_wp2_with fail
      refine' reg_order [eqV _, eqV _, eqV _, eqV _, eqV _, (fun v w5 => ∃ da dc pa pc, v = Value.agg #[.int .i64 AN.err, .int .i64 AN.pid, .slice da AN.data.length dc, .slice pa AN.pids.length pc] ∧ RdAt .u8 w5 da AN.data.length dc AN.data ∧ RdAt .i64 w5 pa AN.pids.length pc AN.pids ∧ (∀ x, da = some x → 0 < AN.data.length → ¬ hr.own st x.block) ∧ (∀ x, pa = some x → 0 < AN.pids.length → ¬ hr.own st x.block) ∧ McIn w5 No hh (stepM st A.o)), eqV _, eqV _, eqV _, eqV _, eqV _, (fun v w5 => ∃ da dc pa pc, ∃ hr2 : RmH, v = Value.agg #[.int .i64 AN.err, .int .i64 AN.pid, .slice da AN.data.length dc, .slice pa AN.pids.length pc] ∧ RdAt .u8 w5 da AN.data.length dc AN.data ∧ RdAt .i64 w5 pa AN.pids.length pc AN.pids ∧ McIn w5 (fun k => No k ∨ hr2.own (stepM st A.o) k) hh (stepM st A.o) ∧ RmIn w5 (fun k => No k ∨ hr2.own (stepM st A.o) k) hr2 (stepM st A.o) ∧ hr2.m = hr.m ∧ ∀ k, hr2.own (stepM st A.o) k → hr.own st k ∨ wC.heap.size ≤ k), (fun v w5 => v = Value.bool true ∧ ∃ hr2 : RmH, McIn w5 (fun k => No k ∨ hr2.own (stepM st A.o) k) hh (stepM st A.o) ∧ RmIn w5 (fun k => No k ∨ hr2.own (stepM st A.o) k) hr2 (stepM st A.o) ∧ hr2.m = hr.m), eqV _, (fun v w5 => v = Value.bool false ∧ ∃ hr2 : RmH, McIn w5 (fun k => No k ∨ hr2.own (stepM st A.o) k) hh (stepM st A.o) ∧ RmIn w5 (fun k => No k ∨ hr2.own (stepM st A.o) k) hr2 (stepM st A.o) ∧ hr2.m = hr.m), eqV _, eqV _, eqV _, eqV _, eqV _, eqV _, eqV _, eqV _, eqV (.bool true), eqV _, (fun v w5 => v = Value.bool false ∧ ∃ hr2 : RmH, McIn w5 (fun k => No k ∨ hr2.own (stepM st A.o) k) hh (stepM st A.o) ∧ RmIn w5 (fun k => No k ∨ hr2.own (stepM st A.o) k) hr2 (stepM st A.o) ∧ hr2.m = hr.m), (fun v w5 => v = Value.bool false ∧ ∃ hr2 : RmH, McIn w5 (fun k => No k ∨ hr2.own (stepM st A.o) k) hh (stepM st A.o) ∧ RmIn w5 (fun k => No k ∨ hr2.own (stepM st A.o) k) hr2 (stepM st A.o) ∧ hr2.m = hr.m), eqV _, eqV _, eqV _, eqV _, eqV (.bool true), eqV _, eqV _] [(5, fun w5 w6 => Tn hh.own w5 w6), (11, fun w5 w6 => Tn (hr.own st) w5 w6)] [(4, fun w5 => OpC w5 No b (o + k * 6) A ta tn tc), (5, fun w5 => McIn w5 No hh st ∧ OpC w5 No b (o + k * 6) A ta tn tc), (10, fun w5 => OpC w5 No b (o + k * 6) A ta tn tc), (11, fun w5 => (RmIn w5 No hr st ∧ OpC w5 No b (o + k * 6) A ta tn tc) ∧ wC.heap.size ≤ w5.heap.size), (21, fun w5 => OpC w5 No b (o + k * 6) A ta tn tc), (34, fun w5 => Tn (fun j => hh.own j ∨ hr.own st j) wC w5)] [93, 94, 95, 96, 97, 98, 99, 100, 101, 102, 103, 104, 105, 106, 107, 108, 109, 110, 111, 112, 113, 114, 115, 116, 117, 118, 119, 120, 121, 122, 123, 124, 125, 126] [[], [], [], [1, 2], [3], [0, 4], [], [], [], [7, 8], [9], [5, 6, 10], [5, 11], [12], [12, 13], [14], [14], [14], [14], [14, 17, 18], [14, 19], [14, 20], [14], [14, 15, 16, 21, 22], [14, 23], [14, 24], [25], [26], [26], [26], [26], [26, 27, 28, 29, 30], [26, 31], [26, 32]] [0, 1, 2, 3, 4, 5, 6, 7, 8, 9, 10, 11, 12, 13, 14, 15, 16, 17, 18, 19, 20, 21, 22, 23, 24, 25, 26, 27, 28, 29, 30, 31, 32, 33] 34 (by kernel_rfl) ⟨eS _, eS _, eS _, eS _, eS _, fun _ _ _ p b => by obtain ⟨da, dc, pa, pc, e, h1, h2, h3, h4, h5⟩ := p; exact ⟨da, dc, pa, pc, e, h1.below b, h2.below b, h3, h4, h5.below b⟩, eS _, eS _, eS _, eS _, eS _, fun _ _ _ p b => by obtain ⟨da, dc, pa, pc, hr2, e, h1, h2, h3, h4, h5, h6⟩ := p; exact ⟨da, dc, pa, pc, hr2, e, h1.below b, h2.below b, h3.below b, h4.below b, h5, h6⟩, fun _ _ _ p b => by obtain ⟨e, hr2, h3, h4, h5⟩ := p; exact ⟨e, hr2, h3.below b, h4.below b, h5⟩, eS _, fun _ _ _ p b => by obtain ⟨e, hr2, h3, h4, h5⟩ := p; exact ⟨e, hr2, h3.below b, h4.below b, h5⟩, eS _, eS _, eS _, eS _, eS _, eS _, eS _, eS _, eS _, eS _, fun _ _ _ p b => by obtain ⟨e, hr2, h3, h4, h5⟩ := p; exact ⟨e, hr2, h3.below b, h4.below b, h5⟩, fun _ _ _ p b => by obtain ⟨e, hr2, h3, h4, h5⟩ := p; exact ⟨e, hr2, h3.below b, h4.below b, h5⟩, eS _, eS _, eS _, eS _, eS _, eS _, eS _, trivial⟩ ⟨⟨.inl (eS _), .inl (eS _), .inl (eS _), .inl (eS _), .inl (eS _), .inr (.inr rfl), .inl (eS _), .inl (eS _), .inl (eS _), .inl (eS _), .inl (eS _), .inr (.inl (by kernel_rfl)), .inr (.inl (by kernel_rfl)), .inl (eS _), .inr (.inl (by kernel_rfl)), .inl (eS _), .inl (eS _), .inl (eS _), .inl (eS _), .inl (eS _), .inl (eS _), .inl (eS _), .inl (eS _), .inr (.inl (by kernel_rfl)), .inl (eS _), .inr (.inl (by kernel_rfl)), .inr (.inl (by kernel_rfl)), .inl (eS _), .inl (eS _), .inl (eS _), .inl (eS _), .inr (.inl (by kernel_rfl)), .inl (eS _), .inl (eS _), trivial⟩, ⟨.inl (eS _), .inl (eS _), .inl (eS _), .inl (eS _), .inl (eS _), .inl (fun _ _ _ p g => by obtain ⟨da, dc, pa, pc, e, h1, h2, h3, h4, h5⟩ := p; exact ⟨da, dc, pa, pc, e, h1.tn g h3, h2.tn g h4, h3, h4, h5.tn g (fun k hk => ⟨HROWN.out k hk, fun ho => DJ.out k ho hk⟩)⟩), .inl (eS _), .inl (eS _), .inl (eS _), .inl (eS _), .inl (eS _), .inr (.inr rfl), .inr (.inl (by kernel_rfl)), .inl (eS _), .inr (.inl (by kernel_rfl)), .inl (eS _), .inl (eS _), .inl (eS _), .inl (eS _), .inl (eS _), .inl (eS _), .inl (eS _), .inl (eS _), .inr (.inl (by kernel_rfl)), .inl (eS _), .inr (.inl (by kernel_rfl)), .inr (.inl (by kernel_rfl)), .inl (eS _), .inl (eS _), .inl (eS _), .inl (eS _), .inr (.inl (by kernel_rfl)), .inl (eS _), .inl (eS _), trivial⟩, trivial⟩ ⟨fun _ _ p b => OpC.below p b, fun _ _ p b => ⟨p.1.below b, p.2.below b⟩, fun _ _ p b => OpC.below p b, fun _ _ p b => ⟨⟨p.1.1.below b, p.1.2.below b⟩, Nat.le_trans p.2 b.size⟩, fun _ _ p b => OpC.below p b, fun _ _ p b => Tn.call p b, trivial⟩ ⟨⟨.inr (.inl (by kernel_rfl)), .inr (.inr rfl), .inl (fun _ _ p g => OpC.tn p g HOWN.out), .inl (fun _ _ p g => ⟨⟨p.1.1.tn g (fun k hk => ⟨HOWN.out k hk, fun ho => DJ.out k hk ho⟩), p.1.2.tn g HOWN.out⟩, Nat.le_trans p.2 g.size⟩), .inl (fun _ _ p g => OpC.tn p g HOWN.out), .inl (fun _ _ p g => Tn.trans p (g.mono (fun _ _ h => .inl h))), trivial⟩, ⟨.inr (.inl (by kernel_rfl)), .inr (.inl (by kernel_rfl)), .inr (.inl (by kernel_rfl)), .inr (.inr rfl), .inl (fun _ _ p g => OpC.tn p g HROWN.out), .inl (fun _ _ p g => Tn.trans p (g.mono (fun _ _ h => .inr h))), trivial⟩, trivial⟩ ⟨i4, i5, i4, ⟨i11, Nat.le_refl _⟩, i4, i34, trivial⟩ 127 rfl (by kernel_rfl) (by kernel_rfl) rfl rfl 34 rfl ?q2obl ?q2fin
      case q2obl =>
       refine ⟨?q2o0, ?q2o1, ?q2o2, ?q2o3, ?q2o4, ?q2o5, ?q2o6, ?q2o7, ?q2o8, ?q2o9, ?q2o10, ?q2o11, ?q2o12, ?q2o13, ?q2o14, ?q2o15, ?q2o16, ?q2o17, ?q2o18, ?q2o19, ?q2o20, ?q2o21, ?q2o22, ?q2o23, ?q2o24, ?q2o25, ?q2o26, ?q2o27, ?q2o28, ?q2o29, ?q2o30, ?q2o31, ?q2o32, ?q2o33, trivial⟩
       case q2o0 =>
        intro w1 hI; refine t2o (by rfl) ?_; intro K hK; go_simp; refine hK _ _ ⟨rfl, Kept.refl _, ?_⟩; show _ = _; simp only [gv1]; rfl
       case q2o1 =>
        intro w1 hI; refine t2o (by rfl) ?_; intro K hK; go_simp; refine hK _ _ ⟨rfl, Kept.refl _, ?_⟩; show _ = _; simp only [gv1]; rfl
       case q2o2 =>
        intro w1 hI; refine t2o (by rfl) ?_; intro K hK; go_simp; refine hK _ _ ⟨rfl, Kept.refl _, ?_⟩; show _ = _; simp only [gv1]; rfl
       case q2o3 =>
        intro w1 hI; intro v1 h1; change _ = _ at h1; subst v1; intro v2 h2; change _ = _ at h2; subst v2; refine t2o (by rfl) ?_; intro K hK; simp only [gv2]; go_simp; refine hK _ _ ⟨rfl, Kept.refl _, ?_⟩; show _ = _; simp only [gv1]; rfl
       case q2o4 =>
        intro w1 hI
        replace hI : (fun w5 => OpC w5 No b (o + k * 6) A ta tn tc) w1 := hI
        intro v3 h3; change _ = _ at h3; subst v3; refine t2o (by rfl) ?_; intro K hK; simp only [gv2]
        obtain ⟨y0, y1, y2, y3, y4, y5⟩ := hI.c
        go_simp; refine hK _ _ ⟨rfl, Kept.refl _, ?_⟩; show _ = _; simp only [gv1]; rfl
       case q2o5 =>
        intro w1 hI
        replace hI : (fun w5 => McIn w5 No hh st ∧ OpC w5 No b (o + k * 6) A ta tn tc) w1 := hI
        intro v0 h0; change _ = _ at h0; subst v0; intro v4 h4; change _ = _ at h4; subst v4; refine t2o (by rfl) ?_; intro K hK; simp only [gv2]; go_simp
        refine Calls.mono (do_any hI.1 A.o ta tn tc HW.out.2.1 HW.out.2.2.1 HW.out.2.2.2.1 hI.2.rd hI.2.nx) ?_
        rintro e w9 ⟨dv, pv, rfl, hod, hop, hm9, ht9⟩
        rw [HAN.out] at hod hop
        obtain ⟨da, dc, rfl⟩ := hod.shape
        obtain ⟨pa, pc, rfl⟩ := hop.shape
        refine hK _ _ ⟨rfl, ht9, ?_⟩
        have hsz : ∀ j, hr.own st j → j < w1.heap.size := fun j hj => hI.1.lt j (HROWN.out j hj)
        rw [HAN.out]
        exact ⟨da, dc, pa, pc, rfl, hod.rd, hop.rd, fun x hx h0 hj => by have := hod.blk x hx h0; have := hsz _ hj; omega, fun x hx h0 hj => by have := hop.blk x hx h0; have := hsz _ hj; omega, hm9⟩
       case q2o6 =>
        intro w1 hI; refine t2o (by rfl) ?_; intro K hK; go_simp; refine hK _ _ ⟨rfl, Kept.refl _, ?_⟩; show _ = _; simp only [gv1]; rfl
       case q2o7 =>
        intro w1 hI; refine t2o (by rfl) ?_; intro K hK; go_simp; refine hK _ _ ⟨rfl, Kept.refl _, ?_⟩; show _ = _; simp only [gv1]; rfl
       case q2o8 =>
        intro w1 hI; refine t2o (by rfl) ?_; intro K hK; go_simp; refine hK _ _ ⟨rfl, Kept.refl _, ?_⟩; show _ = _; simp only [gv1]; rfl
       case q2o9 =>
        intro w1 hI; intro v7 h7; change _ = _ at h7; subst v7; intro v8 h8; change _ = _ at h8; subst v8; refine t2o (by rfl) ?_; intro K hK; simp only [gv2]; go_simp; refine hK _ _ ⟨rfl, Kept.refl _, ?_⟩; show _ = _; simp only [gv1]; rfl
       case q2o10 =>
        intro w1 hI
        replace hI : (fun w5 => OpC w5 No b (o + k * 6) A ta tn tc) w1 := hI
        intro v9 h9; change _ = _ at h9; subst v9; refine t2o (by rfl) ?_; intro K hK; simp only [gv2]
        obtain ⟨y0, y1, y2, y3, y4, y5⟩ := hI.c
        go_simp; refine hK _ _ ⟨rfl, Kept.refl _, ?_⟩; show _ = _; simp only [gv1]; rfl
       case q2o11 =>
        intro w1 hI
        replace hI : (fun w5 => (RmIn w5 No hr st ∧ OpC w5 No b (o + k * 6) A ta tn tc) ∧ wC.heap.size ≤ w5.heap.size) w1 := hI
        intro v5 h5
        obtain ⟨da5, dc5, pa5, pc5, rfl, d5, p5, nd5, np5, m5⟩ := h5
        intro v6 h6; change _ = _ at h6; subst v6; intro v10 h10; change _ = _ at h10; subst v10; refine t2o (by rfl) ?_; intro K hK; simp only [gv2]
        have hq := rdo_any hI.1.1 A.o ta tn tc HW.out.2.1 HW.out.2.2.1 HW.out.2.2.2.1 hI.1.2.rd hI.1.2.nx
        rw [HRM.out] at hq; go_simp
        refine Calls.mono hq ?_
        rintro e w9 ⟨dv, pv, hr9, rfl, hod, hop, hr9i, ht9, hm9, ho9⟩
        rw [HAN.out] at hod hop
        obtain ⟨da, dc, rfl⟩ := hod.shape
        obtain ⟨pa, pc, rfl⟩ := hop.shape
        refine hK _ _ ⟨rfl, ht9, ?_⟩
        rw [HAN.out]
        exact ⟨da, dc, pa, pc, hr9, rfl, hod.rd, hop.rd, m5.more ht9 (fun k hk => ⟨HROWN.out k hk, fun ho => DJ.out k ho hk⟩) (fun k hk => .inl hk) (fun k hk => hk.elim .inl (fun e => (ho9 k e).imp (HROWN.out k) id)) (fun k hk => hr9i.lt k hk), hr9i, hm9, fun k hk => (ho9 k hk).imp id (fun e => Nat.le_trans hI.2 e)⟩
       case q2o12 =>
        intro w1 hI; intro v5 h5
        obtain ⟨da5, dc5, pa5, pc5, rfl, d5, p5, nd5, np5, m5⟩ := h5
        intro v11 h11
        obtain ⟨da11, dc11, pa11, pc11, hr11, rfl, d11, p11, m11, r11, e11, o11⟩ := h11
        refine t2o (by rfl) ?_; intro K hK; simp only [gv2]; go_simp
        refine Calls.mono (rsame_yes AN.err AN.pid da5 da11 pa5 pa11 AN.data.length AN.pids.length dc5 dc11 pc5 pc11 AN.data AN.pids w1 d5 d11 p5 p11) ?_
        rintro e w2 ⟨rfl, hb2⟩
        refine hK _ _ ⟨rfl, hb2, ?_⟩
        exact ⟨rfl, hr11, m11.below hb2, r11.below hb2, e11⟩
       case q2o13 =>
        intro w1 hI; intro v12 h12
        obtain ⟨rfl, hr12, m12, r12, e12⟩ := h12
        refine t2o (by rfl) ?_; intro K hK; simp only [gv2]; go_simp; refine hK _ _ ⟨rfl, Kept.refl _, ?_⟩; show _ = _; simp only [gv1]; rfl
       case q2o14 =>
        intro w1 hI; intro v12 h12
        obtain ⟨rfl, hr12, m12, r12, e12⟩ := h12
        intro v13 h13; change _ = _ at h13; subst v13; refine t2o (by rfl) ?_; intro K hK; simp only [gv2]; go_simp; refine hK _ _ ⟨rfl, Kept.refl _, ?_⟩
        exact ⟨rfl, hr12, m12, r12, e12⟩
       case q2o15 =>
        intro w1 hI; intro v14 h14
        obtain ⟨rfl, hr14, m14, r14, e14⟩ := h14
        refine t2o (by rfl) ?_; intro K hK; simp only [gv2]; go_simp; refine hK _ _ ⟨rfl, Kept.refl _, ?_⟩; show _ = _; simp only [gv1]; rfl
       case q2o16 =>
        intro w1 hI; intro v14 h14
        obtain ⟨rfl, hr14, m14, r14, e14⟩ := h14
        refine t2o (by rfl) ?_; intro K hK; simp only [gv2]; go_simp; refine hK _ _ ⟨rfl, Kept.refl _, ?_⟩; show _ = _; simp only [gv1]; rfl
       case q2o17 =>
        intro w1 hI; intro v14 h14
        obtain ⟨rfl, hr14, m14, r14, e14⟩ := h14
        refine t2o (by rfl) ?_; intro K hK; simp only [gv2]; go_simp; refine hK _ _ ⟨rfl, Kept.refl _, ?_⟩; show _ = _; simp only [gv1]; rfl
       case q2o18 =>
        intro w1 hI; intro v14 h14
        obtain ⟨rfl, hr14, m14, r14, e14⟩ := h14
        refine t2o (by rfl) ?_; intro K hK; simp only [gv2]; go_simp; refine hK _ _ ⟨rfl, Kept.refl _, ?_⟩; show _ = _; simp only [gv1]; rfl
       case q2o19 =>
        intro w1 hI; intro v14 h14
        obtain ⟨rfl, hr14, m14, r14, e14⟩ := h14
        intro v17 h17; change _ = _ at h17; subst v17; intro v18 h18; change _ = _ at h18; subst v18; refine t2o (by rfl) ?_; intro K hK; simp only [gv2]; go_simp; refine hK _ _ ⟨rfl, Kept.refl _, ?_⟩; show _ = _; simp only [gv1]; rfl
       case q2o20 =>
        intro w1 hI; intro v14 h14
        obtain ⟨rfl, hr14, m14, r14, e14⟩ := h14
        intro v19 h19; change _ = _ at h19; subst v19; refine t2o (by rfl) ?_; intro K hK; simp only [gv2]; go_simp; refine hK _ _ ⟨rfl, Kept.refl _, ?_⟩; show _ = _; simp only [gv1]; rfl
       case q2o21 =>
        intro w1 hI
        replace hI : (fun w5 => OpC w5 No b (o + k * 6) A ta tn tc) w1 := hI
        intro v14 h14
        obtain ⟨rfl, hr14, m14, r14, e14⟩ := h14
        intro v20 h20; change _ = _ at h20; subst v20; refine t2o (by rfl) ?_; intro K hK; simp only [gv2]
        obtain ⟨y0, y1, y2, y3, y4, y5⟩ := hI.c
        go_simp; refine hK _ _ ⟨rfl, Kept.refl _, ?_⟩; show _ = _; simp only [gv1]; rfl
       case q2o22 =>
        intro w1 hI; intro v14 h14
        obtain ⟨rfl, hr14, m14, r14, e14⟩ := h14
        refine t2o (by rfl) ?_; intro K hK; simp only [gv2]; go_simp; refine hK _ _ ⟨rfl, Kept.refl _, ?_⟩; show _ = _; simp only [gv1]; rfl
       case q2o23 =>
        intro w1 hI; intro v14 h14
        obtain ⟨rfl, hr14, m14, r14, e14⟩ := h14
        intro v15 h15; change _ = _ at h15; subst v15; intro v16 h16; change _ = _ at h16; subst v16; intro v21 h21; change _ = _ at h21; subst v21; intro v22 h22; change _ = _ at h22; subst v22; refine t2o (by rfl) ?_; intro K hK; simp only [gv2]
        have hq := looks_yes m14 r14 A.pid page HW.out.2.1 HPG.out
        rw [e14, HRM.out] at hq; go_simp
        refine Calls.mono hq ?_
        rintro e w2 ⟨rfl, hb2⟩
        refine hK _ _ ⟨rfl, hb2, ?_⟩
        show _ = _; simp only [gv1]
       case q2o24 =>
        intro w1 hI; intro v14 h14
        obtain ⟨rfl, hr14, m14, r14, e14⟩ := h14
        intro v23 h23; change _ = _ at h23; subst h23; refine t2o (by rfl) ?_; intro K hK; simp only [gv2]; go_simp; refine hK _ _ ⟨rfl, Kept.refl _, ?_⟩; show _ = _; simp only [gv1]; rfl
       case q2o25 =>
        intro w1 hI; intro v14 h14
        obtain ⟨rfl, hr14, m14, r14, e14⟩ := h14
        intro v24 h24; change _ = _ at h24; subst v24; refine t2o (by rfl) ?_; intro K hK; simp only [gv2]; go_simp; refine hK _ _ ⟨rfl, Kept.refl _, ?_⟩
        exact ⟨rfl, hr14, m14, r14, e14⟩
       case q2o26 =>
        intro w1 hI; intro v25 h25
        obtain ⟨rfl, hr25, m25, r25, e25⟩ := h25
        refine t2o (by rfl) ?_; intro K hK; simp only [gv2]; go_simp; refine hK _ _ ⟨rfl, Kept.refl _, ?_⟩
        exact ⟨rfl, hr25, m25, r25, e25⟩
       case q2o27 =>
        intro w1 hI; intro v26 h26
        obtain ⟨rfl, hr26, m26, r26, e26⟩ := h26
        refine t2o (by rfl) ?_; intro K hK; simp only [gv2]; go_simp; refine hK _ _ ⟨rfl, Kept.refl _, ?_⟩; show _ = _; simp only [gv1]; rfl
       case q2o28 =>
        intro w1 hI; intro v26 h26
        obtain ⟨rfl, hr26, m26, r26, e26⟩ := h26
        refine t2o (by rfl) ?_; intro K hK; simp only [gv2]; go_simp; refine hK _ _ ⟨rfl, Kept.refl _, ?_⟩; show _ = _; simp only [gv1]; rfl
       case q2o29 =>
        intro w1 hI; intro v26 h26
        obtain ⟨rfl, hr26, m26, r26, e26⟩ := h26
        refine t2o (by rfl) ?_; intro K hK; simp only [gv2]; go_simp; refine hK _ _ ⟨rfl, Kept.refl _, ?_⟩; show _ = _; simp only [gv1]; rfl
       case q2o30 =>
        intro w1 hI; intro v26 h26
        obtain ⟨rfl, hr26, m26, r26, e26⟩ := h26
        refine t2o (by rfl) ?_; intro K hK; simp only [gv2]; go_simp; refine hK _ _ ⟨rfl, Kept.refl _, ?_⟩; show _ = _; simp only [gv1]; rfl
       case q2o31 =>
        intro w1 hI; intro v26 h26
        obtain ⟨rfl, hr26, m26, r26, e26⟩ := h26
        intro v27 h27; change _ = _ at h27; subst v27; intro v28 h28; change _ = _ at h28; subst v28; intro v29 h29; change _ = _ at h29; subst v29; intro v30 h30; change _ = _ at h30; subst v30; refine t2o (by rfl) ?_; intro K hK; simp only [gv2]
        have hq := looks_yes m26 r26 pid page HP.out HPG.out
        rw [e26, HRM.out] at hq; go_simp
        refine Calls.mono hq ?_
        rintro e w2 ⟨rfl, hb2⟩
        refine hK _ _ ⟨rfl, hb2, ?_⟩
        show _ = _; simp only [gv1]
       case q2o32 =>
        intro w1 hI; intro v26 h26
        obtain ⟨rfl, hr26, m26, r26, e26⟩ := h26
        intro v31 h31; change _ = _ at h31; subst h31; refine t2o (by rfl) ?_; intro K hK; simp only [gv2]; go_simp; refine hK _ _ ⟨rfl, Kept.refl _, ?_⟩; show _ = _; simp only [gv1]; rfl
       case q2o33 =>
        intro w1 hI; intro v26 h26
        obtain ⟨rfl, hr26, m26, r26, e26⟩ := h26
        intro v32 h32; change _ = _ at h32; subst v32; refine t2o (by rfl) ?_; intro K hK; simp only [gv2]; go_simp; refine hK _ _ ⟨rfl, Kept.refl _, ?_⟩; show _ = _; simp only [gv1]; rfl
      intro w5 hI
      replace hI : (fun w5 => Tn (fun j => hh.own j ∨ hr.own st j) wC w5) w5 := hI
      intro v0 h0; change _ = _ at h0; subst v0; intro v1 h1; change _ = _ at h1; subst v1; intro v2 h2; change _ = _ at h2; subst v2; intro v3 h3; change _ = _ at h3; subst v3; intro v4 h4; change _ = _ at h4; subst v4; intro v5 h5
      obtain ⟨da5, dc5, pa5, pc5, rfl, d5, p5, nd5, np5, m5⟩ := h5
      intro v6 h6; change _ = _ at h6; subst v6; intro v7 h7; change _ = _ at h7; subst v7; intro v8 h8; change _ = _ at h8; subst v8; intro v9 h9; change _ = _ at h9; subst v9; intro v10 h10; change _ = _ at h10; subst v10; intro v11 h11
      obtain ⟨da11, dc11, pa11, pc11, hr11, rfl, d11, p11, m11, r11, e11, o11⟩ := h11
      intro v12 h12
      obtain ⟨rfl, hr12, m12, r12, e12⟩ := h12
      intro v13 h13; change _ = _ at h13; subst v13; intro v14 h14
      obtain ⟨rfl, hr14, m14, r14, e14⟩ := h14
      intro v15 h15; change _ = _ at h15; subst v15; intro v16 h16; change _ = _ at h16; subst v16; intro v17 h17; change _ = _ at h17; subst v17; intro v18 h18; change _ = _ at h18; subst v18; intro v19 h19; change _ = _ at h19; subst v19; intro v20 h20; change _ = _ at h20; subst v20; intro v21 h21; change _ = _ at h21; subst v21; intro v22 h22; change _ = _ at h22; subst v22; intro v23 h23; change _ = _ at h23
      subst h23; intro v24 h24; change _ = _ at h24; subst v24; intro v25 h25
      obtain ⟨rfl, hr25, m25, r25, e25⟩ := h25
      intro v26 h26
      obtain ⟨rfl, hr26, m26, r26, e26⟩ := h26
      intro v27 h27; change _ = _ at h27; subst v27; intro v28 h28; change _ = _ at h28; subst v28; intro v29 h29; change _ = _ at h29; subst v29; intro v30 h30; change _ = _ at h30; subst v30; intro v31 h31; change _ = _ at h31; subst h31; intro v32 h32; change _ = _ at h32; subst v32; intro v33 h33; change _ = _ at h33; subst v33
      simp only [Given, gv2]
      have hT : Tn (fun j => hh.own j ∨ hr.own st j) wC w5 := hI
      have hQN : ∀ j, hh.own j ∨ hr.own st j → No j := fun j hj => hj.elim (HOWN.out j) (HROWN.out j)
      have hNO2 : ∀ j, No j ∨ hr11.own (stepM st A.o) j → No j ∨ wC.heap.size ≤ j := fun j hj => hj.elim .inl (fun e => (o11 j e).imp (HROWN.out j) id)
      have hPL : Hid (PlS w w5 hh rm (runM (mc0 c) (L.take (k + 1))) (some ⟨b, o, none⟩) n L) := by
       show PlS _ _ _ _ _ _ _ _
       rw [HSTEP.out]
       refine ⟨⟨_, hr11, m11, r11, e11.trans HRM.out, fun j h1 h2 => ?_, OPS1.out.more hT hQN hNO2, fun j hj => ?_⟩, HBL1.out.trans (hT.below (fun j hj hq => by have := HNO.out j (hQN j hq); omega) HBL1.out.size)⟩
       ·rcases o11 j h2 with e | e
        ·exact DJ.out j h1 e
        ·have := MI1.out.lt j (HOWN.out j h1); omega
       ·rcases hNO2 j hj with e | e
        ·exact HNO.out j e
        ·have := HBL1.out.size; omega
      clear hT hQN hNO2 m5 nd5 np5 d5 p5 d11 p11 m11 r11 o11 m12 r12 m14 r14 m25 r25 m26 r26 hI; go_wp2_with fail
      go_roundw
      case rel => exact ⟨k + 1, by omega, by go_num, hPL⟩
      case measure => simp [intOf] <;> omega
     ·obtain rfl : k = n := by omega
      clear hh2 mi ri hrm dj ops hno hbel
      go_wp2
      go_ret
      exact ⟨rfl, HBEL.out⟩
   ·have hnw := newmc_no c w3 hok
    unfold Cf.val at hnw
    have HNW := Lib.hid hnw; clear hnw; go_wp2_with fail
    refine HNW.out.mono ?_
    rintro e w4 ⟨rfl, hb4⟩
    have hrw := rnew18_no c w4 hok
    unfold Cf.val at hrw
    have HRW := Lib.hid hrw
    have HC4 := Lib.hid (row_keep HC3.out hb4)
    have HB4 := Lib.hid (Below.call HB3.out hb4)
    clear hrw hb4 z0 z1 z2 z3 z4 z5 z6 z7 z8
    obtain ⟨z0, z1, z2, z3, z4, z5, z6, z7, z8⟩ := cells9 HC4.out
    go_wp2_with fail
    refine HRW.out.mono ?_
    rintro e w5 ⟨rfl, hb5⟩
    have HB5 := Lib.hid (Below.call HB4.out hb5)
    clear hb5
    go_wp2
    go_ret
    exact ⟨rfl, HB5.out⟩
end Go.Proofs.YtnbjodoajfkekaaGreat
