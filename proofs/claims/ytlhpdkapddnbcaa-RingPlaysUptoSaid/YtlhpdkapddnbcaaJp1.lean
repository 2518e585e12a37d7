/- RingPlays: the walk. RingPlays: for every input the law returns true, and every argument reads as it did: the row round the walk. -/
import Derived.Deep.CutBlock
import Derived.Deep.DeepCutAuto
import Derived.Test.YtlhpdkapddnbcaaJk25
import Derived.JoinedCond
import Derived.Test.YtlhpdkapddnbcaaRows
import Derived.WalkKit
import Derived.ProofKit
import Derived.OpenShut
import Derived.ShutString
import Derived.ChangeOld
import Derived.Below
namespace Go.Proofs.Ytlhpdkapddnbcaa
open Go.RowKit
set_option linter.unusedSimpArgs false in
set_option linter.unusedVariables false in
set_option maxRecDepth 100000 in
set_option maxHeartbeats 4000000 in
theorem ringPlays_walk (a0 a1 : Int) (x2 : Option Addr) (nl cl : Nat) (l : List RaP) (w0 : World) (hw0 : (Lit.int .i64 a0).wf = true) (hw1 : (Lit.int .i64 a1).wf = true) (hl : RasAt w0 x2 nl l) (hb : sumRa l + nl ≤ 1048576) : Calls Try.prog 6 #[.int .i64 a0, .int .i64 a1, .slice x2 nl cl] w0 fun e w' => e = .returned (.bool true) ∧ Below w0.heap.size w0 w' := by
  obtain ⟨p0, p1⟩ := wf_i64_bd hw0
  obtain ⟨q0, q1⟩ := wf_i64_bd hw1
  have HKN := Lib.hid (known8 w0)
  have HL := Lib.hid hl
  have HFW : Hid (∀ w1, Below w0.heap.size w0 w1 → Calls Try.prog 24 #[.slice x2 nl cl] w1 fun e w' => e = .returned (.bool (fewR l)) ∧ Below w1.heap.size w1 w') := fun w1 h => few8_any x2 nl cl l w1 (hl.below h) hb
  by_cases hfew : fewR l = true
  rotate_left
  · have hfw : fewR l = false := by simpa using hfew
    rw [hfw] at HFW
    clear hfew hfw
    go_enter Try.func6, Try.ntmps6
    go_wp2_with fail
    refine HKN.out.mono ?_
    rintro e w1 ⟨rfl, hb1⟩
    have B1 := Lib.hid hb1
    clear hb1
    go_wp2_with (first | (go_at_call 24; refine (HFW.out w1 B1.out).mono ?_; rintro e w2 ⟨rfl, hb2⟩; have B2 := Lib.hid (B1.out.trans (hb2.mono B1.out.size)); clear hb2))
    go_ret
    exact ⟨rfl, B2.out⟩
  have hl60 : nl ≤ 60 := by unfold fewR at hfew; rw [Bool.and_eq_true, decide_eq_true_eq, decide_eq_true_eq, hl.len] at hfew; omega
  have hs16 : sumRa l ≤ 16384 := by unfold fewR at hfew; rw [Bool.and_eq_true, decide_eq_true_eq, decide_eq_true_eq] at hfew; omega
  rw [hfew] at HFW
  clear hfew hl
  by_cases hs : a0 < 64
  · have d0 : decide (a0 < 64) = true := decide_eq_true (by omega)
    go_enter Try.func6, Try.ntmps6
    go_wp2_with fail
    refine HKN.out.mono ?_
    rintro e w1 ⟨rfl, hb1⟩
    have B1 := Lib.hid hb1
    clear hb1
    go_wp2_with (first | (go_at_call 24; refine (HFW.out w1 B1.out).mono ?_; rintro e w2 ⟨rfl, hb2⟩; have B2 := Lib.hid (B1.out.trans (hb2.mono B1.out.size)); clear hb2))
    go_ret
    exact ⟨rfl, B2.out⟩
  have d0 : decide (a0 < 64) = false := decide_eq_false (by omega)
  by_cases hs2 : 512 < a0
  · have d1 : decide (512 < a0) = true := decide_eq_true (by omega)
    go_enter Try.func6, Try.ntmps6
    go_wp2_with fail
    refine HKN.out.mono ?_
    rintro e w1 ⟨rfl, hb1⟩
    have B1 := Lib.hid hb1
    clear hb1
    go_wp2_with (first | (go_at_call 24; refine (HFW.out w1 B1.out).mono ?_; rintro e w2 ⟨rfl, hb2⟩; have B2 := Lib.hid (B1.out.trans (hb2.mono B1.out.size)); clear hb2))
    go_ret
    exact ⟨rfl, B2.out⟩
  have d1 : decide (512 < a0) = false := decide_eq_false (by omega)
  by_cases hn : a1 < 4
  · have d2 : decide (a1 < 4) = true := decide_eq_true (by omega)
    go_enter Try.func6, Try.ntmps6
    go_wp2_with fail
    refine HKN.out.mono ?_
    rintro e w1 ⟨rfl, hb1⟩
    have B1 := Lib.hid hb1
    clear hb1
    go_wp2_with (first | (go_at_call 24; refine (HFW.out w1 B1.out).mono ?_; rintro e w2 ⟨rfl, hb2⟩; have B2 := Lib.hid (B1.out.trans (hb2.mono B1.out.size)); clear hb2))
    go_ret
    exact ⟨rfl, B2.out⟩
  have d2 : decide (a1 < 4) = false := decide_eq_false (by omega)
  by_cases hn2 : 60 < a1
  · have d3 : decide (60 < a1) = true := decide_eq_true (by omega)
    go_enter Try.func6, Try.ntmps6
    go_wp2_with fail
    refine HKN.out.mono ?_
    rintro e w1 ⟨rfl, hb1⟩
    have B1 := Lib.hid hb1
    clear hb1
    go_wp2_with (first | (go_at_call 24; refine (HFW.out w1 B1.out).mono ?_; rintro e w2 ⟨rfl, hb2⟩; have B2 := Lib.hid (B1.out.trans (hb2.mono B1.out.size)); clear hb2))
    go_ret
    exact ⟨rfl, B2.out⟩
  have d3 : decide (60 < a1) = false := decide_eq_false (by omega)
  obtain ⟨size, rfl⟩ : ∃ size : Nat, a0 = size := Int.eq_ofNat_of_zero_le (by omega)
  obtain ⟨n, rfl⟩ : ∃ n : Nat, a1 = n := Int.eq_ofNat_of_zero_le (by omega)
  have h4 : 4 ≤ n := by omega
  have h60 : n ≤ 60 := by omega
  have h64 : 64 ≤ size := by omega
  have h512 : size ≤ 512 := by omega
  clear hs hs2 hn hn2 p0 p1 q0 q1 hw0 hw1
  have HBG : Hid (∀ w1, Calls Try.prog 10 #[.int .i64 (size : Int), .int .i64 (n : Int)] w1 fun e w' => ∃ g d r Q, e = .returned (.pointer (some ⟨g, 0, none⟩)) ∧ Begun w1 w' g d r Q n size) := fun w1 => begun_any n size w1 h4 h60 h64 h512
  go_enter Try.func6, Try.ntmps6
  go_wp2_with fail
  refine HKN.out.mono ?_
  rintro e w1 ⟨rfl, hb1⟩
  have B1 := Lib.hid hb1
  clear hb1
  go_wp2_with (first | (go_at_call 24; refine (HFW.out w1 B1.out).mono ?_; rintro e w2 ⟨rfl, hb2⟩; have B2 := Lib.hid (B1.out.trans (hb2.mono B1.out.size)); clear hb2))
  refine (HBG.out w2).mono ?_
  rintro e w3 ⟨g, d, r, Q, rfl, hbg⟩
  have hpl := hbg.pls B2.out h4
  obtain ⟨C, hC⟩ : ∃ C, (⟨g, d, n, size, (fmS (dk0 (n + 4) size) 2 size (bgT n size)).kept⟩ : PlC) = C := ⟨_, rfl⟩
  have hCg : C.g = g := by rw [← hC]
  have OK : Hid (C.Ok) := by rw [← hC]; exact ⟨h4, h60, h64, h512⟩
  rw [hC] at hpl
  rw [← hCg]
  have HP0 := Lib.hid hpl
  clear hpl hbg hC hCg g
  go_upto_block 0 with fail
  go_cut [] (fun wx => ∃ L, PlS C w0 wx 120 L)
  case first =>
    go_wp2_with fail
    go_loopw [8] (fun ix wr => ∃ (k : Nat) (L : List (List Int)), k ≤ nl ∧ ix = .int .i64 k ∧ Hid (PlS C w0 wr (2 * k) L)) (fun ix _ => nl - (intOf ix).toNat)
    case atStart => exact ⟨0, [], Nat.zero_le _, rfl, HP0⟩
    case round =>
      obtain ⟨k, L, hk, rfl, HP⟩ := hrel
      by_cases hkn : k < nl
      · have d5 : decide ((k : Int) < nl) = true := decide_eq_true (by omega)
        obtain ⟨A, hA⟩ : ∃ A, l[k]? = some A := ⟨_, List.getElem?_eq_getElem (by rw [HL.out.len]; exact hkn)⟩
        have hmem := sumRa_mem (List.mem_of_getElem? hA)
        obtain ⟨b0, o0, rfl, hat⟩ := (HL.out.below HP.out.below).at_ k A hA
        obtain ⟨b00, o00, e00, ⟨ba, bn, bc, ka, kn, kc, _, cb, _, ck, hrB, hrK⟩, _⟩ := HL.out.at_ k A hA
        injection e00 with e00
        injection e00 with e00 e01
        subst e00 e01
        obtain ⟨⟨ba', bn', bc', ka', kn', kc', c0, c1, c2, c3, _, _⟩, hwf⟩ := hat
        have e1 : Value.slice ba' bn' bc' = Value.slice ba bn bc := by have h1 := (Below.cell HP.out.below (block_lt_of_cell cb)).trans cb; rw [c1] at h1; exact Option.some.inj h1
        have e3 : Value.slice ka' kn' kc' = Value.slice ka kn kc := by have h1 := (Below.cell HP.out.below (block_lt_of_cell ck)).trans ck; rw [c3] at h1; exact Option.some.inj h1
        injection e1 with e10 e11 e12
        injection e3 with e30 e31 e32
        subst e10 e11 e12 e30 e31 e32
        have hbn : bn' ≤ 1000000 := by rw [← hrB.len]; omega
        have hkn2 : kn' ≤ 1000000 := by rw [← hrK.len]; omega
        have HRB := Lib.hid hrB
        have HRK := Lib.hid hrK
        obtain ⟨n0, n1⟩ := wf_i64_bd hwf.2
        obtain ⟨op, hop⟩ : ∃ op, A.op = op := ⟨_, rfl⟩
        obtain ⟨N, hN⟩ : ∃ N, A.nn = N := ⟨_, rfl⟩
        rw [hop] at c0
        rw [hN] at c2 n0 n1
        clear hA hmem hrB hrK hwf cb ck hop hN
        obtain ⟨hb1, hhb⟩ : ∃ hb1, wr.heap.size = hb1 := ⟨_, rfl⟩
        go_upto_region 12 with fail
        have hba : Below wr.heap.size wr (wr.alloc (.cells #[.int .i64 op, .slice ba' bn' bc', .int .i64 N, .slice ka' kn' kc'] 63)) := (Below.refl _ _).alloc (Nat.le_refl _) _
        have hrow := heap_alloc_new wr (.cells #[.int .i64 op, .slice ba' bn' bc', .int .i64 N, .slice ka' kn' kc'] 63)
        rw [hhb] at hrow
        obtain ⟨wA, hwA⟩ : ∃ wA, wr.alloc (.cells #[.int .i64 op, .slice ba' bn' bc', .int .i64 N, .slice ka' kn' kc'] 63) = wA := ⟨_, rfl⟩
        rw [hwA] at hba hrow ⊢
        clear hwA c0 c1 c2 c3
        have HBA := Lib.hid hba
        clear hba
        obtain ⟨z0, z1, z2, z3⟩ := cells4 hrow
        have zf := fun j => frozen_of_row wA hb1 j _ _ hrow
        by_cases hN1 : N < 0
        · have dn1 : decide (N < 0) = true := decide_eq_true hN1
          go_upto_region 14 with fail
          have hrow2 := heap_setCell_same wA hb1 2 _ _ (.int .i64 0) hrow
          have hbz := HBA.out.trans ((put_below8 wA _ hb1 2 (.int .i64 0) (Nat.le_of_eq hhb)))
          obtain ⟨wZ, hwZ⟩ : ∃ wZ, wA.setCell ⟨hb1, 2, none⟩ (.int .i64 0) = wZ := ⟨_, rfl⟩
          rw [hwZ] at hrow2 hbz ⊢
          have HBZ := Lib.hid hbz
          clear hwZ hrow hbz z0 z1 z2 z3 zf
          replace hrow2 : wZ.heap[hb1]? = some (.cells #[.int .i64 op, .slice ba' bn' bc', .int .i64 0, .slice ka' kn' kc'] 63 (0, 0)) := hrow2
          obtain ⟨z0, z1, z2, z3⟩ := cells4 hrow2
          clear hrow2
          go_wp2_with fail
          refine (wstep_any C OK.out w0 wZ (2 * k) L (HP.out.keep HBZ.out) (by omega) op 0 ba' bn' bc' _ ka' kn' kc' _ HRB.out HRK.out hbn hkn2 (by omega) (by omega)).mono ?_
          rintro e w5 ⟨rfl, L', hS⟩
          have HS := Lib.hid (hS.later (show 2 * k + 2 ≤ 2 * (k + 1) by omega))
          clear hS
          go_wp2_with fail
          go_roundw
          case rel => exact ⟨k + 1, L', by omega, by go_num, HS⟩
          case measure => simp [intOf] <;> omega
        have dn1 : decide (N < 0) = false := decide_eq_false hN1
        by_cases hN2 : 100 < N
        · have dn2 : decide (100 < N) = true := decide_eq_true hN2
          obtain ⟨y, hy⟩ : ∃ y, N % 100 = y := ⟨_, rfl⟩
          have hy1 : 0 ≤ y ∧ y ≤ 100 := by omega
          have hty : N.tmod 100 = y := by rw [Int.tmod_eq_emod_of_nonneg (by omega)]; exact hy
          clear hy
          go_upto_region 16 with fail
          have hrow2 := heap_setCell_same wA hb1 2 _ _ (.int .i64 y) hrow
          have hbz := HBA.out.trans ((put_below8 wA _ hb1 2 (.int .i64 y) (Nat.le_of_eq hhb)))
          obtain ⟨wZ, hwZ⟩ : ∃ wZ, wA.setCell ⟨hb1, 2, none⟩ (.int .i64 y) = wZ := ⟨_, rfl⟩
          rw [hwZ] at hrow2 hbz ⊢
          have HBZ := Lib.hid hbz
          clear hwZ hrow hbz z0 z1 z2 z3 zf
          replace hrow2 : wZ.heap[hb1]? = some (.cells #[.int .i64 op, .slice ba' bn' bc', .int .i64 y, .slice ka' kn' kc'] 63 (0, 0)) := hrow2
          obtain ⟨z0, z1, z2, z3⟩ := cells4 hrow2
          clear hrow2
          go_wp2_with fail
          refine (wstep_any C OK.out w0 wZ (2 * k) L (HP.out.keep HBZ.out) (by omega) op y ba' bn' bc' _ ka' kn' kc' _ HRB.out HRK.out hbn hkn2 hy1.1 hy1.2).mono ?_
          rintro e w5 ⟨rfl, L', hS⟩
          have HS := Lib.hid (hS.later (show 2 * k + 2 ≤ 2 * (k + 1) by omega))
          clear hS
          go_wp2_with fail
          go_roundw
          case rel => exact ⟨k + 1, L', by omega, by go_num, HS⟩
          case measure => simp [intOf] <;> omega
        have dn2 : decide (100 < N) = false := decide_eq_false hN2
        clear hrow
        go_wp2_with fail
        refine (wstep_any C OK.out w0 wA (2 * k) L (HP.out.keep HBA.out) (by omega) op N ba' bn' bc' _ ka' kn' kc' _ HRB.out HRK.out hbn hkn2 (by omega) (by omega)).mono ?_
        rintro e w5 ⟨rfl, L', hS⟩
        have HS := Lib.hid (hS.later (show 2 * k + 2 ≤ 2 * (k + 1) by omega))
        clear hS
        go_wp2_with fail
        go_roundw
        case rel => exact ⟨k + 1, L', by omega, by go_num, HS⟩
        case measure => simp [intOf] <;> omega
      · have d5 : decide ((k : Int) < nl) = false := decide_eq_false (by omega)
        go_wp2_with fail
        go_meet
        case rel => exact ⟨L, HP.out.later (by omega)⟩
  case rest =>
    obtain ⟨L, hpl⟩ := hcut
    obtain ⟨Q, r, st, J, lv, mv, may, ma, hp⟩ := hpl.steady
    obtain ⟨Z, hpd, hzq⟩ := hp.disk
    have HOF := Lib.hid (off_any Z C.d st wc hpd.di)
    rw [hp.off] at HOF
    obtain ⟨y0, y1, y2, y3, y4, y5, y6, y7, y8, yf⟩ := plcells hpd.row
    have PD := Lib.hid hpd
    clear hpl hp hpd hzq
    go_wp2_with (first | (go_at_call 16; refine HOF.out.mono ?_; rintro e w5 ⟨rfl, rfl⟩))
    refine (PD.out.cut none 0 0 [] ⟨rfl, Nat.le_refl _, by unfold maxLen; omega, fun i hi => by omega, fun _ => rfl⟩ (fun x hx => by cases hx)).mono ?_
    rintro e w6 ⟨rfl, hp6⟩
    have P6 := Lib.hid hp6
    clear hp6 y0 y1 y2 y3 y4 y5 y6 y7 y8 yf
    go_wp2_with fail
    refine (wopen_any C OK.out w0 w6 Z 120 _ J.h L _ P6.out (by omega) rfl rfl).mono ?_
    rintro e w7 ⟨rfl, hS⟩
    have BZ := Lib.hid hS.below
    clear hS
    go_wp2_with fail
    go_ret
    exact ⟨rfl, BZ.out⟩
end Go.Proofs.Ytlhpdkapddnbcaa

namespace Go.Proofs.Ytlhpdkapddnbcaa.ringPlays
open Go.ChangeShapes Go.WideShapes Go.ChangeAt Go.RowKit
set_option linter.unusedVariables false

set_option maxRecDepth 100000 in
theorem own : ownKnob Try.prog.godebug = none := by kernel_rfl
set_option maxRecDepth 100000 in
theorem laidOut : laidOutB Try.prog = true := by kernel_rfl

set_option maxRecDepth 100000 in
theorem lifted (os : Os) (started : os.Started) (H : Type) (enc : TypeId × Value → H) (F : Stop.Interp) :
    ReturnsInHanded {} Try.checked os 6 .any ((Rows.OpenSpec.upto Rows.ringPlaysSpec).pre6 enc Try.prog Try.f6 Rows.ringPlaysUptoRow.domain false) (((Rows.OpenSpec.upto Rows.ringPlaysSpec).at F).post enc Try.prog Try.f6 false true false false) := by
  refine returnsInHanded_of_cond (C := Try.checked) (s := Rows.OpenSpec.upto Rows.ringPlaysSpec) (k := Rows.uptoSmall) rfl own started (by kernel_rfl) Try.func6
    (OpenSpec.witness (enc := enc) (C := Try.checked) (s := Rows.OpenSpec.upto Rows.ringPlaysSpec) (k := Rows.uptoSmall) rfl false ⟨#[], #[.int .i64 0, .int .i64 0, .slice none 0 0], []⟩ 8 (by kernel_rfl) (by kernel_rfl) (by kernel_rfl)
      (x := ([.lit (.int .i64 0), .lit (.int .i64 0), .nil], [], [])) (by kernel_rfl) rfl (by kernel_rfl)) ?_
  intro W base args ds gs before hval0 hW hcnd hk _
  have hval : ∀ (j : Nat) t v, Try.f6.params[j]? = some t → args[j]? = some v → Value.okWide Try.prog W .any base t v := hval0
  have hW' := hW
  obtain ⟨p, q, hA0, hV, rfl, hfz, hnd⟩ := hW
  have hA : DataW.TrodAll enc Try.prog W 0 (fun _ => true) true Try.f6.params.toList args.toList ds p := hA0
  rw [Try.params6] at hA hval
  obtain ⟨v0, vs0, d0, ds0, p0, q0, hargs, rfl, rfl, h0, r0⟩ := trodAll_cons hA
  obtain ⟨v1, vs1, d1, ds1, p1, q1, rfl, rfl, rfl, h1, r1⟩ := trodAll_cons r0
  obtain ⟨v2, vs2, d2, ds2, p2, q2, rfl, rfl, rfl, h2, r2⟩ := trodAll_cons r1
  obtain ⟨rfl, rfl, rfl⟩ := trodAll_nil r2
  obtain rfl : args = #[v0, v1, v2] := by cases args; simp_all
  obtain ⟨rfl, rfl⟩ := trodVars_none hV
  obtain ⟨a0, rfl, rfl, rfl, w0⟩ := open_int Try.underlying3 (hval 0 3 v0 rfl rfl) h0
  obtain ⟨a1, rfl, rfl, rfl, w1⟩ := open_int Try.underlying3 (hval 1 3 v1 rfl rfl) h1
  obtain ⟨a2, len2, cap2, rfl⟩ := okWide_slice Try.underlying60 (hval 2 60 v2 rfl rfl)
  have k2 := h2
  have lt2 : ∀ x ∈ p2, x.block < W.heap.size := by obtain ⟨m, hm⟩ := k2; exact DataW.trod_lt m _ _ _ hm
  obtain ⟨z2, w2, y2⟩ := ras_open h2
  have b2 := bulk_part (l := [(.lit (.int .i64 a0)), (.lit (.int .i64 a1)), d2]) (d := d2) (by simp)
  clear hA0 hval0
  refine (ringPlays_walk a0 a1 a2 len2 cap2 z2 W w0 w1 w2 (by have := bulk_bound hk; simp only [List.append_nil] at this; omega)).mono fun e W' ⟨he, bel⟩ => ?_
  subst he
  exact ⟨_, rfl, _, _, _, [], _, [], hW', trodAll_mk1 (shut_bool Try.underlying4 _), (trodAll_cons_mk (shut_int Try.underlying3 w0) (trodAll_cons_mk (shut_int Try.underlying3 w1) (trodAll_cons_mk (Below.trod laidOut (by kernel_rfl) (of_decide_eq_true (by kernel_rfl)) k2 bel lt2) trodAll_mk0))), rfl, bel.frame _, fun h => by cases h⟩

set_option maxRecDepth 100000 in
theorem over : Rows.ringPlaysUptoRow.holds Try.pinned (Rows.OpenSpec.upto Rows.ringPlaysSpec) :=
  OpenClaim.holds_of_cond 6 Try.f6 rfl rfl rfl rfl rfl rfl rfl ⟨rfl, rfl, rfl, rfl, rfl⟩ rfl rfl rfl rfl rfl (by kernel_rfl) Try.func6 (by kernel_rfl)
    (of_decide_eq_true (by kernel_rfl)) (by unfold Func.isWrapper; first | (rw [if_pos (by decide +kernel)]; kernel_rfl) | (rw [if_neg (by decide +kernel)]; exact ⟨rfl, rfl⟩))
    (fun os started H enc _ F => lifted os started H enc F)

/-- RingPlays holds for every input of a bulk that fits. -/
theorem proved : Rows.RingPlaysUptoSaid := over
end Go.Proofs.Ytlhpdkapddnbcaa.ringPlays
