/- Joined: super's laws: the chapter's example. The contract of the document's Burst. The walk of almanaclaw20.SuperBack. SuperBack: for every input the law returns true, and every argument reads as it did: the row round the walk. -/
import Derived.Test.YtcbnebcooiagmaaJb17
import Derived.Test.YtcbnebcooiagmaaJb8
import Derived.Test.YtcbnebcooiagmaaJb1
import Derived.Test.YtcbnebcooiagmaaJb9
import Derived.Test.YtcbnebcooiagmaaRows
import Derived.WalkKit
import Derived.ProofKit
import Derived.OpenShut
import Derived.ShutString
import Derived.ChangeOld
import Derived.Below
namespace Go.Proofs.Ytcbnebcooiagmaa
open Go.RowKit
def KB : Blk := ⟨3, 40, 128, 4, 2, 16, 4, 2, 2, 4, 0, 0, 1⟩
def K0 : Dk := dk0 40 128
theorem kb_wf : KB.Wf := ⟨by decide, by decide, by decide, by decide, by decide, by decide, by decide, by decide, by decide, by decide, by decide, by decide, by decide⟩
set_option maxRecDepth 100000 in
theorem kb_ok : supE KB = 0 := by kernel_rfl
theorem kb_fit : fitB K0 KB = true := by kernel_rfl
theorem r40 : rightB 40 128 = true := by decide
def K1 : Dk := putK K0 1 (supV KB)
theorem k1_at : K1.kept = (List.replicate 40 (List.replicate 128 0)).set 1 (supV KB) := rfl
theorem k1_sec : secB K1 1 = supV KB ∧ secB K1 0 = List.replicate 128 0 := by
  rw [secB_kept rfl, secB_kept rfl, k1_at]
  exact ⟨rfl, rfl⟩
theorem k1_fit : fitB K1 KB = true := by
  unfold fitB
  rw [k1_at, List.length_set]
  kernel_rfl
theorem k1_best : bestS K1 2 = true ∧ bestB K1 2 = KB := by
  obtain ⟨h1, h2⟩ := slot_of (i := 1) k1_sec.1 kb_wf kb_ok k1_fit rfl
  have h0 := slot_zero (i := 0) k1_sec.2
  obtain ⟨e1, e2⟩ := best2 K1
  rw [h1, h0] at e1 e2
  exact ⟨e1, by rw [e2, h2]; rfl⟩
theorem k1_read : supRE K1 = 0 ∧ supRB K1 = KB ∧ supRS K1 = readN K1 2 := by
  have ho : K1.off = false := rfl
  unfold supRE supRB supRS
  rw [ho, k1_best.1, k1_best.2]
  exact ⟨rfl, rfl, rfl⟩
theorem k1_rd : rdV (readN K1 2) 1 = supV KB := by
  have h : rdE (readN K1 2) 1 = 0 := rfl
  unfold rdV
  rw [if_pos h]
  exact k1_sec.1
set_option linter.unusedSimpArgs false in
set_option linter.unusedVariables false in
set_option maxRecDepth 100000 in
set_option maxHeartbeats 2000000 in
theorem known20 (w : World) : Calls Try.prog 8 #[] w fun e w' => e = .returned (.bool true) ∧ Below w.heap.size w w' := by
  go_enter Try.func8, Try.ntmps8
  go_wp2_with fail
  refine (shape20_any _).mono ?_
  rintro e w1 ⟨rfl, hb1⟩
  have hal := (Below.refl w1.heap.size w1).alloc (Nat.le_refl _) (.cells #[.int .i64 40, .int .i64 128, .int .i64 4, .int .i64 2, .int .i64 16, .int .i64 4, .int .i64 2, .int .i64 2, .int .i64 4] 24)
  have hrow := heap_alloc_new w1 (.cells #[.int .i64 40, .int .i64 128, .int .i64 4, .int .i64 2, .int .i64 16, .int .i64 4, .int .i64 2, .int .i64 2, .int .i64 4] 24)
  obtain ⟨wa, hwa⟩ : ∃ wa, w1.alloc (.cells #[.int .i64 40, .int .i64 128, .int .i64 4, .int .i64 2, .int .i64 16, .int .i64 4, .int .i64 2, .int .i64 2, .int .i64 4] 24) = wa := ⟨_, rfl⟩
  obtain ⟨cb, hcb⟩ : ∃ cb, w1.heap.size = cb := ⟨_, rfl⟩
  have BA := Lib.hid (Below.call hb1 (by rw [hwa] at hal; exact hal))
  rw [hwa, hcb] at hrow
  have CR := Lib.hid hrow
  have HWA := Lib.hid hwa
  have HCB := Lib.hid hcb
  clear hb1 hal hrow hwa hcb
  go_wp2_with fail
  rw [HWA.out, HCB.out]
  refine (check_any 40 128 4 2 16 4 2 2 4 wa).mono ?_
  rintro e w2 ⟨rfl, hb2⟩
  rw [show chkN 40 128 4 2 16 4 2 2 4 = 0 from by kernel_rfl]
  have B2 := Lib.hid (Below.call BA.out hb2)
  have CR2 := Lib.hid (row_keep CR.out hb2)
  clear hb2 CR BA
  obtain ⟨z0, z1, z2, z3, z4, z5, z6, z7, z8⟩ := cells9 CR2.out
  go_wp2_with fail
  refine (new_any 40 128 w2 r40).mono ?_
  rintro e w3 ⟨d, Z, rfl, hd3, hz3, hb3⟩
  have D3 := Lib.hid (DkB.mk hd3 (fun k h => Nat.le_trans B2.out.size (hz3 k h)) (Below.call B2.out hb3))
  have CR3 := Lib.hid (row_keep CR2.out hb3)
  clear z0 z1 z2 z3 z4 z5 z6 z7 z8 hd3 hz3 hb3 CR2 B2
  obtain ⟨z0, z1, z2, z3, z4, z5, z6, z7, z8⟩ := cells9 CR3.out
  go_wp2_with fail
  have HE0 := Lib.hid (wrote (st := K0) (b := KB) rfl kb_ok kb_fit rfl (by decide))
  refine (supwrite_any Z d K0 KB w3 D3.out.din kb_wf (show (0 : Int) + 1 ≤ 4611686018427387904 by decide)).mono ?_
  rintro e w4 ⟨rfl, Z4, hd4, ht4⟩
  rw [HE0.out.2] at hd4
  rw [HE0.out.1]
  have D4 := Lib.hid (D3.out.turn (st' := K1) hd4 ht4)
  clear hd4 ht4 z0 z1 z2 z3 z4 z5 z6 z7 z8 D3
  go_wp2_with fail
  refine (supread_any Z4 d K1 w4 D4.out.din (show 2 ≤ K1.kept.length by rw [k1_at, List.length_set, List.length_replicate]; decide) (show (0 : Int) + 2 ≤ 4611686018427387904 by decide)).mono ?_
  rintro e w5 ⟨rfl, hd5, ht5⟩
  rw [k1_read.2.2] at hd5
  rw [k1_read.1, k1_read.2.1]
  rw [show KB.val = .agg #[.int .u64 3, .int .i64 40, .int .i64 128, .int .i64 4, .int .i64 2, .int .i64 16, .int .i64 4, .int .i64 2, .int .i64 2, .int .i64 4, .int .i64 0, .int .i64 0, .int .u64 1] from rfl]
  have D5 := Lib.hid (D4.out.turn hd5 ht5)
  clear hd5 ht5 D4
  have hal := (Below.refl w5.heap.size w5).alloc (Nat.le_refl _) (.cells #[.int .u64 3, .int .i64 40, .int .i64 128, .int .i64 4, .int .i64 2, .int .i64 16, .int .i64 4, .int .i64 2, .int .i64 2, .int .i64 4, .int .i64 0, .int .i64 0, .int .u64 1] 28)
  have hrow := heap_alloc_new w5 (.cells #[.int .u64 3, .int .i64 40, .int .i64 128, .int .i64 4, .int .i64 2, .int .i64 16, .int .i64 4, .int .i64 2, .int .i64 2, .int .i64 4, .int .i64 0, .int .i64 0, .int .u64 1] 28)
  have D6 := Lib.hid (D5.out.more hal)
  obtain ⟨w6, hw6⟩ : ∃ w6, w5.alloc (.cells #[.int .u64 3, .int .i64 40, .int .i64 128, .int .i64 4, .int .i64 2, .int .i64 16, .int .i64 4, .int .i64 2, .int .i64 2, .int .i64 4, .int .i64 0, .int .i64 0, .int .u64 1] 28) = w6 := ⟨_, rfl⟩
  obtain ⟨bb, hbb⟩ : ∃ bb, w5.heap.size = bb := ⟨_, rfl⟩
  rw [hw6] at D6
  rw [hw6, hbb] at hrow
  have BR6 := Lib.hid hrow
  have HW6 := Lib.hid hw6
  have HBB := Lib.hid hbb
  have hnz : Hid (¬ Z4 bb) := fun h => by have := D5.out.din.1 bb h; omega
  clear hal hrow hw6 hbb D5
  go_wp2_with fail
  rw [HW6.out, HBB.out]
  refine (read_any Z4 d (readN K1 2) 1 w6 D6.out.din (by decide) (by decide) (show (2 : Int) + 1 ≤ 4611686018427387904 by decide)).mono ?_
  rintro e w7 ⟨v7, rfl, ho7, hd7, ht7⟩
  rw [k1_rd] at ho7
  have hl := supV_len kb_ok
  obtain ⟨n7, hn7⟩ : ∃ n7, (supV KB).length = n7 := ⟨_, rfl⟩
  rw [hn7] at hl
  obtain ⟨a7, c7, rfl⟩ := ho7.shapeN n7 hn7
  have BR7 := Lib.hid (row_tnd BR6.out ht7 hnz.out)
  have D7 := Lib.hid (D6.out.turn hd7 ht7)
  have O7 := Lib.hid ho7.rd
  clear ho7 hd7 ht7 BR6 D6 hn7
  go_wp2_with fail
  refine (supdec_any a7 n7 c7 (supV KB) w7 O7.out (by omega)).mono ?_
  rintro e w8 ⟨rfl, hb8⟩
  rw [(sup_read kb_wf kb_ok).1, (sup_read kb_wf kb_ok).2]
  rw [show KB.val = .agg #[.int .u64 3, .int .i64 40, .int .i64 128, .int .i64 4, .int .i64 2, .int .i64 16, .int .i64 4, .int .i64 2, .int .i64 2, .int .i64 4, .int .i64 0, .int .i64 0, .int .u64 1] from rfl]
  have BR8 := Lib.hid (row_keep BR7.out hb8)
  have B8 := Lib.hid (Below.call D7.out.below hb8)
  clear hb8 BR7 D7
  have hal := (Below.refl w8.heap.size w8).alloc (Nat.le_refl _) (.cells #[.int .u64 3, .int .i64 40, .int .i64 128, .int .i64 4, .int .i64 2, .int .i64 16, .int .i64 4, .int .i64 2, .int .i64 2, .int .i64 4, .int .i64 0, .int .i64 0, .int .u64 1] 28)
  obtain ⟨q0, q1, q2, q3, q4, q5, q6, q7, q8, q9, q10, q11, q12⟩ := cells13 (row_keep BR8.out hal)
  obtain ⟨r0, r1, r2, r3, r4, r5, r6, r7, r8, r9, r10, r11, r12⟩ := cells13 (heap_alloc_new w8 (.cells #[.int .u64 3, .int .i64 40, .int .i64 128, .int .i64 4, .int .i64 2, .int .i64 16, .int .i64 4, .int .i64 2, .int .i64 2, .int .i64 4, .int .i64 0, .int .i64 0, .int .u64 1] 28))
  obtain ⟨w9, hw9⟩ : ∃ w9, w8.alloc (.cells #[.int .u64 3, .int .i64 40, .int .i64 128, .int .i64 4, .int .i64 2, .int .i64 16, .int .i64 4, .int .i64 2, .int .i64 2, .int .i64 4, .int .i64 0, .int .i64 0, .int .u64 1] 28) = w9 := ⟨_, rfl⟩
  obtain ⟨xb, hxb⟩ : ∃ xb, w8.heap.size = xb := ⟨_, rfl⟩
  have B9 := Lib.hid (Below.call B8.out hal)
  rw [hw9] at q0 q1 q2 q3 q4 q5 q6 q7 q8 q9 q10 q11 q12 r0 r1 r2 r3 r4 r5 r6 r7 r8 r9 r10 r11 r12 B9
  rw [hxb] at r0 r1 r2 r3 r4 r5 r6 r7 r8 r9 r10 r11 r12
  clear hal
  go_wp2_with (rw [hw9, hxb])
  go_ret
  exact ⟨rfl, B9.out⟩
end Go.Proofs.Ytcbnebcooiagmaa
namespace Go.Proofs.Ytcbnebcooiagmaa
open Go.RowKit
set_option maxRecDepth 100000 in
set_option maxHeartbeats 1000000 in
theorem refburst_in (a : Option Addr) (n c : Nat) (l : List Int) (bit : Nat) (p : BitVec 32) (w : World) (h : RdAt .u8 w a n c l) (hn : n ≤ 1000000000) (hb : bit < 8 * n) :
    Calls Try.prog 18 #[.slice a n c, .int .i64 bit, .int .u32 (rnum p)] w (GivesBytes (burstK l bit p 32) w) := by
  have hby := h.bytes
  have HL := Lib.hid h.len
  have hd1 : decide ((bit : Int) < 0) = false := decide_eq_false (by omega)
  have hd2 : decide (8 * (n : Int) ≤ bit) = false := decide_eq_false (by omega)
  go_enter Try.func18, Try.ntmps18
  go_wp2_with (at_builtin; refine app_all u8T u8I (by decide) rfl _ _ rfl _ w.heap.size _ [] rfl (Owns.empty _ _ _ _ _ _) _ _ _ l rfl (h.below ((Below.refl _ _).alloc (Nat.le_refl _) _)) (by simp; omega) (by simp) ?_; intro v w1 ho hg0; have hbe := hg0.fromEmpty; obtain ⟨av, cv, rfl⟩ := ho.shapeN n HL.out)
  go_loopw [8] (fun i wr => ∃ k : Nat, k ≤ 32 ∧ i = .int .i64 k ∧ Owns .u8 5 wr w.heap.size (.slice av n cv) (burstK l bit p k) ∧ Below w.heap.size w wr) (fun i _ => 32 - (intOf i).toNat)
  case atStart => exact ⟨0, by omega, rfl, ho, hbe⟩
  case round =>
    clear ho hbe
    obtain ⟨k, hk, rfl, ho, hbe⟩ := hrel
    have HKL := Lib.hid (burstK_len l bit p k)
    by_cases hp : k < 32
    · by_cases hin : bit + k < 8 * n
      · by_cases hbt : p.getLsbD k = true
        · have ht := bit_yes hbt
          have HX : Hid (burstK l bit p (k + 1) = tog (burstK l bit p k) (bit + k)) := by show _ = _; rw [burstK, if_pos ⟨by rw [HL.out]; exact hin, hbt⟩]
          clear hbt
          have hkb := burstK_bytes hby bit p k
          obtain ⟨g, rfl, hg1, hg2, hcell, hfz⟩ := ho.cellAt ((bit + k) / 8) (by rw [HKL.out, HL.out]; omega)
          have ho2 := set_tog ho (bit + k) hkb
          generalize burstK l bit p k = r at *
          have e4 := pow_u8 (bit + k)
          go_wp2
          go_roundw
          case rel => exact ⟨k + 1, by omega, by go_num, by rw [HX.out]; exact ho2, hbe.setCell hg1 _⟩
          case measure => simp [intOf] <;> omega
        · have ht := bit_no hbt
          have HX : Hid (burstK l bit p (k + 1) = burstK l bit p k) := by show _ = _; rw [burstK, if_neg (fun h => hbt h.2)]
          clear hbt
          go_wp2
          go_roundw
          case rel => exact ⟨k + 1, by omega, by go_num, by rw [HX.out]; exact ho, hbe⟩
          case measure => simp [intOf] <;> omega
      · have HX := Lib.hid (burstK_far l bit p (by rw [HL.out]; omega) hk)
        go_wp2
        go_ret
        exact ⟨_, rfl, by rw [HX.out]; exact ho, hbe⟩
    · have HX : Hid (burstK l bit p 32 = burstK l bit p k) := by show _ = _; rw [show k = 32 by omega]
      clear hk
      go_wp2
      go_ret
      exact ⟨_, rfl, by rw [HX.out]; exact ho, hbe⟩
set_option maxRecDepth 100000 in
theorem refburst_any (a : Option Addr) (n c : Nat) (l : List Int) (bit : Int) (p : BitVec 32) (w : World) (h : RdAt .u8 w a n c l) (hn : n ≤ 1000000000) :
    Calls Try.prog 18 #[.slice a n c, .int .i64 bit, .int .u32 (rnum p)] w (GivesBytes (burstV l bit p) w) := by
  have HL := Lib.hid h.len
  by_cases hc : 0 ≤ bit ∧ bit < 8 * n
  · obtain ⟨bit, rfl⟩ := Int.eq_ofNat_of_zero_le hc.1
    have e : burstV l bit p = burstK l bit p 32 := by unfold burstV; rw [if_pos (by rw [h.len]; exact hc), Int.toNat_natCast]
    rw [e]
    exact refburst_in a n c l bit p w h hn (by omega)
  · have e : burstV l bit p = l := by unfold burstV; rw [if_neg (by rw [h.len]; exact hc)]
    rw [e]
    clear e
    by_cases h0 : bit < 0
    · go_enter Try.func18, Try.ntmps18
      go_wp2_with (at_builtin; refine app_all u8T u8I (by decide) rfl _ _ rfl _ w.heap.size _ [] rfl (Owns.empty _ _ _ _ _ _) _ _ _ l rfl (h.below ((Below.refl _ _).alloc (Nat.le_refl _) _)) (by simp; omega) (by simp) ?_; intro v w1 ho hg0; have hbe := hg0.fromEmpty; obtain ⟨av, cv, rfl⟩ := ho.shapeN n HL.out)
      go_ret
      exact ⟨_, rfl, ho, hbe⟩
    · have h1 : 8 * (n : Int) ≤ bit := by omega
      clear hc
      go_enter Try.func18, Try.ntmps18
      go_wp2_with (at_builtin; refine app_all u8T u8I (by decide) rfl _ _ rfl _ w.heap.size _ [] rfl (Owns.empty _ _ _ _ _ _) _ _ _ l rfl (h.below ((Below.refl _ _).alloc (Nat.le_refl _) _)) (by simp; omega) (by simp) ?_; intro v w1 ho hg0; have hbe := hg0.fromEmpty; obtain ⟨av, cv, rfl⟩ := ho.shapeN n HL.out)
      go_ret
      exact ⟨_, rfl, ho, hbe⟩
end Go.Proofs.Ytcbnebcooiagmaa
namespace Go.Proofs.Ytcbnebcooiagmaa
open Go.RowKit
theorem burst_de {b : Blk} {V : List Int} (hb : Bytes (supV b)) (he : supE b = 0) (bit : Int) (p : BitVec 32) (h : burstV (supV b) bit p = V) (hne : V ≠ supV b) : supDE V = 23 ∧ supD V = blk0 := by
  subst h
  have e : supV b = sealL (supZ b) := by unfold supV; rw [if_pos he]
  rw [e] at hne hb ⊢
  have h1 : supDE (burstV (sealL (supZ b)) bit p) = 23 := by
    unfold supDE
    rw [burst_found _ hb bit p (st_sealed _) hne, if_pos (.inr rfl)]
  exact ⟨h1, by unfold supD; rw [if_neg (by rw [h1]; decide)]⟩
set_option linter.unusedSimpArgs false in
set_option linter.unusedVariables false in
set_option maxRecDepth 100000 in
set_option maxHeartbeats 2000000 in
theorem superback_in (b : Blk) (bit : Int) (p : BitVec 32) (w : World) (hw : b.Wf) :
    Calls Try.prog 4 #[b.val, .int .i64 bit, .int .u32 (rnum p)] w fun e w' => e = .returned (.bool true) ∧ Below w.heap.size w w' := by
  have HENC : Hid (∀ w1, Calls Try.prog 9 #[b.val] w1 (GivesSec b w1)) := fun w1 => supenc_any b w1 hw
  obtain ⟨E1, hE1⟩ : ∃ x, supE b = x := ⟨_, rfl⟩
  obtain ⟨V, hV⟩ : ∃ x, supV b = x := ⟨_, rfl⟩
  unfold GivesSec at HENC
  rw [hE1, hV] at HENC
  have hlen : E1 = 0 → (V.length : Int) = b.c1 ∧ 64 ≤ V.length ∧ V.length ≤ 4096 := fun h => by rw [← hV]; exact supV_len (by rw [hE1, h])
  have hno : E1 ≠ 0 → V = [] := fun h => by rw [← hV]; exact supV_nil (by rw [hE1]; exact h)
  have hrd : E1 = 0 → supDE V = 0 ∧ supD V = b := fun h => by rw [← hV]; exact sup_read hw (by rw [hE1, h])
  have hbu : E1 = 0 → ∀ V2, Bytes V → burstV V bit p = V2 → V2 ≠ V → supDE V2 = 23 ∧ supD V2 = blk0 := fun h V2 h1 h2 h3 => by
    rw [← hV] at h1 h2 h3
    exact burst_de h1 (by rw [hE1, h]) bit p h2 h3
  have HLN := Lib.hid hlen
  have HNO := Lib.hid hno
  have HRD := Lib.hid hrd
  have HBU := Lib.hid hbu
  clear hlen hno hrd hbu hE1 hV hw
  obtain ⟨m0, n0, n1, n2, n3, n4, n5, n6, n7, n8, ns, nn, nq⟩ := b
  rw [show (⟨m0, n0, n1, n2, n3, n4, n5, n6, n7, n8, ns, nn, nq⟩ : Blk).val = .agg #[.int .u64 m0, .int .i64 n0, .int .i64 n1, .int .i64 n2, .int .i64 n3, .int .i64 n4, .int .i64 n5, .int .i64 n6, .int .i64 n7, .int .i64 n8, .int .i64 ns, .int .i64 nn, .int .u64 nq] from rfl] at HENC ⊢
  have hba := (Below.refl w.heap.size w).alloc (Nat.le_refl _) (.cells #[.int .u64 m0, .int .i64 n0, .int .i64 n1, .int .i64 n2, .int .i64 n3, .int .i64 n4, .int .i64 n5, .int .i64 n6, .int .i64 n7, .int .i64 n8, .int .i64 ns, .int .i64 nn, .int .u64 nq] 28)
  have hrow := heap_alloc_new w (.cells #[.int .u64 m0, .int .i64 n0, .int .i64 n1, .int .i64 n2, .int .i64 n3, .int .i64 n4, .int .i64 n5, .int .i64 n6, .int .i64 n7, .int .i64 n8, .int .i64 ns, .int .i64 nn, .int .u64 nq] 28)
  obtain ⟨wa, hwa⟩ : ∃ wa, w.alloc (.cells #[.int .u64 m0, .int .i64 n0, .int .i64 n1, .int .i64 n2, .int .i64 n3, .int .i64 n4, .int .i64 n5, .int .i64 n6, .int .i64 n7, .int .i64 n8, .int .i64 ns, .int .i64 nn, .int .u64 nq] 28) = wa := ⟨_, rfl⟩
  obtain ⟨ab, hab⟩ : ∃ ab, w.heap.size = ab := ⟨_, rfl⟩
  rw [hwa] at hba hrow
  have BA := Lib.hid hba
  rw [hab] at hrow
  have RA := Lib.hid hrow
  have HWA := Lib.hid hwa
  have HAB := Lib.hid hab
  clear hba hrow hwa hab
  go_enter Try.func4, Try.ntmps4
  go_wp2_with fail
  rw [HWA.out, HAB.out]
  refine (known20 wa).mono ?_
  rintro e w1 ⟨rfl, hb1⟩
  have R1 := Lib.hid (row_keep RA.out hb1)
  have B1 := Lib.hid (Below.call BA.out hb1)
  clear hb1 RA BA
  obtain ⟨q0, q1, q2, q3, q4, q5, q6, q7, q8, q9, q10, q11, q12⟩ := cells13 R1.out
  go_wp2_with fail
  refine (HENC.out w1).mono ?_
  rintro e w2 ⟨v2, rfl, ho2, hb2⟩
  obtain ⟨L, hL⟩ : ∃ n, V.length = n := ⟨_, rfl⟩
  obtain ⟨a2, c2, rfl⟩ := ho2.shapeN L hL
  have R2 := Lib.hid (row_keep R1.out hb2)
  have B2 := Lib.hid (Below.call B1.out hb2)
  have O2 := Lib.hid ho2.rd
  have HL := Lib.hid hL
  clear q0 q1 q2 q3 q4 q5 q6 q7 q8 q9 q10 q11 q12 hb2 R1 B1 ho2 hL
  by_cases h0 : E1 = 0
  rotate_left
  · have d0 : (E1 != 0) = true := by simpa using h0
    have e := HNO.out h0
    have hL0 : L = 0 := by rw [← HL.out, e]; rfl
    subst hL0
    go_wp2_with fail
    go_ret
    exact ⟨rfl, B2.out⟩
  subst h0
  obtain ⟨hl1, hl2, hl3⟩ := HLN.out rfl
  replace hl1 : (V.length : Int) = n1 := hl1
  rw [HL.out] at hl1 hl2 hl3
  have HBU1 := Lib.hid (HBU.out rfl)
  have HRD1 := Lib.hid (HRD.out rfl)
  have dl : ((L : Int) != n1) = false := by simpa using hl1
  have dl2 : (n1 != (L : Int)) = false := by simpa using hl1.symm
  have dl3 : ((L : Int) == n1) = true := by simpa using hl1
  clear hl1
  go_wp2_with fail
  refine (supdec_any a2 L c2 V w2 O2.out (by omega)).mono ?_
  rintro e w3 ⟨rfl, hb3⟩
  rw [HRD1.out.1, HRD1.out.2]
  rw [show (⟨m0, n0, n1, n2, n3, n4, n5, n6, n7, n8, ns, nn, nq⟩ : Blk).val = .agg #[.int .u64 m0, .int .i64 n0, .int .i64 n1, .int .i64 n2, .int .i64 n3, .int .i64 n4, .int .i64 n5, .int .i64 n6, .int .i64 n7, .int .i64 n8, .int .i64 ns, .int .i64 nn, .int .u64 nq] from rfl]
  have hal := (Below.refl w3.heap.size w3).alloc (Nat.le_refl _) (.cells #[.int .u64 m0, .int .i64 n0, .int .i64 n1, .int .i64 n2, .int .i64 n3, .int .i64 n4, .int .i64 n5, .int .i64 n6, .int .i64 n7, .int .i64 n8, .int .i64 ns, .int .i64 nn, .int .u64 nq] 28)
  have hb4 : Below w2.heap.size w2 (w3.alloc (.cells #[.int .u64 m0, .int .i64 n0, .int .i64 n1, .int .i64 n2, .int .i64 n3, .int .i64 n4, .int .i64 n5, .int .i64 n6, .int .i64 n7, .int .i64 n8, .int .i64 ns, .int .i64 nn, .int .u64 nq] 28)) := Below.call hb3 hal
  have hrow := heap_alloc_new w3 (.cells #[.int .u64 m0, .int .i64 n0, .int .i64 n1, .int .i64 n2, .int .i64 n3, .int .i64 n4, .int .i64 n5, .int .i64 n6, .int .i64 n7, .int .i64 n8, .int .i64 ns, .int .i64 nn, .int .u64 nq] 28)
  obtain ⟨w4, hw4⟩ : ∃ w4, w3.alloc (.cells #[.int .u64 m0, .int .i64 n0, .int .i64 n1, .int .i64 n2, .int .i64 n3, .int .i64 n4, .int .i64 n5, .int .i64 n6, .int .i64 n7, .int .i64 n8, .int .i64 ns, .int .i64 nn, .int .u64 nq] 28) = w4 := ⟨_, rfl⟩
  obtain ⟨db, hdb⟩ : ∃ db, w3.heap.size = db := ⟨_, rfl⟩
  rw [hw4] at hb4 hrow
  rw [hdb] at hrow
  have HLT : Hid (w.heap.size ≤ db ∧ w2.heap.size ≤ db) := by
    show _ ∧ _
    rw [← hdb]
    exact ⟨Nat.le_trans B2.out.size hb3.size, hb3.size⟩
  have R4 := Lib.hid (row_keep R2.out hb4)
  have DR4 := Lib.hid hrow
  have B4 := Lib.hid (Below.call B2.out hb4)
  have O4 := Lib.hid (O2.out.below hb4)
  clear hb3 hal hb4 hrow R2
  obtain ⟨q0, q1, q2, q3, q4, q5, q6, q7, q8, q9, q10, q11, q12⟩ := cells13 R4.out
  obtain ⟨p0, p1, p2, p3, p4, p5, p6, p7, p8, p9, p10, p11, p12⟩ := cells13 DR4.out
  go_wp2_with (rw [hw4, hdb])
  refine (refburst_any a2 L c2 V bit p w4 O4.out (by omega)).mono ?_
  rintro e w5 ⟨v5, rfl, ho5, hb5⟩
  obtain ⟨V5, hV5⟩ : ∃ x, burstV V bit p = x := ⟨_, rfl⟩
  have hl5 := burstV_len V bit p
  rw [hV5, HL.out] at hl5
  rw [hV5] at ho5
  obtain ⟨a5, c5, rfl⟩ := ho5.shapeN L hl5
  have hd4 := (Array.getElem?_eq_some_iff.1 DR4.out).1
  have HA5 : Hid (∀ q, a5 = some q → 0 < L → q.block ≠ db) := fun q e _ => by
    have hc := ho5.rd.cap
    have := (ho5.at_base q.block (by rw [e]; exact if_neg (by omega))).1
    omega
  have DR5 := Lib.hid (row_keep DR4.out hb5)
  have B5 := Lib.hid (Below.call B4.out hb5)
  have O5 := Lib.hid ho5.rd
  have P5 := Lib.hid (O4.out.below hb5)
  have HV5 := Lib.hid hV5
  clear q0 q1 q2 q3 q4 q5 q6 q7 q8 q9 q10 q11 q12 p0 p1 p2 p3 p4 p5 p6 p7 p8 p9 p10 p11 p12 hb5 DR4 B4 O4 ho5 hl5 hV5 hd4
  go_wp2_with fail
  refine (supdec_any a5 L c5 V5 w5 O5.out (by omega)).mono ?_
  rintro e w6 ⟨rfl, hb6⟩
  have DR6 := Lib.hid (row_keep DR5.out hb6)
  have B6 := Lib.hid (Below.call B5.out hb6)
  have O6 := Lib.hid (O5.out.below hb6)
  have P6 := Lib.hid (P5.out.below hb6)
  clear hb6 DR5 B5 O5 P5
  have hdf : ∀ i, w6.frozen? ⟨db, i, none⟩ = false := fun i => frozen_of_row w6 db i _ _ DR6.out
  obtain ⟨p0, p1, p2, p3, p4, p5, p6, p7, p8, p9, p10, p11, p12⟩ := cells13 DR6.out
  by_cases hq : V5 = V
  · subst hq
    rw [HRD1.out.1, HRD1.out.2]
    rw [show (⟨m0, n0, n1, n2, n3, n4, n5, n6, n7, n8, ns, nn, nq⟩ : Blk).val = .agg #[.int .u64 m0, .int .i64 n0, .int .i64 n1, .int .i64 n2, .int .i64 n3, .int .i64 n4, .int .i64 n5, .int .i64 n6, .int .i64 n7, .int .i64 n8, .int .i64 ns, .int .i64 nn, .int .u64 nq] from rfl]
    obtain ⟨w7, hw7⟩ : ∃ w7, sets w6 db [(0, .int .u64 m0), (1, .int .i64 n0), (2, .int .i64 n1), (3, .int .i64 n2), (4, .int .i64 n3), (5, .int .i64 n4), (6, .int .i64 n5), (7, .int .i64 n6), (8, .int .i64 n7), (9, .int .i64 n8), (10, .int .i64 ns), (11, .int .i64 nn), (12, .int .u64 nq)] = w7 := ⟨_, rfl⟩
    have hg := sets_grown (b := db) [(0, .int .u64 m0), (1, .int .i64 n0), (2, .int .i64 n1), (3, .int .i64 n2), (4, .int .i64 n3), (5, .int .i64 n4), (6, .int .i64 n5), (7, .int .i64 n6), (8, .int .i64 n7), (9, .int .i64 n8), (10, .int .i64 ns), (11, .int .i64 nn), (12, .int .u64 nq)] w6
    have hr7 := sets_row [(0, .int .u64 m0), (1, .int .i64 n0), (2, .int .i64 n1), (3, .int .i64 n2), (4, .int .i64 n3), (5, .int .i64 n4), (6, .int .i64 n5), (7, .int .i64 n6), (8, .int .i64 n7), (9, .int .i64 n8), (10, .int .i64 ns), (11, .int .i64 nn), (12, .int .u64 nq)] DR6.out
    rw [hw7] at hg hr7
    rw [fold13] at hr7
    have B7 : Hid (Below w.heap.size w w7) := Below.grown B6.out hg B6.out.size (fun k e => by injection e with e; have := HLT.out.1; omega)
    have k2 := conv_rd u8T s8 su (O2.out.apart P6.out hg (fun g e => by injection e with e; have := HLT.out.2; omega))
    have k5 := conv_rd u8T s8 su (O6.out.far hg HA5.out)
    replace hw7 : (((((((((((((w6).setCell ⟨db, 0, none⟩ (.int .u64 m0)).setCell ⟨db, 1, none⟩ (.int .i64 n0)).setCell ⟨db, 2, none⟩ (.int .i64 n1)).setCell ⟨db, 3, none⟩ (.int .i64 n2)).setCell ⟨db, 4, none⟩ (.int .i64 n3)).setCell ⟨db, 5, none⟩ (.int .i64 n4)).setCell ⟨db, 6, none⟩ (.int .i64 n5)).setCell ⟨db, 7, none⟩ (.int .i64 n6)).setCell ⟨db, 8, none⟩ (.int .i64 n7)).setCell ⟨db, 9, none⟩ (.int .i64 n8)).setCell ⟨db, 10, none⟩ (.int .i64 ns)).setCell ⟨db, 11, none⟩ (.int .i64 nn)).setCell ⟨db, 12, none⟩ (.int .u64 nq) = w7 := hw7
    clear hg hr7
    go_wp2_with (rw [hw7])
    go_ret
    exact ⟨rfl, B7.out⟩
  · obtain ⟨h5, h6⟩ := HBU1.out V5 O2.out.bytes HV5.out hq
    have hne : ((strOfNums V).toList == (strOfNums V5).toList) = false := by
      rw [beq_eq_false_iff_ne]
      exact fun h => hq (str_inj O2.out.bytes O6.out.bytes h).symm
    rw [h5, h6]
    rw [show blk0.val = .agg #[.int .u64 0, .int .i64 0, .int .i64 0, .int .i64 0, .int .i64 0, .int .i64 0, .int .i64 0, .int .i64 0, .int .i64 0, .int .i64 0, .int .i64 0, .int .i64 0, .int .u64 0] from rfl]
    obtain ⟨w7, hw7⟩ : ∃ w7, sets w6 db [(0, .int .u64 0), (1, .int .i64 0), (2, .int .i64 0), (3, .int .i64 0), (4, .int .i64 0), (5, .int .i64 0), (6, .int .i64 0), (7, .int .i64 0), (8, .int .i64 0), (9, .int .i64 0), (10, .int .i64 0), (11, .int .i64 0), (12, .int .u64 0)] = w7 := ⟨_, rfl⟩
    have hg := sets_grown (b := db) [(0, .int .u64 0), (1, .int .i64 0), (2, .int .i64 0), (3, .int .i64 0), (4, .int .i64 0), (5, .int .i64 0), (6, .int .i64 0), (7, .int .i64 0), (8, .int .i64 0), (9, .int .i64 0), (10, .int .i64 0), (11, .int .i64 0), (12, .int .u64 0)] w6
    have hr7 := sets_row [(0, .int .u64 0), (1, .int .i64 0), (2, .int .i64 0), (3, .int .i64 0), (4, .int .i64 0), (5, .int .i64 0), (6, .int .i64 0), (7, .int .i64 0), (8, .int .i64 0), (9, .int .i64 0), (10, .int .i64 0), (11, .int .i64 0), (12, .int .u64 0)] DR6.out
    rw [hw7] at hg hr7
    rw [fold13] at hr7
    have B7 : Hid (Below w.heap.size w w7) := Below.grown B6.out hg B6.out.size (fun k e => by injection e with e; have := HLT.out.1; omega)
    have k2 := conv_rd u8T s8 su (O2.out.apart P6.out hg (fun g e => by injection e with e; have := HLT.out.2; omega))
    have k5 := conv_rd u8T s8 su (O6.out.far hg HA5.out)
    replace hw7 : (((((((((((((w6).setCell ⟨db, 0, none⟩ (.int .u64 0)).setCell ⟨db, 1, none⟩ (.int .i64 0)).setCell ⟨db, 2, none⟩ (.int .i64 0)).setCell ⟨db, 3, none⟩ (.int .i64 0)).setCell ⟨db, 4, none⟩ (.int .i64 0)).setCell ⟨db, 5, none⟩ (.int .i64 0)).setCell ⟨db, 6, none⟩ (.int .i64 0)).setCell ⟨db, 7, none⟩ (.int .i64 0)).setCell ⟨db, 8, none⟩ (.int .i64 0)).setCell ⟨db, 9, none⟩ (.int .i64 0)).setCell ⟨db, 10, none⟩ (.int .i64 0)).setCell ⟨db, 11, none⟩ (.int .i64 0)).setCell ⟨db, 12, none⟩ (.int .u64 0) = w7 := hw7
    obtain ⟨q0, q1, q2, q3, q4, q5, q6, q7, q8, q9, q10, q11, q12⟩ := cells13 hr7
    clear hg hr7
    go_wp2_with (rw [hw7])
    go_ret
    exact ⟨rfl, B7.out⟩
set_option maxRecDepth 100000 in
theorem superBack_walk (b : Blk) (bit p : Int) (w : World) (hw : b.Wf) (_ : (Lit.int .i64 bit).wf = true) (hp : (Lit.int .u32 p).wf = true) :
    Calls Try.prog 4 #[b.val, .int .i64 bit, .int .u32 p] w fun e w' => e = .returned (.bool true) ∧ Below w.heap.size w w' := by
  obtain ⟨h1, h2⟩ := wf_u32_bd hp
  obtain ⟨x, rfl⟩ : ∃ x, p = rnum x := ⟨BitVec.ofInt 32 p, (u32_ofInt p h1 h2).symm⟩
  exact superback_in b bit x w hw
end Go.Proofs.Ytcbnebcooiagmaa
namespace Go.Proofs.Ytcbnebcooiagmaa.superBack
open Go.ChangeShapes Go.WideShapes Go.ChangeAt Go.RowKit
set_option linter.unusedVariables false

set_option maxRecDepth 100000 in
theorem own : ownKnob Try.prog.godebug = none := by kernel_rfl
set_option maxRecDepth 100000 in
theorem laidOut : laidOutB Try.prog = true := by kernel_rfl

set_option maxRecDepth 100000 in
theorem lifted (os : Os) (started : os.Started) (H : Type) (enc : TypeId × Value → H) :
    ReturnsInHanded {} Try.checked os 4 .any (Rows.superBackSpec.pre6 enc Try.prog Try.f4 Rows.superBackRow.domain false) (Rows.superBackSpec.post enc Try.prog Try.f4 false true false false) := by
  refine returnsInHanded_of_change (C := Try.checked) own started (by kernel_rfl) Try.func4
    (ChangeSpec.witness6 (enc := enc) (C := Try.checked) false ⟨#[], #[.agg #[.int .u64 0, .int .i64 0, .int .i64 0, .int .i64 0, .int .i64 0, .int .i64 0, .int .i64 0, .int .i64 0, .int .i64 0, .int .i64 0, .int .i64 0, .int .i64 0, .int .u64 0], .int .i64 0, .int .u32 0], []⟩ 8 (by kernel_rfl) (by kernel_rfl) (by kernel_rfl) (by kernel_rfl)) ?_
  intro W base args ds gs before hval0 hW hcnd _
  have hval : ∀ (j : Nat) t v, Try.f4.params[j]? = some t → args[j]? = some v → Value.okWide Try.prog W .any base t v := hval0
  have hW' := hW
  obtain ⟨p, q, hA0, hV, rfl, hfz, hnd⟩ := hW
  have hA : DataW.TrodAll enc Try.prog W 0 (fun _ => true) true Try.f4.params.toList args.toList ds p := hA0
  rw [Try.params4] at hA hval
  obtain ⟨v0, vs0, d0, ds0, p0, q0, hargs, rfl, rfl, h0, r0⟩ := trodAll_cons hA
  obtain ⟨v1, vs1, d1, ds1, p1, q1, rfl, rfl, rfl, h1, r1⟩ := trodAll_cons r0
  obtain ⟨v2, vs2, d2, ds2, p2, q2, rfl, rfl, rfl, h2, r2⟩ := trodAll_cons r1
  obtain ⟨rfl, rfl, rfl⟩ := trodAll_nil r2
  obtain rfl : args = #[v0, v1, v2] := by cases args; simp_all
  obtain ⟨rfl, rfl⟩ := trodVars_none hV
  have k0 := h0
  have lt0 : ∀ x ∈ p0, x.block < W.heap.size := by obtain ⟨m, hm⟩ := k0; exact DataW.trod_lt m _ _ _ hm
  obtain ⟨b0, rfl, w0⟩ := open_blk Try.underlying28 (by kernel_rfl) (u := 22) (cT := 24) (aT := 26) (e := 3) (by kernel_rfl) Try.underlying22 Try.underlying24 (by kernel_rfl) Try.underlying26 (by kernel_rfl) Try.underlying3 (hval 0 28 v0 rfl rfl) h0
  obtain ⟨a1, rfl, rfl, rfl, w1⟩ := open_int Try.underlying3 (hval 1 3 v1 rfl rfl) h1
  obtain ⟨a2, rfl, rfl, rfl, w2⟩ := open_int Try.underlying44 (hval 2 44 v2 rfl rfl) h2
  clear hA0 hval0
  refine (superBack_walk b0 a1 a2 W w0 w1 w2).mono fun e W' ⟨he, bel⟩ => ?_
  subst he
  exact ⟨_, rfl, _, _, _, [], _, [], hW', trodAll_mk1 (shut_bool Try.underlying4 _), (trodAll_cons_mk (Below.trod laidOut (by kernel_rfl) (of_decide_eq_true (by kernel_rfl)) k0 bel lt0) (trodAll_cons_mk (shut_int Try.underlying3 w1) (trodAll_cons_mk (shut_int Try.underlying44 w2) trodAll_mk0))), rfl, bel.frame _, fun h => by cases h⟩

set_option maxRecDepth 100000 in
theorem over : Rows.superBackRow.holds Try.pinned (OpenSpec.ofChange Rows.superBackSpec) :=
  OpenClaim.holds_of_wide 4 Try.f4 rfl rfl rfl rfl rfl rfl rfl ⟨rfl, rfl, rfl, rfl, rfl⟩ rfl rfl rfl rfl rfl (by kernel_rfl) Try.func4 (by kernel_rfl)
    (of_decide_eq_true (by kernel_rfl)) (by unfold Func.isWrapper; first | (rw [if_pos (by decide +kernel)]; kernel_rfl) | (rw [if_neg (by decide +kernel)]; exact ⟨rfl, rfl⟩))
    (fun os started H enc _ => lifted os started H enc)

/-- SuperBack holds for every input. -/
theorem proved : Rows.SuperBackSaid := over
end Go.Proofs.Ytcbnebcooiagmaa.superBack
