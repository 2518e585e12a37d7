/- Joined: super's laws: the chapter's example. super: what two slots read as: plain laws for SuperTurns, SuperCuts, SuperReads. super: epochs written one behind the other: the plain law of SuperTurns. The walk of almanaclaw20.SuperTurns. SuperTurns: for every input the law returns true, and every argument reads as it did: the row round the walk. -/
import Derived.Test.YtcbnebcooiagmaaJt17
import Derived.Test.YtcbnebcooiagmaaRows
import Derived.WalkKit
import Derived.ProofKit
import Derived.OpenShut
import Derived.ShutString
import Derived.ChangeOld
import Derived.Below
namespace Go.Proofs.Ytcbnebcooiagmaa
open Go.RowKit
def KB : Blk := ⟨3, 40, 128, 4, 2, 16, 4, 2, 2, 4, 0, 0, 1⟩
def K0 : Dk := dk0 40 128
theorem kb_wf : KB.Wf := ⟨by decide, by decide, by decide, by decide, by decide, by decide, by decide, by decide, by decide, by decide, by decide, by decide, by decide⟩
set_option maxRecDepth 100000 in
theorem kb_ok : supE KB = 0 := by kernel_rfl
theorem kb_fit : fitB K0 KB = true := by kernel_rfl
theorem r40 : rightB 40 128 = true := by decide
def K1 : Dk := putK K0 1 (supV KB)
theorem k1_at : K1.kept = (List.replicate 40 (List.replicate 128 0)).set 1 (supV KB) := rfl
theorem k1_sec : secB K1 1 = supV KB ∧ secB K1 0 = List.replicate 128 0 := by
  rw [secB_kept rfl, secB_kept rfl, k1_at]
  exact ⟨rfl, rfl⟩
theorem k1_fit : fitB K1 KB = true := by
  unfold fitB
  rw [k1_at, List.length_set]
  kernel_rfl
theorem k1_best : bestS K1 2 = true ∧ bestB K1 2 = KB := by
  obtain ⟨h1, h2⟩ := slot_of (i := 1) k1_sec.1 kb_wf kb_ok k1_fit rfl
  have h0 := slot_zero (i := 0) k1_sec.2
  obtain ⟨e1, e2⟩ := best2 K1
  rw [h1, h0] at e1 e2
  exact ⟨e1, by rw [e2, h2]; rfl⟩
theorem k1_read : supRE K1 = 0 ∧ supRB K1 = KB ∧ supRS K1 = readN K1 2 := by
  have ho : K1.off = false := rfl
  unfold supRE supRB supRS
  rw [ho, k1_best.1, k1_best.2]
  exact ⟨rfl, rfl, rfl⟩
theorem k1_rd : rdV (readN K1 2) 1 = supV KB := by
  have h : rdE (readN K1 2) 1 = 0 := rfl
  unfold rdV
  rw [if_pos h]
  exact k1_sec.1
set_option linter.unusedSimpArgs false in
set_option linter.unusedVariables false in
set_option maxRecDepth 100000 in
set_option maxHeartbeats 2000000 in
theorem known20 (w : World) : Calls Try.prog 8 #[] w fun e w' => e = .returned (.bool true) ∧ Below w.heap.size w w' := by
  go_enter Try.func8, Try.ntmps8
  go_wp2_with fail
  refine (shape20_any _).mono ?_
  rintro e w1 ⟨rfl, hb1⟩
  have hal := (Below.refl w1.heap.size w1).alloc (Nat.le_refl _) (.cells #[.int .i64 40, .int .i64 128, .int .i64 4, .int .i64 2, .int .i64 16, .int .i64 4, .int .i64 2, .int .i64 2, .int .i64 4] 24)
  have hrow := heap_alloc_new w1 (.cells #[.int .i64 40, .int .i64 128, .int .i64 4, .int .i64 2, .int .i64 16, .int .i64 4, .int .i64 2, .int .i64 2, .int .i64 4] 24)
  obtain ⟨wa, hwa⟩ : ∃ wa, w1.alloc (.cells #[.int .i64 40, .int .i64 128, .int .i64 4, .int .i64 2, .int .i64 16, .int .i64 4, .int .i64 2, .int .i64 2, .int .i64 4] 24) = wa := ⟨_, rfl⟩
  obtain ⟨cb, hcb⟩ : ∃ cb, w1.heap.size = cb := ⟨_, rfl⟩
  have BA := Lib.hid (Below.call hb1 (by rw [hwa] at hal; exact hal))
  rw [hwa, hcb] at hrow
  have CR := Lib.hid hrow
  have HWA := Lib.hid hwa
  have HCB := Lib.hid hcb
  clear hb1 hal hrow hwa hcb
  go_wp2_with fail
  rw [HWA.out, HCB.out]
  refine (check_any 40 128 4 2 16 4 2 2 4 wa).mono ?_
  rintro e w2 ⟨rfl, hb2⟩
  rw [show chkN 40 128 4 2 16 4 2 2 4 = 0 from by kernel_rfl]
  have B2 := Lib.hid (Below.call BA.out hb2)
  have CR2 := Lib.hid (row_keep CR.out hb2)
  clear hb2 CR BA
  obtain ⟨z0, z1, z2, z3, z4, z5, z6, z7, z8⟩ := cells9 CR2.out
  go_wp2_with fail
  refine (new_any 40 128 w2 r40).mono ?_
  rintro e w3 ⟨d, Z, rfl, hd3, hz3, hb3⟩
  have D3 := Lib.hid (DkB.mk hd3 (fun k h => Nat.le_trans B2.out.size (hz3 k h)) (Below.call B2.out hb3))
  have CR3 := Lib.hid (row_keep CR2.out hb3)
  clear z0 z1 z2 z3 z4 z5 z6 z7 z8 hd3 hz3 hb3 CR2 B2
  obtain ⟨z0, z1, z2, z3, z4, z5, z6, z7, z8⟩ := cells9 CR3.out
  go_wp2_with fail
  have HE0 := Lib.hid (wrote (st := K0) (b := KB) rfl kb_ok kb_fit rfl (by decide))
  refine (supwrite_any Z d K0 KB w3 D3.out.din kb_wf (show (0 : Int) + 1 ≤ 4611686018427387904 by decide)).mono ?_
  rintro e w4 ⟨rfl, Z4, hd4, ht4⟩
  rw [HE0.out.2] at hd4
  rw [HE0.out.1]
  have D4 := Lib.hid (D3.out.turn (st' := K1) hd4 ht4)
  clear hd4 ht4 z0 z1 z2 z3 z4 z5 z6 z7 z8 D3
  go_wp2_with fail
  refine (supread_any Z4 d K1 w4 D4.out.din (show 2 ≤ K1.kept.length by rw [k1_at, List.length_set, List.length_replicate]; decide) (show (0 : Int) + 2 ≤ 4611686018427387904 by decide)).mono ?_
  rintro e w5 ⟨rfl, hd5, ht5⟩
  rw [k1_read.2.2] at hd5
  rw [k1_read.1, k1_read.2.1]
  rw [show KB.val = .agg #[.int .u64 3, .int .i64 40, .int .i64 128, .int .i64 4, .int .i64 2, .int .i64 16, .int .i64 4, .int .i64 2, .int .i64 2, .int .i64 4, .int .i64 0, .int .i64 0, .int .u64 1] from rfl]
  have D5 := Lib.hid (D4.out.turn hd5 ht5)
  clear hd5 ht5 D4
  have hal := (Below.refl w5.heap.size w5).alloc (Nat.le_refl _) (.cells #[.int .u64 3, .int .i64 40, .int .i64 128, .int .i64 4, .int .i64 2, .int .i64 16, .int .i64 4, .int .i64 2, .int .i64 2, .int .i64 4, .int .i64 0, .int .i64 0, .int .u64 1] 28)
  have hrow := heap_alloc_new w5 (.cells #[.int .u64 3, .int .i64 40, .int .i64 128, .int .i64 4, .int .i64 2, .int .i64 16, .int .i64 4, .int .i64 2, .int .i64 2, .int .i64 4, .int .i64 0, .int .i64 0, .int .u64 1] 28)
  have D6 := Lib.hid (D5.out.more hal)
  obtain ⟨w6, hw6⟩ : ∃ w6, w5.alloc (.cells #[.int .u64 3, .int .i64 40, .int .i64 128, .int .i64 4, .int .i64 2, .int .i64 16, .int .i64 4, .int .i64 2, .int .i64 2, .int .i64 4, .int .i64 0, .int .i64 0, .int .u64 1] 28) = w6 := ⟨_, rfl⟩
  obtain ⟨bb, hbb⟩ : ∃ bb, w5.heap.size = bb := ⟨_, rfl⟩
  rw [hw6] at D6
  rw [hw6, hbb] at hrow
  have BR6 := Lib.hid hrow
  have HW6 := Lib.hid hw6
  have HBB := Lib.hid hbb
  have hnz : Hid (¬ Z4 bb) := fun h => by have := D5.out.din.1 bb h; omega
  clear hal hrow hw6 hbb D5
  go_wp2_with fail
  rw [HW6.out, HBB.out]
  refine (read_any Z4 d (readN K1 2) 1 w6 D6.out.din (by decide) (by decide) (show (2 : Int) + 1 ≤ 4611686018427387904 by decide)).mono ?_
  rintro e w7 ⟨v7, rfl, ho7, hd7, ht7⟩
  rw [k1_rd] at ho7
  have hl := supV_len kb_ok
  obtain ⟨n7, hn7⟩ : ∃ n7, (supV KB).length = n7 := ⟨_, rfl⟩
  rw [hn7] at hl
  obtain ⟨a7, c7, rfl⟩ := ho7.shapeN n7 hn7
  have BR7 := Lib.hid (row_tnd BR6.out ht7 hnz.out)
  have D7 := Lib.hid (D6.out.turn hd7 ht7)
  have O7 := Lib.hid ho7.rd
  clear ho7 hd7 ht7 BR6 D6 hn7
  go_wp2_with fail
  refine (supdec_any a7 n7 c7 (supV KB) w7 O7.out (by omega)).mono ?_
  rintro e w8 ⟨rfl, hb8⟩
  rw [(sup_read kb_wf kb_ok).1, (sup_read kb_wf kb_ok).2]
  rw [show KB.val = .agg #[.int .u64 3, .int .i64 40, .int .i64 128, .int .i64 4, .int .i64 2, .int .i64 16, .int .i64 4, .int .i64 2, .int .i64 2, .int .i64 4, .int .i64 0, .int .i64 0, .int .u64 1] from rfl]
  have BR8 := Lib.hid (row_keep BR7.out hb8)
  have B8 := Lib.hid (Below.call D7.out.below hb8)
  clear hb8 BR7 D7
  have hal := (Below.refl w8.heap.size w8).alloc (Nat.le_refl _) (.cells #[.int .u64 3, .int .i64 40, .int .i64 128, .int .i64 4, .int .i64 2, .int .i64 16, .int .i64 4, .int .i64 2, .int .i64 2, .int .i64 4, .int .i64 0, .int .i64 0, .int .u64 1] 28)
  obtain ⟨q0, q1, q2, q3, q4, q5, q6, q7, q8, q9, q10, q11, q12⟩ := cells13 (row_keep BR8.out hal)
  obtain ⟨r0, r1, r2, r3, r4, r5, r6, r7, r8, r9, r10, r11, r12⟩ := cells13 (heap_alloc_new w8 (.cells #[.int .u64 3, .int .i64 40, .int .i64 128, .int .i64 4, .int .i64 2, .int .i64 16, .int .i64 4, .int .i64 2, .int .i64 2, .int .i64 4, .int .i64 0, .int .i64 0, .int .u64 1] 28))
  obtain ⟨w9, hw9⟩ : ∃ w9, w8.alloc (.cells #[.int .u64 3, .int .i64 40, .int .i64 128, .int .i64 4, .int .i64 2, .int .i64 16, .int .i64 4, .int .i64 2, .int .i64 2, .int .i64 4, .int .i64 0, .int .i64 0, .int .u64 1] 28) = w9 := ⟨_, rfl⟩
  obtain ⟨xb, hxb⟩ : ∃ xb, w8.heap.size = xb := ⟨_, rfl⟩
  have B9 := Lib.hid (Below.call B8.out hal)
  rw [hw9] at q0 q1 q2 q3 q4 q5 q6 q7 q8 q9 q10 q11 q12 r0 r1 r2 r3 r4 r5 r6 r7 r8 r9 r10 r11 r12 B9
  rw [hxb] at r0 r1 r2 r3 r4 r5 r6 r7 r8 r9 r10 r11 r12
  clear hal
  go_wp2_with (rw [hw9, hxb])
  go_ret
  exact ⟨rfl, B9.out⟩
end Go.Proofs.Ytcbnebcooiagmaa
namespace Go.Proofs.Ytcbnebcooiagmaa
open Go.RowKit
/-- A block of the chapter's shape. -/
def shB (e q : Int) : Blk := ⟨e, 40, 128, 4, 2, 16, 4, 2, 2, 4, 0, 0, q⟩
set_option maxRecDepth 100000 in
theorem sh_body : (supBody KB).length ≤ 100 := of_decide_eq_true (by kernel_rfl)
theorem sh_ok (e q : Int) : supE (shB e q) = 0 := by
  have h1 : supArg (shB e q) = true := show supArg KB = true from (supE_ok kb_ok).1
  have h2 : (supOut (shB e q)).length = 24 + (supBody KB).length := by
    unfold supOut
    rw [List.length_append, supHead_len]
    rfl
  unfold supE
  rw [h1, if_neg (by decide), if_neg]
  rw [h2]
  have := sh_body
  show ¬ ((128 : Int) - 4 < ((24 + (supBody KB).length : Nat) : Int))
  omega
theorem sh_wf {e q : Int} (h1 : 0 ≤ e ∧ e ≤ 18446744073709551615) (h2 : 0 ≤ q ∧ q ≤ 18446744073709551615) : (shB e q).Wf :=
  ⟨h1, kb_wf.w0, kb_wf.w1, kb_wf.w2, kb_wf.w3, kb_wf.w4, kb_wf.w5, kb_wf.w6, kb_wf.w7, kb_wf.w8, kb_wf.rs, kb_wf.rn, h2⟩
/-- One slot holds b, whole and in its place; the other holds no block of the shape, or an older one. -/
theorem read_two {st : Dk} {b : Blk} {i j : Nat} (ho : st.off = false) (hij : i + j = 1) (hs : slotOk st i = true) (hb : slotB st i = b) (hj : slotOk st j = false ∨ (slotB st j).ep < b.ep) :
    supRE st = 0 ∧ supRB st = b ∧ supRS st = readN st 2 := by
  obtain ⟨e1, e2⟩ := best2 st
  have hbest : bestS st 2 = true ∧ bestB st 2 = b := by
    rcases (by omega : (i = 1 ∧ j = 0) ∨ (i = 0 ∧ j = 1)) with ⟨rfl, rfl⟩ | ⟨rfl, rfl⟩
    · rw [e1, e2, hs, hb]
      refine ⟨rfl, if_pos ?_⟩
      rcases hj with h | h
      · rw [h]; rfl
      · rw [decide_eq_true h]; simp
    · rw [e1, e2, hs, hb]
      refine ⟨by simp, ?_⟩
      rcases hj with h | h
      · rw [h]; rfl
      · rw [if_neg, if_pos rfl]
        rw [decide_eq_false (by omega)]
        simp
  unfold supRE supRB supRS
  rw [ho, hbest.1, hbest.2]
  exact ⟨rfl, rfl, rfl⟩
theorem putK_at {st : Dk} {i j : Nat} {l : List Int} (hp : st.pend = []) (hi : i < st.kept.length) (s : Int) (hs : s = i) : secB (putK st s l) i = l ∧ (j ≠ i → secB (putK st s l) j = secB st j) := by
  subst hs
  rw [secB_kept (show (putK st (i : Int) l).pend = [] from hp), secB_kept (show (putK st (i : Int) l).pend = [] from hp), secB_kept hp]
  show (((st.kept.set (i : Int).toNat l)[i]?).getD [] = l) ∧ (j ≠ i → ((st.kept.set (i : Int).toNat l)[j]?).getD [] = _)
  rw [Int.toNat_natCast]
  refine ⟨by rw [List.getElem?_set_self hi]; rfl, fun h => by rw [List.getElem?_set_ne (by omega)]⟩
theorem slotOk_same {st st' : Dk} {i : Nat} (h : secB st' i = secB st i) (hl : st'.kept.length = st.kept.length) (hz : st'.size = st.size) : slotOk st' i = slotOk st i ∧ slotB st' i = slotB st i := by
  have e : slotB st' i = slotB st i := by unfold slotB; rw [h]
  refine ⟨?_, e⟩
  unfold slotOk
  rw [h, e]
  unfold fitB
  rw [hl, hz]
end Go.Proofs.Ytcbnebcooiagmaa
namespace Go.Proofs.Ytcbnebcooiagmaa
open Go.RowKit
/-- The k-th block. -/
def tB (first seq : Int) (k : Nat) : Blk := shB (first + k) ((seq + k) % 18446744073709551616)
/-- The disk when k blocks have been written. -/
structure TurnSt (first seq : Int) (st : Dk) (k : Nat) : Prop where
  off : st.off = false
  arm : st.armed = 0
  pend : st.pend = []
  len : st.kept.length = 40
  size : st.size = 128
  wr : st.writes = k
  rd : st.reads ≤ 3 * k
  last : ∀ m, k = m + 1 → secB st ((first + m) % 2).toNat = supV (tB first seq m)
  zero : k = 0 → secB st ((first + 1) % 2).toNat = List.replicate 128 0
theorem TurnSt.start (first seq : Int) : TurnSt first seq K0 0 := by
  refine ⟨rfl, rfl, rfl, ?_, rfl, rfl, Int.le_refl _, fun m h => by omega, fun _ => ?_⟩
  · show (List.replicate 40 (List.replicate 128 (0 : Int))).length = 40
    rw [List.length_replicate]
  · rw [secB_kept rfl]
    show ((List.replicate 40 (List.replicate 128 (0 : Int)))[((first + 1) % 2).toNat]?).getD [] = _
    rw [List.getElem?_replicate, if_pos (by omega)]
    rfl
theorem tB_wf {first seq : Int} {k : Nat} (h1 : 0 ≤ first) (h2 : first ≤ 4611686018427387904) (hk : k < 40) : (tB first seq k).Wf := sh_wf ⟨by omega, by omega⟩ ⟨by omega, by omega⟩
theorem tB_ok (first seq : Int) (k : Nat) : supE (tB first seq k) = 0 := sh_ok _ _
/-- What one turn does. -/
structure TurnStep (first seq : Int) (st st1 : Dk) (k : Nat) : Prop where
  we : supWE st (tB first seq k) = 0
  ws : supWS st (tB first seq k) = st1
  len : 2 ≤ st1.kept.length
  rd : st1.reads + 3 ≤ 4611686018427387904
  re : supRE st1 = 0
  rb : supRB st1 = tB first seq k
  rs : supRS st1 = readN st1 2
  one : k = 0 → TurnSt first seq (readN st1 2) 1
  sv : ∀ m, k = m + 1 → rdV (readN st1 2) (1 - (first + k) % 2) = supV (tB first seq m)
  ss : ∀ m, k = m + 1 → TurnSt first seq (rdS (readN st1 2) (1 - (first + k) % 2)) (k + 1)
theorem TurnSt.step {first seq : Int} {st : Dk} {k : Nat} (s : TurnSt first seq st k) (h1 : 0 ≤ first) (h2 : first ≤ 4611686018427387904) (hk : k < 40) : ∃ st1, TurnStep first seq st st1 k := by
  obtain ⟨b, hb⟩ : ∃ b, tB first seq k = b := ⟨_, rfl⟩
  have hw : b.Wf := by rw [← hb]; exact tB_wf h1 h2 hk
  have he : supE b = 0 := by rw [← hb]; exact tB_ok _ _ _
  have hf : ∀ st' : Dk, st'.kept.length = 40 → st'.size = 128 → ∀ m, fitB st' (tB first seq m) = true := fun st' a c m => by
    unfold fitB
    rw [a, c]
    rfl
  have hep : b.ep = first + k := by rw [← hb]; rfl
  obtain ⟨i, hi⟩ : ∃ i : Nat, ((first + k) % 2).toNat = i := ⟨_, rfl⟩
  obtain ⟨j, hj⟩ : ∃ j : Nat, ((first + k + 1) % 2).toNat = j := ⟨_, rfl⟩
  have hij : i + j = 1 := by omega
  have hie : b.ep % 2 = i := by rw [hep]; omega
  obtain ⟨w1, w2⟩ := wrote s.pend he (by rw [← hb]; exact hf st s.len s.size k) s.off (by rw [s.arm]; decide)
  obtain ⟨st1, hst1⟩ : ∃ st1, putK st (b.ep % 2) (supV b) = st1 := ⟨_, rfl⟩
  have hl1 : st1.kept.length = 40 := by rw [← hst1]; show (st.kept.set _ _).length = 40; rw [List.length_set, s.len]
  have hz1 : st1.size = 128 := by rw [← hst1]; exact s.size
  have ho1 : st1.off = false := by rw [← hst1]; exact s.off
  have ha1 : st1.armed = 0 := by rw [← hst1]; show (if st.armed = 0 then 0 else st.armed - 1) = 0; rw [if_pos s.arm]
  have hp1 : st1.pend = [] := by rw [← hst1]; exact s.pend
  have hw1 : st1.writes = k + 1 := by rw [← hst1]; show st.writes + 1 = _; rw [s.wr]
  have hr1 : st1.reads ≤ 3 * k := by rw [← hst1]; exact s.rd
  obtain ⟨p1, p2⟩ := putK_at (st := st) (i := i) (j := j) (l := supV b) s.pend (by rw [s.len]; omega) (b.ep % 2) hie
  rw [hst1] at p1 p2
  replace p2 := p2 (by omega)
  obtain ⟨q1, q2⟩ := slot_of p1 hw he (by rw [← hb]; exact hf st1 hl1 hz1 k) hie
  have hother : ∀ m, k = m + 1 → secB st1 j = supV (tB first seq m) := fun m hm => by
    rw [p2, ← s.last m hm]
    congr 2
    omega
  have hjs : slotOk st1 j = false ∨ (slotB st1 j).ep < b.ep := by
    cases k with
    | zero =>
      left
      refine slot_zero (n := 128) ?_
      rw [p2, ← s.zero rfl]
      congr 1
      omega
    | succ m =>
      right
      obtain ⟨_, r2⟩ := slot_of (hother m rfl) (tB_wf h1 h2 (by omega)) (tB_ok _ _ _) (hf st1 hl1 hz1 m) (show (first + (m : Int)) % 2 = j by omega)
      rw [r2, hep]
      show first + (m : Int) < _
      omega
  obtain ⟨e1, e2, e3⟩ := read_two ho1 hij q1 q2 hjs
  have hin : ∀ m, k = m + 1 → rdE (readN st1 2) (1 - (first + k) % 2) = 0 ∧ (1 - (first + (k : Int)) % 2).toNat = j := fun m hm => by
    refine ⟨?_, by omega⟩
    have hi2 : inS (readN st1 2) (1 - (first + k) % 2) = true := by
      unfold inS
      rw [decide_eq_true (show (0 : Int) ≤ 1 - (first + k) % 2 by omega), decide_eq_true (show 1 - (first + (k : Int)) % 2 < ((readN st1 2).kept.length : Int) by show _ < (st1.kept.length : Int); rw [hl1]; omega)]
      rfl
    unfold rdE
    rw [hi2]
    show (if st1.off = true then (8 : Int) else _) = 0
    rw [ho1]
    rfl
  have hnext : ∀ (c : Int), c ≤ 3 → TurnSt first seq { st1 with reads := st1.reads + c } (k + 1) := fun c hc => by
    refine ⟨ho1, ha1, hp1, hl1, hz1, by show st1.writes = _; rw [hw1]; rfl, by show st1.reads + c ≤ _; omega, fun m hm => ?_, fun h => by omega⟩
    obtain rfl : m = k := by omega
    rw [hi, hb]
    exact p1
  refine ⟨st1, by rw [hb]; exact w1, by rw [hb, w2, hst1], by omega, by omega, e1, by rw [hb]; exact e2, e3, fun h => ?_, fun m hm => ?_, fun m hm => ?_⟩
  · have := hnext 2 (by omega)
    rw [h] at this
    exact this
  · obtain ⟨x1, x2⟩ := hin m hm
    unfold rdV
    rw [if_pos x1, x2]
    exact hother m hm
  · obtain ⟨x1, _⟩ := hin m hm
    unfold rdS
    rw [if_pos x1]
    have h3 := hnext 3 (by omega)
    have e : st1.reads + 2 + 1 = st1.reads + 3 := by omega
    show TurnSt first seq { st1 with reads := st1.reads + ((2 : Nat) : Int) + 1 } (k + 1)
    rw [show st1.reads + ((2 : Nat) : Int) + 1 = st1.reads + 3 by omega]
    exact h3
end Go.Proofs.Ytcbnebcooiagmaa
namespace Go.Proofs.Ytcbnebcooiagmaa
open Go.RowKit
set_option linter.unusedSimpArgs false in
set_option linter.unusedVariables false in
set_option maxRecDepth 100000 in
set_option maxHeartbeats 2000000 in
theorem superturns_in (first seq : Int) (n : Nat) (w : World) (hn : 1 ≤ n ∧ n ≤ 40) (hf : 0 ≤ first ∧ first ≤ 4611686018427387904) (hq : 0 ≤ seq ∧ seq ≤ 18446744073709551615) :
    Calls Try.prog 5 #[.int .u64 first, .int .i64 n, .int .u64 seq] w fun e w' => e = .returned (.bool true) ∧ Below w.heap.size w w' := by
  obtain ⟨hn1, hn2⟩ := hn
  obtain ⟨hf1, hf2⟩ := hf
  obtain ⟨hq1, hq2⟩ := hq
  have d1 : decide ((n : Int) < 1) = false := decide_eq_false (by omega)
  have d2 : decide ((40 : Int) < (n : Int)) = false := decide_eq_false (by omega)
  have d3 : decide ((4611686018427387904 : Int) < first) = false := decide_eq_false (by omega)
  go_enter Try.func5, Try.ntmps5
  go_wp2_with fail
  refine (known20 w).mono ?_
  rintro e w1 ⟨rfl, hb1⟩
  have B1 := Lib.hid hb1
  clear hb1
  go_wp2_with fail
  refine (new_any 40 128 w1 r40).mono ?_
  rintro e w3 ⟨d, Z, rfl, hd3, hz3, hb3⟩
  have D3 := Lib.hid (DkB.mk hd3 (fun k h => Nat.le_trans B1.out.size (hz3 k h)) (Below.call B1.out hb3))
  clear hd3 hz3 hb3 B1
  go_wp2_with fail
  go_loopw [9] (fun i wr => ∃ k : Nat, k ≤ n ∧ i = .int .i64 k ∧ Hid (∃ Z st, DkB w wr d Z st ∧ TurnSt first seq st k)) (fun i _ => n - (intOf i).toNat)
  case atStart => exact ⟨0, by omega, rfl, Z, K0, D3.out, TurnSt.start first seq⟩
  case round =>
    clear D3
    obtain ⟨k, hk, rfl, hst⟩ := hrel
    obtain ⟨Z1, st, D, S⟩ := hst.out
    clear hst
    by_cases hkn : k < n
    · obtain ⟨st1, X⟩ := S.step hf1 hf2 (by omega)
      have HD := Lib.hid D
      have HX := Lib.hid X
      have HS := Lib.hid S
      clear D X S
      go_wp2_with fail
      refine (shape20_any wr).mono ?_
      rintro e w4 ⟨rfl, hb4⟩
      have D4 := Lib.hid (HD.out.more hb4)
      clear hb4
      obtain ⟨Q, hQ⟩ : ∃ Q, IntKind.u64.wrap (seq + (k : Int)) = Q := ⟨_, rfl⟩
      have HQ := Lib.hid hQ
      have hTB : tB first seq k = shB (first + k) Q := by rw [← hQ, IntKind.wrap_u64]; rfl
      have hW : (shB (first + k) Q).Wf := by rw [← hTB]; exact tB_wf hf1 hf2 (by omega)
      have HW := Lib.hid hW
      have HX2 := HX
      rw [show Hid (TurnStep first seq st st1 k) = TurnStep first seq st st1 k from rfl] at HX2
      have hwe := HX2.we
      have hws := HX2.ws
      have hrb := HX2.rb
      rw [hTB] at hwe hws hrb
      have HWE := Lib.hid hwe
      have HWS := Lib.hid hws
      have HRB := Lib.hid hrb
      clear hQ hTB hW HX2 hwe hws hrb
      have hbv : (shB (first + k) Q).val = .agg #[.int .u64 (first + (k : Int)), .int .i64 40, .int .i64 128, .int .i64 4, .int .i64 2, .int .i64 16, .int .i64 4, .int .i64 2, .int .i64 2, .int .i64 4, .int .i64 0, .int .i64 0, .int .u64 Q] := rfl
      have HWR : Hid (∀ w5, DkIn w5 Z1 d st → Calls Try.prog 21 #[.pointer (some ⟨d, 0, none⟩), .agg #[.int .u64 (first + (k : Int)), .int .i64 40, .int .i64 128, .int .i64 4, .int .i64 2, .int .i64 16, .int .i64 4, .int .i64 2, .int .i64 2, .int .i64 4, .int .i64 0, .int .i64 0, .int .u64 Q]] w5 fun e w' => e = .returned (.int .i64 0) ∧ ∃ Z', DkIn w' Z' d st1 ∧ Tnd Z1 Z' w5 w') := fun w5 h => by
        have h1 := supwrite_any Z1 d st (shB (first + k) Q) w5 h HW.out (by rw [HS.out.wr]; omega)
        rw [hbv, HWE.out, HWS.out] at h1
        exact h1
      clear hbv
      have hal := (Below.refl w4.heap.size w4).alloc (Nat.le_refl _) (.cells #[.int .u64 (first + (k : Int)), .int .i64 40, .int .i64 128, .int .i64 4, .int .i64 2, .int .i64 16, .int .i64 4, .int .i64 2, .int .i64 2, .int .i64 4, .int .i64 0, .int .i64 0, .int .u64 Q] 28)
      have hrow := heap_alloc_new w4 (.cells #[.int .u64 (first + (k : Int)), .int .i64 40, .int .i64 128, .int .i64 4, .int .i64 2, .int .i64 16, .int .i64 4, .int .i64 2, .int .i64 2, .int .i64 4, .int .i64 0, .int .i64 0, .int .u64 Q] 28)
      have D5 := Lib.hid (D4.out.more hal)
      obtain ⟨w5, hw5⟩ : ∃ w5, w4.alloc (.cells #[.int .u64 (first + (k : Int)), .int .i64 40, .int .i64 128, .int .i64 4, .int .i64 2, .int .i64 16, .int .i64 4, .int .i64 2, .int .i64 2, .int .i64 4, .int .i64 0, .int .i64 0, .int .u64 Q] 28) = w5 := ⟨_, rfl⟩
      obtain ⟨bb, hbb⟩ : ∃ bb, w4.heap.size = bb := ⟨_, rfl⟩
      have hnz : Hid (¬ Z1 bb) := fun h => by have := D4.out.din.1 bb h; omega
      rw [hw5] at D5 hrow
      rw [hbb] at hrow
      have R5 := Lib.hid hrow
      clear hal hrow D4
      go_wp2_with fail
      rw [HQ.out, hw5]
      refine (HWR.out w5 D5.out.din).mono ?_
      rintro e w6 ⟨rfl, Z6, hd6, ht6⟩
      have D6 := Lib.hid (D5.out.turn hd6 ht6)
      have R6 := Lib.hid (row_tnd R5.out ht6 hnz.out)
      have hnz6 : Hid (¬ Z6 bb) := fun h => by
        rcases ht6.sub bb h with h | h
        · exact hnz.out h
        · have := (Array.getElem?_eq_some_iff.1 R5.out).1; omega
      clear hd6 ht6 D5 R5
      go_wp2_with fail
      have HRC : Hid (∀ w6, DkIn w6 Z6 d st1 → Calls Try.prog 22 #[.pointer (some ⟨d, 0, none⟩)] w6 fun e w' => e = .returned (.tuple #[.agg #[.int .u64 (first + (k : Int)), .int .i64 40, .int .i64 128, .int .i64 4, .int .i64 2, .int .i64 16, .int .i64 4, .int .i64 2, .int .i64 2, .int .i64 4, .int .i64 0, .int .i64 0, .int .u64 Q], .int .i64 0]) ∧ DkIn w' Z6 d (readN st1 2) ∧ Tnd Z6 Z6 w6 w') := fun w6 h => by
        have h1 := supread_any Z6 d st1 w6 h HX.out.len (by have := HX.out.rd; omega)
        rw [HX.out.rs, HRB.out, HX.out.re] at h1
        exact h1
      refine (HRC.out w6 D6.out.din).mono ?_
      rintro e w7 ⟨rfl, hd7, ht7⟩
      have D7 := Lib.hid (D6.out.turn hd7 ht7)
      have R7 := Lib.hid (row_tnd R6.out ht7 hnz6.out)
      have hal := (Below.refl w7.heap.size w7).alloc (Nat.le_refl _) (.cells #[.int .u64 (first + (k : Int)), .int .i64 40, .int .i64 128, .int .i64 4, .int .i64 2, .int .i64 16, .int .i64 4, .int .i64 2, .int .i64 2, .int .i64 4, .int .i64 0, .int .i64 0, .int .u64 Q] 28)
      have hrow := heap_alloc_new w7 (.cells #[.int .u64 (first + (k : Int)), .int .i64 40, .int .i64 128, .int .i64 4, .int .i64 2, .int .i64 16, .int .i64 4, .int .i64 2, .int .i64 2, .int .i64 4, .int .i64 0, .int .i64 0, .int .u64 Q] 28)
      have D8 := Lib.hid (D7.out.more hal)
      have R8 := Lib.hid (row_keep R7.out hal)
      obtain ⟨w8, hw8⟩ : ∃ w8, w7.alloc (.cells #[.int .u64 (first + (k : Int)), .int .i64 40, .int .i64 128, .int .i64 4, .int .i64 2, .int .i64 16, .int .i64 4, .int .i64 2, .int .i64 2, .int .i64 4, .int .i64 0, .int .i64 0, .int .u64 Q] 28) = w8 := ⟨_, rfl⟩
      obtain ⟨xb, hxb⟩ : ∃ xb, w7.heap.size = xb := ⟨_, rfl⟩
      rw [hw8] at D8 hrow R8
      rw [hxb] at hrow
      have X8 := Lib.hid hrow
      clear hd7 ht7 hal hrow D7 R7 D6 R6
      obtain ⟨q0, q1, q2, q3, q4, q5, q6, q7, q8, q9, q10, q11, q12⟩ := cells13 R8.out
      obtain ⟨p0, p1, p2, p3, p4, p5, p6, p7, p8, p9, p10, p11, p12⟩ := cells13 X8.out
      by_cases hk0 : k = 0
      · have hki : ((k : Int) == 0) = true := by simpa using hk0
        have HK0 := Lib.hid hk0
        clear hk0
        go_wp2_with (rw [hw8])
        go_roundw
        case rel => exact ⟨k + 1, by omega, by go_num, Z6, readN st1 2, D8.out, by have h1 := HX.out.one HK0.out; rw [HK0.out]; exact h1⟩
        case measure => simp [intOf] <;> omega
      · have hki : ((k : Int) == 0) = false := by simpa using hk0
        go_wp2_with (rw [hw8])
        refine (slot_any (first + k) w8 ⟨by omega, by omega⟩).mono ?_
        rintro e w9 ⟨rfl, rfl⟩
        go_wp2_with fail
        obtain ⟨m, hm⟩ : ∃ m, k = m + 1 := ⟨k - 1, by omega⟩
        obtain ⟨Q2, hQ2⟩ : ∃ Q2, (seq + m) % 18446744073709551616 = Q2 := ⟨_, rfl⟩
        have hT2 : tB first seq m = shB (first + (k : Int) - 1) Q2 := by
          rw [← hQ2, hm]
          unfold tB
          congr 1
          omega
        have hw2 : (shB (first + (k : Int) - 1) Q2).Wf := by rw [← hT2]; exact tB_wf hf1 hf2 (by omega)
        have hsv := HX.out.sv m hm
        rw [hT2] at hsv
        have HSV := Lib.hid hsv
        have HRD := Lib.hid (sup_read hw2 (sh_ok _ _))
        have HVL := Lib.hid (supV_len (sh_ok (first + (k : Int) - 1) Q2))
        have HSS := Lib.hid (HX.out.ss m hm)
        clear hQ2 hT2 hw2 hsv hm
        refine (read_any Z6 d (readN st1 2) (1 - (first + k) % 2) w8 D8.out.din (by omega) (by omega) (by have := HX.out.rd; show st1.reads + 2 + 1 ≤ _; omega)).mono ?_
        rintro e w9 ⟨v9, rfl, ho9, hd9, ht9⟩
        rw [HSV.out] at ho9
        obtain ⟨n9, hn9⟩ : ∃ n9, (supV (shB (first + (k : Int) - 1) Q2)).length = n9 := ⟨_, rfl⟩
        obtain ⟨a9, c9, rfl⟩ := ho9.shapeN n9 hn9
        have hl9 := HVL.out
        rw [hn9] at hl9
        have D9 := Lib.hid (D8.out.turn hd9 ht9)
        have R9 := Lib.hid (row_tnd R8.out ht9 hnz6.out)
        have O9 := Lib.hid ho9.rd
        clear ho9 hd9 ht9 hn9 q0 q1 q2 q3 q4 q5 q6 q7 q8 q9 q10 q11 q12 p0 p1 p2 p3 p4 p5 p6 p7 p8 p9 p10 p11 p12 D8 R8 X8
        go_wp2_with fail
        refine (supdec_any a9 n9 c9 _ w9 O9.out (by omega)).mono ?_
        rintro e w10 ⟨rfl, hb10⟩
        rw [HRD.out.1, HRD.out.2]
        rw [show (shB (first + (k : Int) - 1) Q2).val = .agg #[.int .u64 (first + (k : Int) - 1), .int .i64 40, .int .i64 128, .int .i64 4, .int .i64 2, .int .i64 16, .int .i64 4, .int .i64 2, .int .i64 2, .int .i64 4, .int .i64 0, .int .i64 0, .int .u64 Q2] from rfl]
        have hal := (Below.refl w10.heap.size w10).alloc (Nat.le_refl _) (.cells #[.int .u64 (first + (k : Int) - 1), .int .i64 40, .int .i64 128, .int .i64 4, .int .i64 2, .int .i64 16, .int .i64 4, .int .i64 2, .int .i64 2, .int .i64 4, .int .i64 0, .int .i64 0, .int .u64 Q2] 28)
        have hb11 := Below.call hb10 hal
        have hrow := heap_alloc_new w10 (.cells #[.int .u64 (first + (k : Int) - 1), .int .i64 40, .int .i64 128, .int .i64 4, .int .i64 2, .int .i64 16, .int .i64 4, .int .i64 2, .int .i64 2, .int .i64 4, .int .i64 0, .int .i64 0, .int .u64 Q2] 28)
        have D11 := Lib.hid (D9.out.more hb11)
        have R11 := Lib.hid (row_keep R9.out hb11)
        obtain ⟨w11, hw11⟩ : ∃ w11, w10.alloc (.cells #[.int .u64 (first + (k : Int) - 1), .int .i64 40, .int .i64 128, .int .i64 4, .int .i64 2, .int .i64 16, .int .i64 4, .int .i64 2, .int .i64 2, .int .i64 4, .int .i64 0, .int .i64 0, .int .u64 Q2] 28) = w11 := ⟨_, rfl⟩
        obtain ⟨yb, hyb⟩ : ∃ yb, w10.heap.size = yb := ⟨_, rfl⟩
        rw [hw11] at D11 hrow R11
        rw [hyb] at hrow
        have Y11 := Lib.hid hrow
        clear hb10 hal hb11 hrow D9 R9
        obtain ⟨q0, q1, q2, q3, q4, q5, q6, q7, q8, q9, q10, q11, q12⟩ := cells13 R11.out
        obtain ⟨p0, p1, p2, p3, p4, p5, p6, p7, p8, p9, p10, p11, p12⟩ := cells13 Y11.out
        have hne : (first + (k : Int) - 1 != first + (k : Int) - 1) = false := by simp
        have HN1 : Hid (∀ w1, Calls Try.prog 17 #[.agg #[.int .u64 (first + (k : Int)), .int .i64 40, .int .i64 128, .int .i64 4, .int .i64 2, .int .i64 16, .int .i64 4, .int .i64 2, .int .i64 2, .int .i64 4, .int .i64 0, .int .i64 0, .int .u64 Q], .agg #[.int .u64 (first + (k : Int) - 1), .int .i64 40, .int .i64 128, .int .i64 4, .int .i64 2, .int .i64 16, .int .i64 4, .int .i64 2, .int .i64 2, .int .i64 4, .int .i64 0, .int .i64 0, .int .u64 Q2]] w1 fun e w' => e = .returned (.bool true) ∧ Below w1.heap.size w1 w') := fun w1 => by
          have h1 := newer_any (shB (first + k) Q) (shB (first + (k : Int) - 1) Q2) w1
          rw [show (decide ((shB (first + (k : Int) - 1) Q2).ep < (shB (first + k) Q).ep)) = true from decide_eq_true (by show first + (k : Int) - 1 < first + k; omega)] at h1
          exact h1
        have HN2 : Hid (∀ w1, Calls Try.prog 17 #[.agg #[.int .u64 (first + (k : Int) - 1), .int .i64 40, .int .i64 128, .int .i64 4, .int .i64 2, .int .i64 16, .int .i64 4, .int .i64 2, .int .i64 2, .int .i64 4, .int .i64 0, .int .i64 0, .int .u64 Q2], .agg #[.int .u64 (first + (k : Int)), .int .i64 40, .int .i64 128, .int .i64 4, .int .i64 2, .int .i64 16, .int .i64 4, .int .i64 2, .int .i64 2, .int .i64 4, .int .i64 0, .int .i64 0, .int .u64 Q]] w1 fun e w' => e = .returned (.bool false) ∧ Below w1.heap.size w1 w') := fun w1 => by
          have h1 := newer_any (shB (first + (k : Int) - 1) Q2) (shB (first + k) Q) w1
          rw [show (decide ((shB (first + k) Q).ep < (shB (first + (k : Int) - 1) Q2).ep)) = false from decide_eq_false (by show ¬ first + (k : Int) < first + k - 1; omega)] at h1
          exact h1
        go_wp2_with (rw [hw11])
        refine (HN1.out w11).mono ?_
        rintro e w12 ⟨rfl, hb12⟩
        have D12 := Lib.hid (D11.out.more hb12)
        have R12 := Lib.hid (row_keep R11.out hb12)
        have Y12 := Lib.hid (row_keep Y11.out hb12)
        clear hb12 q0 q1 q2 q3 q4 q5 q6 q7 q8 q9 q10 q11 q12 p0 p1 p2 p3 p4 p5 p6 p7 p8 p9 p10 p11 p12 D11 R11 Y11 hw11
        obtain ⟨q0, q1, q2, q3, q4, q5, q6, q7, q8, q9, q10, q11, q12⟩ := cells13 R12.out
        obtain ⟨p0, p1, p2, p3, p4, p5, p6, p7, p8, p9, p10, p11, p12⟩ := cells13 Y12.out
        go_wp2_with fail
        refine (HN2.out w12).mono ?_
        rintro e w13 ⟨rfl, hb13⟩
        have D13 := Lib.hid (D12.out.more hb13)
        clear hb13 q0 q1 q2 q3 q4 q5 q6 q7 q8 q9 q10 q11 q12 p0 p1 p2 p3 p4 p5 p6 p7 p8 p9 p10 p11 p12 D12
        go_wp2_with fail
        go_roundw
        case rel => exact ⟨k + 1, by omega, by go_num, Z6, _, D13.out, HSS.out⟩
        case measure => simp [intOf] <;> omega
    · obtain rfl : k = n := by omega
      have HD := Lib.hid D
      have HS := Lib.hid S
      clear D S
      go_wp2_with fail
      refine (pending_any Z1 d st wr HD.out.din).mono ?_
      rintro e w' ⟨rfl, rfl⟩
      rw [HS.out.pend]
      go_wp2_with fail
      go_ret
      exact ⟨rfl, HD.out.below⟩
set_option linter.unusedSimpArgs false in
set_option linter.unusedVariables false in
set_option maxRecDepth 100000 in
theorem superturns_out (first seq z : Int) (w : World) (h : z < 1 ∨ (1 ≤ z ∧ 40 < z) ∨ (1 ≤ z ∧ z ≤ 40 ∧ 4611686018427387904 < first)) :
    Calls Try.prog 5 #[.int .u64 first, .int .i64 z, .int .u64 seq] w fun e w' => e = .returned (.bool true) ∧ Below w.heap.size w w' := by
  rcases h with h | ⟨h, h2⟩ | ⟨h, h2, h3⟩
  · have d1 : decide (z < 1) = true := decide_eq_true h
    go_enter Try.func5, Try.ntmps5
    go_wp2_with fail
    refine (known20 w).mono ?_
    rintro e w1 ⟨rfl, hb1⟩
    have B1 := Lib.hid hb1
    clear hb1
    go_wp2_with fail
    go_ret
    exact ⟨rfl, B1.out⟩
  · have d1 : decide (z < 1) = false := decide_eq_false (by omega)
    have d2 : decide (40 < z) = true := decide_eq_true h2
    go_enter Try.func5, Try.ntmps5
    go_wp2_with fail
    refine (known20 w).mono ?_
    rintro e w1 ⟨rfl, hb1⟩
    have B1 := Lib.hid hb1
    clear hb1
    go_wp2_with fail
    go_ret
    exact ⟨rfl, B1.out⟩
  · have d1 : decide (z < 1) = false := decide_eq_false (by omega)
    have d2 : decide (40 < z) = false := decide_eq_false (by omega)
    have d3 : decide (4611686018427387904 < first) = true := decide_eq_true h3
    go_enter Try.func5, Try.ntmps5
    go_wp2_with fail
    refine (known20 w).mono ?_
    rintro e w1 ⟨rfl, hb1⟩
    have B1 := Lib.hid hb1
    clear hb1
    go_wp2_with fail
    go_ret
    exact ⟨rfl, B1.out⟩
set_option maxRecDepth 100000 in
theorem superTurns_walk (first z seq : Int) (w : World) (hf : (Lit.int .u64 first).wf = true) (_ : (Lit.int .i64 z).wf = true) (hq : (Lit.int .u64 seq).wf = true) :
    Calls Try.prog 5 #[.int .u64 first, .int .i64 z, .int .u64 seq] w fun e w' => e = .returned (.bool true) ∧ Below w.heap.size w w' := by
  obtain ⟨f1, f2⟩ := wf_u64_bd hf
  by_cases h : z < 1
  · exact superturns_out first seq z w (.inl h)
  · by_cases h2 : 40 < z
    · exact superturns_out first seq z w (.inr (.inl ⟨by omega, h2⟩))
    · by_cases h3 : 4611686018427387904 < first
      · exact superturns_out first seq z w (.inr (.inr ⟨by omega, by omega, h3⟩))
      · obtain ⟨n, rfl⟩ : ∃ n : Nat, z = n := ⟨z.toNat, by omega⟩
        exact superturns_in first seq n w ⟨by omega, by omega⟩ ⟨f1, by omega⟩ (wf_u64_bd hq)
end Go.Proofs.Ytcbnebcooiagmaa
namespace Go.Proofs.Ytcbnebcooiagmaa.superTurns
open Go.ChangeShapes Go.WideShapes Go.ChangeAt Go.RowKit
set_option linter.unusedVariables false

set_option maxRecDepth 100000 in
theorem own : ownKnob Try.prog.godebug = none := by kernel_rfl
set_option maxRecDepth 100000 in
theorem laidOut : laidOutB Try.prog = true := by kernel_rfl

set_option maxRecDepth 100000 in
theorem lifted (os : Os) (started : os.Started) (H : Type) (enc : TypeId × Value → H) :
    ReturnsInHanded {} Try.checked os 5 .any (Rows.superTurnsSpec.pre6 enc Try.prog Try.f5 Rows.superTurnsRow.domain false) (Rows.superTurnsSpec.post enc Try.prog Try.f5 false true false false) := by
  refine returnsInHanded_of_change (C := Try.checked) own started (by kernel_rfl) Try.func5
    (ChangeSpec.witness6 (enc := enc) (C := Try.checked) false ⟨#[], #[.int .u64 0, .int .i64 0, .int .u64 0], []⟩ 8 (by kernel_rfl) (by kernel_rfl) (by kernel_rfl) (by kernel_rfl)) ?_
  intro W base args ds gs before hval0 hW hcnd _
  have hval : ∀ (j : Nat) t v, Try.f5.params[j]? = some t → args[j]? = some v → Value.okWide Try.prog W .any base t v := hval0
  have hW' := hW
  obtain ⟨p, q, hA0, hV, rfl, hfz, hnd⟩ := hW
  have hA : DataW.TrodAll enc Try.prog W 0 (fun _ => true) true Try.f5.params.toList args.toList ds p := hA0
  rw [Try.params5] at hA hval
  obtain ⟨v0, vs0, d0, ds0, p0, q0, hargs, rfl, rfl, h0, r0⟩ := trodAll_cons hA
  obtain ⟨v1, vs1, d1, ds1, p1, q1, rfl, rfl, rfl, h1, r1⟩ := trodAll_cons r0
  obtain ⟨v2, vs2, d2, ds2, p2, q2, rfl, rfl, rfl, h2, r2⟩ := trodAll_cons r1
  obtain ⟨rfl, rfl, rfl⟩ := trodAll_nil r2
  obtain rfl : args = #[v0, v1, v2] := by cases args; simp_all
  obtain ⟨rfl, rfl⟩ := trodVars_none hV
  obtain ⟨a0, rfl, rfl, rfl, w0⟩ := open_int Try.underlying22 (hval 0 22 v0 rfl rfl) h0
  obtain ⟨a1, rfl, rfl, rfl, w1⟩ := open_int Try.underlying3 (hval 1 3 v1 rfl rfl) h1
  obtain ⟨a2, rfl, rfl, rfl, w2⟩ := open_int Try.underlying22 (hval 2 22 v2 rfl rfl) h2
  clear hA0 hval0
  refine (superTurns_walk a0 a1 a2 W w0 w1 w2).mono fun e W' ⟨he, bel⟩ => ?_
  subst he
  exact ⟨_, rfl, _, _, _, [], _, [], hW', trodAll_mk1 (shut_bool Try.underlying4 _), (trodAll_cons_mk (shut_int Try.underlying22 w0) (trodAll_cons_mk (shut_int Try.underlying3 w1) (trodAll_cons_mk (shut_int Try.underlying22 w2) trodAll_mk0))), rfl, bel.frame _, fun h => by cases h⟩

set_option maxRecDepth 100000 in
theorem over : Rows.superTurnsRow.holds Try.pinned (OpenSpec.ofChange Rows.superTurnsSpec) :=
  OpenClaim.holds_of_wide 5 Try.f5 rfl rfl rfl rfl rfl rfl rfl ⟨rfl, rfl, rfl, rfl, rfl⟩ rfl rfl rfl rfl rfl (by kernel_rfl) Try.func5 (by kernel_rfl)
    (of_decide_eq_true (by kernel_rfl)) (by unfold Func.isWrapper; first | (rw [if_pos (by decide +kernel)]; kernel_rfl) | (rw [if_neg (by decide +kernel)]; exact ⟨rfl, rfl⟩))
    (fun os started H enc _ => lifted os started H enc)

/-- SuperTurns holds for every input. -/
theorem proved : Rows.SuperTurnsSaid := over
end Go.Proofs.Ytcbnebcooiagmaa.superTurns
