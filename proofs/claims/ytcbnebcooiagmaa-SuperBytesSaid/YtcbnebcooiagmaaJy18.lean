/- Joined: super's laws: the chapter's example. super: what two slots read as: plain laws for SuperTurns, SuperCuts, SuperReads. super: the document's Newest. super: epochs written one behind the other: the plain law of SuperTurns. Opening a slice of bools. disk: Arm, whatever is to be kept. The contract of crc.Burst. -/
import Derived.Test.YtcbnebcooiagmaaJy17
import Derived.Test.YtcbnebcooiagmaaJy15
import Derived.Deep.Grids
import Derived.Test.YtcbnebcooiagmaaJy16
import Derived.Test.YtcbnebcooiagmaaJy8
import Derived.Test.YtcbnebcooiagmaaJy1
import Derived.RegionTactic
import Derived.ChangeAlike
namespace Go.Proofs.Ytcbnebcooiagmaa
open Go.RowKit
def KB : Blk := ⟨3, 40, 128, 4, 2, 16, 4, 2, 2, 4, 0, 0, 1⟩
def K0 : Dk := dk0 40 128
theorem kb_wf : KB.Wf := ⟨by decide, by decide, by decide, by decide, by decide, by decide, by decide, by decide, by decide, by decide, by decide, by decide, by decide⟩
set_option maxRecDepth 100000 in
theorem kb_ok : supE KB = 0 := by kernel_rfl
theorem kb_fit : fitB K0 KB = true := by kernel_rfl
theorem r40 : rightB 40 128 = true := by decide
def K1 : Dk := putK K0 1 (supV KB)
theorem k1_at : K1.kept = (List.replicate 40 (List.replicate 128 0)).set 1 (supV KB) := rfl
theorem k1_sec : secB K1 1 = supV KB ∧ secB K1 0 = List.replicate 128 0 := by
  rw [secB_kept rfl, secB_kept rfl, k1_at]
  exact ⟨rfl, rfl⟩
theorem k1_fit : fitB K1 KB = true := by
  unfold fitB
  rw [k1_at, List.length_set]
  kernel_rfl
theorem k1_best : bestS K1 2 = true ∧ bestB K1 2 = KB := by
  obtain ⟨h1, h2⟩ := slot_of (i := 1) k1_sec.1 kb_wf kb_ok k1_fit rfl
  have h0 := slot_zero (i := 0) k1_sec.2
  obtain ⟨e1, e2⟩ := best2 K1
  rw [h1, h0] at e1 e2
  exact ⟨e1, by rw [e2, h2]; rfl⟩
theorem k1_read : supRE K1 = 0 ∧ supRB K1 = KB ∧ supRS K1 = readN K1 2 := by
  have ho : K1.off = false := rfl
  unfold supRE supRB supRS
  rw [ho, k1_best.1, k1_best.2]
  exact ⟨rfl, rfl, rfl⟩
theorem k1_rd : rdV (readN K1 2) 1 = supV KB := by
  have h : rdE (readN K1 2) 1 = 0 := rfl
  unfold rdV
  rw [if_pos h]
  exact k1_sec.1
set_option linter.unusedSimpArgs false in
set_option linter.unusedVariables false in
set_option maxRecDepth 100000 in
set_option maxHeartbeats 2000000 in
theorem known20 (w : World) : Calls Try.prog 8 #[] w fun e w' => e = .returned (.bool true) ∧ Below w.heap.size w w' := by
  go_enter Try.func8, Try.ntmps8
  go_wp2_with fail
  refine (shape20_any _).mono ?_
  rintro e w1 ⟨rfl, hb1⟩
  have hal := (Below.refl w1.heap.size w1).alloc (Nat.le_refl _) (.cells #[.int .i64 40, .int .i64 128, .int .i64 4, .int .i64 2, .int .i64 16, .int .i64 4, .int .i64 2, .int .i64 2, .int .i64 4] 24)
  have hrow := heap_alloc_new w1 (.cells #[.int .i64 40, .int .i64 128, .int .i64 4, .int .i64 2, .int .i64 16, .int .i64 4, .int .i64 2, .int .i64 2, .int .i64 4] 24)
  obtain ⟨wa, hwa⟩ : ∃ wa, w1.alloc (.cells #[.int .i64 40, .int .i64 128, .int .i64 4, .int .i64 2, .int .i64 16, .int .i64 4, .int .i64 2, .int .i64 2, .int .i64 4] 24) = wa := ⟨_, rfl⟩
  obtain ⟨cb, hcb⟩ : ∃ cb, w1.heap.size = cb := ⟨_, rfl⟩
  have BA := Lib.hid (Below.call hb1 (by rw [hwa] at hal; exact hal))
  rw [hwa, hcb] at hrow
  have CR := Lib.hid hrow
  have HWA := Lib.hid hwa
  have HCB := Lib.hid hcb
  clear hb1 hal hrow hwa hcb
  go_wp2_with fail
  rw [HWA.out, HCB.out]
  refine (check_any 40 128 4 2 16 4 2 2 4 wa).mono ?_
  rintro e w2 ⟨rfl, hb2⟩
  rw [show chkN 40 128 4 2 16 4 2 2 4 = 0 from by kernel_rfl]
  have B2 := Lib.hid (Below.call BA.out hb2)
  have CR2 := Lib.hid (row_keep CR.out hb2)
  clear hb2 CR BA
  obtain ⟨z0, z1, z2, z3, z4, z5, z6, z7, z8⟩ := cells9 CR2.out
  go_wp2_with fail
  refine (new_any 40 128 w2 r40).mono ?_
  rintro e w3 ⟨d, Z, rfl, hd3, hz3, hb3⟩
  have D3 := Lib.hid (DkB.mk hd3 (fun k h => Nat.le_trans B2.out.size (hz3 k h)) (Below.call B2.out hb3))
  have CR3 := Lib.hid (row_keep CR2.out hb3)
  clear z0 z1 z2 z3 z4 z5 z6 z7 z8 hd3 hz3 hb3 CR2 B2
  obtain ⟨z0, z1, z2, z3, z4, z5, z6, z7, z8⟩ := cells9 CR3.out
  go_wp2_with fail
  have HE0 := Lib.hid (wrote (st := K0) (b := KB) rfl kb_ok kb_fit rfl (by decide))
  refine (supwrite_any Z d K0 KB w3 D3.out.din kb_wf (show (0 : Int) + 1 ≤ 4611686018427387904 by decide)).mono ?_
  rintro e w4 ⟨rfl, Z4, hd4, ht4⟩
  rw [HE0.out.2] at hd4
  rw [HE0.out.1]
  have D4 := Lib.hid (D3.out.turn (st' := K1) hd4 ht4)
  clear hd4 ht4 z0 z1 z2 z3 z4 z5 z6 z7 z8 D3
  go_wp2_with fail
  refine (supread_any Z4 d K1 w4 D4.out.din (show 2 ≤ K1.kept.length by rw [k1_at, List.length_set, List.length_replicate]; decide) (show (0 : Int) + 2 ≤ 4611686018427387904 by decide)).mono ?_
  rintro e w5 ⟨rfl, hd5, ht5⟩
  rw [k1_read.2.2] at hd5
  rw [k1_read.1, k1_read.2.1]
  rw [show KB.val = .agg #[.int .u64 3, .int .i64 40, .int .i64 128, .int .i64 4, .int .i64 2, .int .i64 16, .int .i64 4, .int .i64 2, .int .i64 2, .int .i64 4, .int .i64 0, .int .i64 0, .int .u64 1] from rfl]
  have D5 := Lib.hid (D4.out.turn hd5 ht5)
  clear hd5 ht5 D4
  have hal := (Below.refl w5.heap.size w5).alloc (Nat.le_refl _) (.cells #[.int .u64 3, .int .i64 40, .int .i64 128, .int .i64 4, .int .i64 2, .int .i64 16, .int .i64 4, .int .i64 2, .int .i64 2, .int .i64 4, .int .i64 0, .int .i64 0, .int .u64 1] 28)
  have hrow := heap_alloc_new w5 (.cells #[.int .u64 3, .int .i64 40, .int .i64 128, .int .i64 4, .int .i64 2, .int .i64 16, .int .i64 4, .int .i64 2, .int .i64 2, .int .i64 4, .int .i64 0, .int .i64 0, .int .u64 1] 28)
  have D6 := Lib.hid (D5.out.more hal)
  obtain ⟨w6, hw6⟩ : ∃ w6, w5.alloc (.cells #[.int .u64 3, .int .i64 40, .int .i64 128, .int .i64 4, .int .i64 2, .int .i64 16, .int .i64 4, .int .i64 2, .int .i64 2, .int .i64 4, .int .i64 0, .int .i64 0, .int .u64 1] 28) = w6 := ⟨_, rfl⟩
  obtain ⟨bb, hbb⟩ : ∃ bb, w5.heap.size = bb := ⟨_, rfl⟩
  rw [hw6] at D6
  rw [hw6, hbb] at hrow
  have BR6 := Lib.hid hrow
  have HW6 := Lib.hid hw6
  have HBB := Lib.hid hbb
  have hnz : Hid (¬ Z4 bb) := fun h => by have := D5.out.din.1 bb h; omega
  clear hal hrow hw6 hbb D5
  go_wp2_with fail
  rw [HW6.out, HBB.out]
  refine (read_any Z4 d (readN K1 2) 1 w6 D6.out.din (by decide) (by decide) (show (2 : Int) + 1 ≤ 4611686018427387904 by decide)).mono ?_
  rintro e w7 ⟨v7, rfl, ho7, hd7, ht7⟩
  rw [k1_rd] at ho7
  have hl := supV_len kb_ok
  obtain ⟨n7, hn7⟩ : ∃ n7, (supV KB).length = n7 := ⟨_, rfl⟩
  rw [hn7] at hl
  obtain ⟨a7, c7, rfl⟩ := ho7.shapeN n7 hn7
  have BR7 := Lib.hid (row_tnd BR6.out ht7 hnz.out)
  have D7 := Lib.hid (D6.out.turn hd7 ht7)
  have O7 := Lib.hid ho7.rd
  clear ho7 hd7 ht7 BR6 D6 hn7
  go_wp2_with fail
  refine (supdec_any a7 n7 c7 (supV KB) w7 O7.out (by omega)).mono ?_
  rintro e w8 ⟨rfl, hb8⟩
  rw [(sup_read kb_wf kb_ok).1, (sup_read kb_wf kb_ok).2]
  rw [show KB.val = .agg #[.int .u64 3, .int .i64 40, .int .i64 128, .int .i64 4, .int .i64 2, .int .i64 16, .int .i64 4, .int .i64 2, .int .i64 2, .int .i64 4, .int .i64 0, .int .i64 0, .int .u64 1] from rfl]
  have BR8 := Lib.hid (row_keep BR7.out hb8)
  have B8 := Lib.hid (Below.call D7.out.below hb8)
  clear hb8 BR7 D7
  have hal := (Below.refl w8.heap.size w8).alloc (Nat.le_refl _) (.cells #[.int .u64 3, .int .i64 40, .int .i64 128, .int .i64 4, .int .i64 2, .int .i64 16, .int .i64 4, .int .i64 2, .int .i64 2, .int .i64 4, .int .i64 0, .int .i64 0, .int .u64 1] 28)
  obtain ⟨q0, q1, q2, q3, q4, q5, q6, q7, q8, q9, q10, q11, q12⟩ := cells13 (row_keep BR8.out hal)
  obtain ⟨r0, r1, r2, r3, r4, r5, r6, r7, r8, r9, r10, r11, r12⟩ := cells13 (heap_alloc_new w8 (.cells #[.int .u64 3, .int .i64 40, .int .i64 128, .int .i64 4, .int .i64 2, .int .i64 16, .int .i64 4, .int .i64 2, .int .i64 2, .int .i64 4, .int .i64 0, .int .i64 0, .int .u64 1] 28))
  obtain ⟨w9, hw9⟩ : ∃ w9, w8.alloc (.cells #[.int .u64 3, .int .i64 40, .int .i64 128, .int .i64 4, .int .i64 2, .int .i64 16, .int .i64 4, .int .i64 2, .int .i64 2, .int .i64 4, .int .i64 0, .int .i64 0, .int .u64 1] 28) = w9 := ⟨_, rfl⟩
  obtain ⟨xb, hxb⟩ : ∃ xb, w8.heap.size = xb := ⟨_, rfl⟩
  have B9 := Lib.hid (Below.call B8.out hal)
  rw [hw9] at q0 q1 q2 q3 q4 q5 q6 q7 q8 q9 q10 q11 q12 r0 r1 r2 r3 r4 r5 r6 r7 r8 r9 r10 r11 r12 B9
  rw [hxb] at r0 r1 r2 r3 r4 r5 r6 r7 r8 r9 r10 r11 r12
  clear hal
  go_wp2_with (rw [hw9, hxb])
  go_ret
  exact ⟨rfl, B9.out⟩
end Go.Proofs.Ytcbnebcooiagmaa
namespace Go.Proofs.Ytcbnebcooiagmaa
open Go.RowKit
/-- A block of the chapter's shape. -/
def shB (e q : Int) : Blk := ⟨e, 40, 128, 4, 2, 16, 4, 2, 2, 4, 0, 0, q⟩
set_option maxRecDepth 100000 in
theorem sh_body : (supBody KB).length ≤ 100 := of_decide_eq_true (by kernel_rfl)
theorem sh_ok (e q : Int) : supE (shB e q) = 0 := by
  have h1 : supArg (shB e q) = true := show supArg KB = true from (supE_ok kb_ok).1
  have h2 : (supOut (shB e q)).length = 24 + (supBody KB).length := by
    unfold supOut
    rw [List.length_append, supHead_len]
    rfl
  unfold supE
  rw [h1, if_neg (by decide), if_neg]
  rw [h2]
  have := sh_body
  show ¬ ((128 : Int) - 4 < ((24 + (supBody KB).length : Nat) : Int))
  omega
theorem sh_wf {e q : Int} (h1 : 0 ≤ e ∧ e ≤ 18446744073709551615) (h2 : 0 ≤ q ∧ q ≤ 18446744073709551615) : (shB e q).Wf :=
  ⟨h1, kb_wf.w0, kb_wf.w1, kb_wf.w2, kb_wf.w3, kb_wf.w4, kb_wf.w5, kb_wf.w6, kb_wf.w7, kb_wf.w8, kb_wf.rs, kb_wf.rn, h2⟩
/-- One slot holds b, whole and in its place; the other holds no block of the shape, or an older one. -/
theorem read_two {st : Dk} {b : Blk} {i j : Nat} (ho : st.off = false) (hij : i + j = 1) (hs : slotOk st i = true) (hb : slotB st i = b) (hj : slotOk st j = false ∨ (slotB st j).ep < b.ep) :
    supRE st = 0 ∧ supRB st = b ∧ supRS st = readN st 2 := by
  obtain ⟨e1, e2⟩ := best2 st
  have hbest : bestS st 2 = true ∧ bestB st 2 = b := by
    rcases (by omega : (i = 1 ∧ j = 0) ∨ (i = 0 ∧ j = 1)) with ⟨rfl, rfl⟩ | ⟨rfl, rfl⟩
    · rw [e1, e2, hs, hb]
      refine ⟨rfl, if_pos ?_⟩
      rcases hj with h | h
      · rw [h]; rfl
      · rw [decide_eq_true h]; simp
    · rw [e1, e2, hs, hb]
      refine ⟨by simp, ?_⟩
      rcases hj with h | h
      · rw [h]; rfl
      · rw [if_neg, if_pos rfl]
        rw [decide_eq_false (by omega)]
        simp
  unfold supRE supRB supRS
  rw [ho, hbest.1, hbest.2]
  exact ⟨rfl, rfl, rfl⟩
theorem putK_at {st : Dk} {i j : Nat} {l : List Int} (hp : st.pend = []) (hi : i < st.kept.length) (s : Int) (hs : s = i) : secB (putK st s l) i = l ∧ (j ≠ i → secB (putK st s l) j = secB st j) := by
  subst hs
  rw [secB_kept (show (putK st (i : Int) l).pend = [] from hp), secB_kept (show (putK st (i : Int) l).pend = [] from hp), secB_kept hp]
  show (((st.kept.set (i : Int).toNat l)[i]?).getD [] = l) ∧ (j ≠ i → ((st.kept.set (i : Int).toNat l)[j]?).getD [] = _)
  rw [Int.toNat_natCast]
  refine ⟨by rw [List.getElem?_set_self hi]; rfl, fun h => by rw [List.getElem?_set_ne (by omega)]⟩
theorem slotOk_same {st st' : Dk} {i : Nat} (h : secB st' i = secB st i) (hl : st'.kept.length = st.kept.length) (hz : st'.size = st.size) : slotOk st' i = slotOk st i ∧ slotB st' i = slotB st i := by
  have e : slotB st' i = slotB st i := by unfold slotB; rw [h]
  refine ⟨?_, e⟩
  unfold slotOk
  rw [h, e]
  unfold fitB
  rw [hl, hz]
end Go.Proofs.Ytcbnebcooiagmaa
namespace Go.Proofs.Ytcbnebcooiagmaa
open Go.RowKit
/-- What lies in a slot's sector is a block of the disk's shape, in its place. -/
def okN (l : List Int) (q : Int) (i : Nat) : Bool := decide (supDE l = 0) && (decide ((supD l).c0 = q) && (decide ((supD l).c1 = l.length) && decide ((supD l).ep % 2 = i)))
def newS (ls : Nat → List Int) (q : Int) : Nat → Bool
  | 0 => false
  | k + 1 => okN (ls k) q k || newS ls q k
def newB (ls : Nat → List Int) (q : Int) : Nat → Blk
  | 0 => blk0
  | k + 1 => if (okN (ls k) q k && (!newS ls q k || decide ((newB ls q k).ep < (supD (ls k)).ep))) = true then supD (ls k) else newB ls q k
theorem belowD {B : Nat} {a w : World} (h : Below B a w) (n : Nat) : Below B a (w.drewN n) := ⟨h.os, h.tape, h.output, h.size, h.block⟩
structure NwSt (w wr : World) (rb : Nat) (B : Blk) (x0 x1 : Value) : Prop where
  b : Below w.heap.size w wr
  res : wr.heap[rb]? = some (.cells #[.int .u64 0, .int .i64 0, .int .i64 0, .int .i64 0, .int .i64 0, .int .i64 0, .int .i64 0, .int .i64 0, .int .i64 0, .int .i64 0, .int .i64 0, .int .i64 0, .int .u64 0] 36 (0, 0))
  bst : wr.heap[rb + 1]? = some (.cells B.row 36 (0, 0))
  lst : wr.heap[rb + 2]? = some (.cells #[x0, x1] 29 (0, 0))
  lo : w.heap.size = rb
section
variable {w wr w1 : World} {rb : Nat} {B C : Blk} {x0 x1 : Value}
theorem NwSt.next (s : NwSt w wr rb B x0 x1) (hb : Below wr.heap.size wr w1) : NwSt w w1 rb B x0 x1 :=
  ⟨Below.call s.b hb, row_keep s.res hb, row_keep s.bst hb, row_keep s.lst hb, s.lo⟩
theorem NwSt.best (s : NwSt w wr rb B x0 x1) (L : List (Nat × Value)) (hL : L.foldl (fun c p => c.setIfInBounds p.1 p.2) B.row = C.row) : NwSt w (sets wr (rb + 1) L) rb C x0 x1 := by
  have hg := sets_grown (b := rb + 1) L wr
  refine ⟨Below.grown s.b hg s.b.size (fun k e => by injection e with e; have := s.lo; omega), (hg.block rb (Array.getElem?_eq_some_iff.1 s.res).1 (fun e => by injection e with e; omega)).trans s.res, by rw [← hL]; exact sets_row L s.bst, (hg.block (rb + 2) (Array.getElem?_eq_some_iff.1 s.lst).1 (fun e => by injection e with e; omega)).trans s.lst, s.lo⟩
theorem NwSt.fin {row : Array Value} (s : NwSt w wr rb B x0 x1) (L : List (Nat × Value)) (hL : L.foldl (fun c p => c.setIfInBounds p.1 p.2) #[.int .u64 0, .int .i64 0, .int .i64 0, .int .i64 0, .int .i64 0, .int .i64 0, .int .i64 0, .int .i64 0, .int .i64 0, .int .i64 0, .int .i64 0, .int .i64 0, .int .u64 0] = row) : (sets wr rb L).heap[rb]? = some (.cells row 36 (0, 0)) ∧ Below w.heap.size w (sets wr rb L) := by
  have hg := sets_grown (b := rb) L wr
  exact ⟨by rw [← hL]; exact sets_row L s.res, Below.grown s.b hg s.b.size (fun k e => by injection e with e; have := s.lo; omega)⟩
theorem NwSt.lst_at (s : NwSt w wr rb B x0 x1) : wr.cell? ⟨rb + 2, 0, none⟩ = some x0 ∧ wr.cell? ⟨rb + 2, 1, none⟩ = some x1 := by
  have h := s.lst
  exact ⟨by simp [World.cell?, h], by simp [World.cell?, h]⟩
end
set_option linter.unusedSimpArgs false in
set_option linter.unusedVariables false in
set_option maxRecDepth 100000 in
set_option maxHeartbeats 1600000 in
theorem newest_any (ax : Nat → Option Addr) (nx cx : Nat → Nat) (ls : Nat → List Int) (q : Int) (w : World) (hr : ∀ k, k < 2 → RdAt .u8 w (ax k) (nx k) (cx k) (ls k)) (hn : ∀ k, k < 2 → nx k ≤ 100000) :
    Calls Try.prog 32 #[.slice (ax 0) (nx 0) (cx 0), .slice (ax 1) (nx 1) (cx 1), .int .i64 q] w fun e w' => e = .returned (.tuple #[(newB ls q 2).val, .bool (newS ls q 2)]) ∧ Below w.heap.size w w' := by
  have HR := Lib.hid hr
  have HN := Lib.hid hn
  clear hr hn
  have hba : Below w.heap.size w (((w.alloc (.cells #[.int .u64 0, .int .i64 0, .int .i64 0, .int .i64 0, .int .i64 0, .int .i64 0, .int .i64 0, .int .i64 0, .int .i64 0, .int .i64 0, .int .i64 0, .int .i64 0, .int .u64 0] 36)).alloc (.cells #[.int .u64 0, .int .i64 0, .int .i64 0, .int .i64 0, .int .i64 0, .int .i64 0, .int .i64 0, .int .i64 0, .int .i64 0, .int .i64 0, .int .i64 0, .int .i64 0, .int .u64 0] 36)).alloc (.cells #[.slice (ax 0) (nx 0) (cx 0), .slice (ax 1) (nx 1) (cx 1)] 29)) := (((Below.refl _ _).alloc (Nat.le_refl _) _).alloc (by simp) _).alloc (by simp; omega) _
  have hrb : (((w.alloc (.cells #[.int .u64 0, .int .i64 0, .int .i64 0, .int .i64 0, .int .i64 0, .int .i64 0, .int .i64 0, .int .i64 0, .int .i64 0, .int .i64 0, .int .i64 0, .int .i64 0, .int .u64 0] 36)).alloc (.cells #[.int .u64 0, .int .i64 0, .int .i64 0, .int .i64 0, .int .i64 0, .int .i64 0, .int .i64 0, .int .i64 0, .int .i64 0, .int .i64 0, .int .i64 0, .int .i64 0, .int .u64 0] 36)).alloc (.cells #[.slice (ax 0) (nx 0) (cx 0), .slice (ax 1) (nx 1) (cx 1)] 29)).heap[w.heap.size]? = some (.cells #[.int .u64 0, .int .i64 0, .int .i64 0, .int .i64 0, .int .i64 0, .int .i64 0, .int .i64 0, .int .i64 0, .int .i64 0, .int .i64 0, .int .i64 0, .int .i64 0, .int .u64 0] 36 (0, 0)) := by
    rw [heap_old _ _ (by simp; omega), heap_old _ _ (by simp)]
    exact heap_alloc_new _ _
  have hmb : (((w.alloc (.cells #[.int .u64 0, .int .i64 0, .int .i64 0, .int .i64 0, .int .i64 0, .int .i64 0, .int .i64 0, .int .i64 0, .int .i64 0, .int .i64 0, .int .i64 0, .int .i64 0, .int .u64 0] 36)).alloc (.cells #[.int .u64 0, .int .i64 0, .int .i64 0, .int .i64 0, .int .i64 0, .int .i64 0, .int .i64 0, .int .i64 0, .int .i64 0, .int .i64 0, .int .i64 0, .int .i64 0, .int .u64 0] 36)).alloc (.cells #[.slice (ax 0) (nx 0) (cx 0), .slice (ax 1) (nx 1) (cx 1)] 29)).heap[w.heap.size + 1]? = some (.cells #[.int .u64 0, .int .i64 0, .int .i64 0, .int .i64 0, .int .i64 0, .int .i64 0, .int .i64 0, .int .i64 0, .int .i64 0, .int .i64 0, .int .i64 0, .int .i64 0, .int .u64 0] 36 (0, 0)) := by
    rw [heap_old _ _ (by simp)]
    have := heap_alloc_new (w.alloc (.cells #[.int .u64 0, .int .i64 0, .int .i64 0, .int .i64 0, .int .i64 0, .int .i64 0, .int .i64 0, .int .i64 0, .int .i64 0, .int .i64 0, .int .i64 0, .int .i64 0, .int .u64 0] 36)) (.cells #[.int .u64 0, .int .i64 0, .int .i64 0, .int .i64 0, .int .i64 0, .int .i64 0, .int .i64 0, .int .i64 0, .int .i64 0, .int .i64 0, .int .i64 0, .int .i64 0, .int .u64 0] 36)
    simpa using this
  have hlb : (((w.alloc (.cells #[.int .u64 0, .int .i64 0, .int .i64 0, .int .i64 0, .int .i64 0, .int .i64 0, .int .i64 0, .int .i64 0, .int .i64 0, .int .i64 0, .int .i64 0, .int .i64 0, .int .u64 0] 36)).alloc (.cells #[.int .u64 0, .int .i64 0, .int .i64 0, .int .i64 0, .int .i64 0, .int .i64 0, .int .i64 0, .int .i64 0, .int .i64 0, .int .i64 0, .int .i64 0, .int .i64 0, .int .u64 0] 36)).alloc (.cells #[.slice (ax 0) (nx 0) (cx 0), .slice (ax 1) (nx 1) (cx 1)] 29)).heap[w.heap.size + 2]? = some (.cells #[.slice (ax 0) (nx 0) (cx 0), .slice (ax 1) (nx 1) (cx 1)] 29 (0, 0)) := by
    have := heap_alloc_new ((w.alloc (.cells #[.int .u64 0, .int .i64 0, .int .i64 0, .int .i64 0, .int .i64 0, .int .i64 0, .int .i64 0, .int .i64 0, .int .i64 0, .int .i64 0, .int .i64 0, .int .i64 0, .int .u64 0] 36)).alloc (.cells #[.int .u64 0, .int .i64 0, .int .i64 0, .int .i64 0, .int .i64 0, .int .i64 0, .int .i64 0, .int .i64 0, .int .i64 0, .int .i64 0, .int .i64 0, .int .i64 0, .int .u64 0] 36)) (.cells #[.slice (ax 0) (nx 0) (cx 0), .slice (ax 1) (nx 1) (cx 1)] 29)
    simpa using this
  obtain ⟨wa, hwa⟩ : ∃ wa, (((w.alloc (.cells #[.int .u64 0, .int .i64 0, .int .i64 0, .int .i64 0, .int .i64 0, .int .i64 0, .int .i64 0, .int .i64 0, .int .i64 0, .int .i64 0, .int .i64 0, .int .i64 0, .int .u64 0] 36)).alloc (.cells #[.int .u64 0, .int .i64 0, .int .i64 0, .int .i64 0, .int .i64 0, .int .i64 0, .int .i64 0, .int .i64 0, .int .i64 0, .int .i64 0, .int .i64 0, .int .i64 0, .int .u64 0] 36)).alloc (.cells #[.slice (ax 0) (nx 0) (cx 0), .slice (ax 1) (nx 1) (cx 1)] 29)) = wa := ⟨_, rfl⟩
  obtain ⟨rb, hhb⟩ : ∃ rb, w.heap.size = rb := ⟨_, rfl⟩
  rw [hwa] at hba hrb hmb hlb
  rw [hhb] at hrb hmb hlb
  have hst0 : NwSt w wa rb blk0 (.slice (ax 0) (nx 0) (cx 0)) (.slice (ax 1) (nx 1) (cx 1)) := ⟨hba, hrb, hmb, hlb, hhb⟩
  have ST0 := Lib.hid hst0
  have HHB := Lib.hid hhb
  have HWA := Lib.hid hwa
  clear hba hrb hmb hlb hhb hwa hst0
  go_enter Try.func32, Try.ntmps32
  go_wp2_with fail
  rw [HWA.out, HHB.out]
  go_loopw [9, 11] (fun sm i wr => ∃ k : Nat, k ≤ 2 ∧ i = .int .i64 k ∧ sm = .bool (newS ls q k) ∧ Hid (NwSt w wr rb (newB ls q k) (.slice (ax 0) (nx 0) (cx 0)) (.slice (ax 1) (nx 1) (cx 1)))) (fun _ i _ => 2 - (intOf i).toNat)
  case atStart => exact ⟨0, by omega, rfl, rfl, ST0⟩
  case round =>
    clear ST0
    obtain ⟨k, hk, rfl, rfl, ST⟩ := hrel
    obtain ⟨SM, hSM⟩ : ∃ x, newS ls q k = x := ⟨_, rfl⟩
    obtain ⟨BB, hBB⟩ : ∃ x, newB ls q k = x := ⟨_, rfl⟩
    rw [hSM]
    rw [hBB] at ST
    have HSM := Lib.hid hSM
    have HBB := Lib.hid hBB
    clear hSM hBB
    by_cases hkn : k < 2
    · have hrd := (HR.out k hkn).below ST.out.b
      have hnk := HN.out k hkn
      have hcell : wr.cell? ⟨rb + 2, k, none⟩ = some (.slice (ax k) (nx k) (cx k)) := by
        rcases (by omega : k = 0 ∨ k = 1) with rfl | rfl
        · exact ST.out.lst_at.1
        · exact ST.out.lst_at.2
      have hlen := hrd.len
      have hbyt := hrd.bytes
      have hnext : newS ls q (k + 1) = (okN (ls k) q k || SM) ∧ newB ls q (k + 1) = if (okN (ls k) q k && (!SM || decide (BB.ep < (supD (ls k)).ep))) = true then supD (ls k) else BB := by
        rw [newS, newB, HSM.out, HBB.out]
        exact ⟨rfl, rfl⟩
      obtain ⟨V, hV⟩ : ∃ V, ls k = V := ⟨_, rfl⟩
      obtain ⟨ak, hak⟩ : ∃ x, ax k = x := ⟨_, rfl⟩
      obtain ⟨nk, hnk2⟩ : ∃ x, nx k = x := ⟨_, rfl⟩
      obtain ⟨ck, hck⟩ : ∃ x, cx k = x := ⟨_, rfl⟩
      have HCL : Hid (∀ (wz : World) (B : Blk), NwSt w wz rb B (.slice (ax 0) (nx 0) (cx 0)) (.slice (ax 1) (nx 1) (cx 1)) → wz.cell? ⟨rb + 2, k, none⟩ = some (.slice ak nk ck)) := fun wz B s => by
        rw [← hak, ← hnk2, ← hck]
        rcases (by omega : k = 0 ∨ k = 1) with rfl | rfl
        · exact s.lst_at.1
        · exact s.lst_at.2
      rw [hV] at hrd hlen hbyt hnext
      rw [hak, hnk2, hck] at hrd hcell
      rw [hnk2] at hnk hlen
      have HNX := Lib.hid hnext
      have RD := Lib.hid hrd
      have HLEN := Lib.hid hlen
      have HREF := Lib.hid (sup_ref hbyt)
      have HBY := Lib.hid hbyt
      clear hnext hrd hlen hbyt hV hak hnk2 hck
      go_wp2_with fail
      refine (refdec_any ak nk ck V wr RD.out hnk).mono ?_
      rintro e w2 ⟨rfl, hb2⟩
      rw [← HREF.out.1, ← HREF.out.2]
      have ST2 := Lib.hid (ST.out.next hb2)
      have RD2 := Lib.hid (RD.out.below hb2)
      obtain ⟨E2, hE2⟩ : ∃ x, supDE V = x := ⟨_, rfl⟩
      obtain ⟨C2, hC2⟩ : ∃ x, supD V = x := ⟨_, rfl⟩
      have hwf : E2 = 0 → 0 ≤ C2.ep ∧ C2.ep ≤ 18446744073709551615 := fun h => by
        rw [← hC2]
        exact (supD_yes HBY.out (by rw [hE2, h])).1.ep
      have hsl : okN V q k = (decide (E2 = 0) && (decide (C2.c0 = q) && (decide (C2.c1 = (nk : Int)) && decide (C2.ep % 2 = k)))) := by unfold okN; rw [hE2, hC2, HLEN.out]
      rw [hE2, hC2]
      rw [hC2] at HNX
      have HWF := Lib.hid hwf
      have HSL := Lib.hid hsl
      clear hb2 hE2 hC2 hwf hsl ST RD hcell
      obtain ⟨e9, g0, g1, g2, g3, g4, g5, g6, g7, g8, gs, gn, gq⟩ := C2
      rw [show (⟨e9, g0, g1, g2, g3, g4, g5, g6, g7, g8, gs, gn, gq⟩ : Blk).val = .agg #[.int .u64 e9, .int .i64 g0, .int .i64 g1, .int .i64 g2, .int .i64 g3, .int .i64 g4, .int .i64 g5, .int .i64 g6, .int .i64 g7, .int .i64 g8, .int .i64 gs, .int .i64 gn, .int .u64 gq] from rfl]
      have hal := (Below.refl w2.heap.size w2).alloc (Nat.le_refl _) (.cells #[.int .u64 e9, .int .i64 g0, .int .i64 g1, .int .i64 g2, .int .i64 g3, .int .i64 g4, .int .i64 g5, .int .i64 g6, .int .i64 g7, .int .i64 g8, .int .i64 gs, .int .i64 gn, .int .u64 gq] 36)
      have ST3 := Lib.hid (ST2.out.next hal)
      have RD3 := Lib.hid (RD2.out.below hal)
      have hxr := heap_alloc_new w2 (.cells #[.int .u64 e9, .int .i64 g0, .int .i64 g1, .int .i64 g2, .int .i64 g3, .int .i64 g4, .int .i64 g5, .int .i64 g6, .int .i64 g7, .int .i64 g8, .int .i64 gs, .int .i64 gn, .int .u64 gq] 36)
      obtain ⟨w3, hw3⟩ : ∃ w3, w2.alloc (.cells #[.int .u64 e9, .int .i64 g0, .int .i64 g1, .int .i64 g2, .int .i64 g3, .int .i64 g4, .int .i64 g5, .int .i64 g6, .int .i64 g7, .int .i64 g8, .int .i64 gs, .int .i64 gn, .int .u64 gq] 36) = w3 := ⟨_, rfl⟩
      obtain ⟨xb, hxb⟩ : ∃ xb, w2.heap.size = xb := ⟨_, rfl⟩
      rw [hw3] at ST3 hxr RD3
      rw [hxb] at hxr
      have XR3 := Lib.hid hxr
      clear hal hxr ST2 RD2
      have HW3 := Lib.hid hw3
      have HXB := Lib.hid hxb
      clear hw3 hxb
      by_cases h1 : E2 = 0
      rotate_left
      · have d1 : (E2 != 0) = true := by simpa using h1
        have HS1 : Hid (okN V q k = false) := by show _ = _; rw [HSL.out, decide_eq_false h1]; rfl
        clear h1
        obtain ⟨r0, r1, r2, r3, r4, r5, r6, r7, r8, r9, r10, r11, r12⟩ := cells13 XR3.out
        have hcell := HCL.out w3 _ ST3.out
        go_wp2_with (first | (rw [HW3.out, HXB.out]) | fail)
        go_quiet (fail)
        go_wp2_with fail
        have ST4 := Lib.hid (ST3.out.next (belowD (Below.refl _ _) nq))
        have HN : Hid (newS ls q (k + 1) = SM ∧ newB ls q (k + 1) = BB) := by
          show _ ∧ _
          rw [HNX.out.1, HNX.out.2, HS1.out]
          exact ⟨rfl, rfl⟩
        clear r0 r1 r2 r3 r4 r5 r6 r7 r8 r9 r10 r11 r12 hcell
        go_roundw
        case rel => exact ⟨k + 1, by omega, by go_num, by rw [HN.out.1], by rw [HN.out.2]; exact ST4⟩
        case measure => simp [intOf] <;> omega
      subst h1
      have HWF1 := Lib.hid (HWF.out rfl)
      obtain ⟨he1, he2⟩ := HWF1.out
      replace he1 : 0 ≤ e9 := he1
      replace he2 : e9 ≤ 18446744073709551615 := he2
      have hm2 : 0 ≤ e9 % 2 ∧ e9 % 2 ≤ 1 := by omega
      have ht2 : e9.tmod 2 = e9 % 2 := Int.tmod_eq_emod_of_nonneg he1
      have hw2 : IntKind.i64.wrap (e9 % 2) = e9 % 2 := IntWalk.i64_in _ (by omega)
      by_cases h2 : g0 = q
      rotate_left
      · have d2 : (g0 != q) = true := by simpa using h2
        have HS1 : Hid (okN V q k = false) := by show _ = _; rw [HSL.out, decide_eq_false (show ¬ (⟨e9, g0, g1, g2, g3, g4, g5, g6, g7, g8, gs, gn, gq⟩ : Blk).c0 = q from h2)]; rfl
        clear h2
        obtain ⟨r0, r1, r2, r3, r4, r5, r6, r7, r8, r9, r10, r11, r12⟩ := cells13 XR3.out
        have hcell := HCL.out w3 _ ST3.out
        go_wp2_with (first | (rw [HW3.out, HXB.out]) | fail)
        go_quiet (fail)
        go_wp2_with fail
        have ST4 := Lib.hid (ST3.out.next (belowD (Below.refl _ _) nq))
        have HN : Hid (newS ls q (k + 1) = SM ∧ newB ls q (k + 1) = BB) := by
          show _ ∧ _
          rw [HNX.out.1, HNX.out.2, HS1.out]
          exact ⟨rfl, rfl⟩
        clear r0 r1 r2 r3 r4 r5 r6 r7 r8 r9 r10 r11 r12 hcell
        go_roundw
        case rel => exact ⟨k + 1, by omega, by go_num, by rw [HN.out.1], by rw [HN.out.2]; exact ST4⟩
        case measure => simp [intOf] <;> omega
      have d2 : (g0 != q) = false := by simpa using h2
      have H2 := Lib.hid h2
      clear h2
      by_cases h3 : g1 = (nk : Int)
      rotate_left
      · have d3 : (g1 != (nk : Int)) = true := by simpa using h3
        have HS1 : Hid (okN V q k = false) := by show _ = _; rw [HSL.out, decide_eq_false (show ¬ (⟨e9, g0, g1, g2, g3, g4, g5, g6, g7, g8, gs, gn, gq⟩ : Blk).c1 = (nk : Int) from h3)]; simp
        clear h3
        obtain ⟨r0, r1, r2, r3, r4, r5, r6, r7, r8, r9, r10, r11, r12⟩ := cells13 XR3.out
        have hcell := HCL.out w3 _ ST3.out
        go_wp2_with (first | (rw [HW3.out, HXB.out]) | fail)
        go_quiet (fail)
        go_wp2_with fail
        have ST4 := Lib.hid (ST3.out.next (belowD (Below.refl _ _) nq))
        have HN : Hid (newS ls q (k + 1) = SM ∧ newB ls q (k + 1) = BB) := by
          show _ ∧ _
          rw [HNX.out.1, HNX.out.2, HS1.out]
          exact ⟨rfl, rfl⟩
        clear r0 r1 r2 r3 r4 r5 r6 r7 r8 r9 r10 r11 r12 hcell
        go_roundw
        case rel => exact ⟨k + 1, by omega, by go_num, by rw [HN.out.1], by rw [HN.out.2]; exact ST4⟩
        case measure => simp [intOf] <;> omega
      have d3 : (g1 != (nk : Int)) = false := by simpa using h3
      have H3 := Lib.hid h3
      clear h3
      by_cases h4 : e9 % 2 = (k : Int)
      rotate_left
      · have d4 : (e9 % 2 != (k : Int)) = true := by simpa using h4
        have HS1 : Hid (okN V q k = false) := by show _ = _; rw [HSL.out, decide_eq_false (show ¬ (⟨e9, g0, g1, g2, g3, g4, g5, g6, g7, g8, gs, gn, gq⟩ : Blk).ep % 2 = (k : Int) from h4)]; simp
        clear h4
        obtain ⟨r0, r1, r2, r3, r4, r5, r6, r7, r8, r9, r10, r11, r12⟩ := cells13 XR3.out
        have hcell := HCL.out w3 _ ST3.out
        go_wp2_with (first | (rw [HW3.out, HXB.out]) | fail)
        go_quiet (fail)
        go_wp2_with fail
        have ST4 := Lib.hid (ST3.out.next (belowD (Below.refl _ _) nq))
        have HN : Hid (newS ls q (k + 1) = SM ∧ newB ls q (k + 1) = BB) := by
          show _ ∧ _
          rw [HNX.out.1, HNX.out.2, HS1.out]
          exact ⟨rfl, rfl⟩
        clear r0 r1 r2 r3 r4 r5 r6 r7 r8 r9 r10 r11 r12 hcell
        go_roundw
        case rel => exact ⟨k + 1, by omega, by go_num, by rw [HN.out.1], by rw [HN.out.2]; exact ST4⟩
        case measure => simp [intOf] <;> omega
      have d4 : (e9 % 2 != (k : Int)) = false := by simpa using h4
      have HS2 : Hid (okN V q k = true) := by show _ = _; rw [HSL.out, decide_eq_true (show (⟨e9, g0, g1, g2, g3, g4, g5, g6, g7, g8, gs, gn, gq⟩ : Blk).c0 = q from H2.out), decide_eq_true (show (⟨e9, g0, g1, g2, g3, g4, g5, g6, g7, g8, gs, gn, gq⟩ : Blk).c1 = (nk : Int) from H3.out), decide_eq_true (show (⟨e9, g0, g1, g2, g3, g4, g5, g6, g7, g8, gs, gn, gq⟩ : Blk).ep % 2 = (k : Int) from h4)]; rfl
      clear h4
      obtain ⟨r0, r1, r2, r3, r4, r5, r6, r7, r8, r9, r10, r11, r12⟩ := cells13 XR3.out
      have hcell := HCL.out w3 _ ST3.out
      go_wp2_with (first | (rw [HW3.out, HXB.out]) | fail)
      go_quiet (fail)
      obtain ⟨w4, hw4⟩ : ∃ z, w3.drewN nq = z := ⟨_, rfl⟩
      rw [hw4]
      have ST4 := Lib.hid (ST3.out.next (belowD (Below.refl _ _) nq))
      have XR4 := Lib.hid (row_keep XR3.out (belowD (Below.refl w3.heap.size w3) nq))
      rw [hw4] at ST4 XR4
      clear hw4 r0 r1 r2 r3 r4 r5 r6 r7 r8 r9 r10 r11 r12 hcell ST3 XR3
      obtain ⟨r0, r1, r2, r3, r4, r5, r6, r7, r8, r9, r10, r11, r12⟩ := cells13 XR4.out
      cases SM with
      | false =>
        obtain ⟨q0, q1, q2, q3, q4, q5, q6, q7, q8, q9, q10, q11, q12⟩ := cells13 ST4.out.bst
        have hbf : ∀ i, w4.frozen? ⟨rb + 1, i, none⟩ = false := fun i => frozen_of_row w4 (rb + 1) i _ _ ST4.out.bst
        go_wp2_with fail
        have ST5 := Lib.hid (ST4.out.best (C := ⟨e9, g0, g1, g2, g3, g4, g5, g6, g7, g8, gs, gn, gq⟩) [(0, .int .u64 e9), (1, .int .i64 g0), (2, .int .i64 g1), (3, .int .i64 g2), (4, .int .i64 g3), (5, .int .i64 g4), (6, .int .i64 g5), (7, .int .i64 g6), (8, .int .i64 g7), (9, .int .i64 g8), (10, .int .i64 gs), (11, .int .i64 gn), (12, .int .u64 gq)] (by unfold Blk.row; exact fold13 _ _ _ _ _ _ _ _ _ _ _ _ _ _ _ _ _ _ _ _ _ _ _ _ _ _))
        have HN : Hid (newS ls q (k + 1) = true ∧ newB ls q (k + 1) = ⟨e9, g0, g1, g2, g3, g4, g5, g6, g7, g8, gs, gn, gq⟩) := by
          show _ ∧ _
          rw [HNX.out.1, HNX.out.2, HS2.out]
          exact ⟨rfl, rfl⟩
        clear r0 r1 r2 r3 r4 r5 r6 r7 r8 r9 r10 r11 r12 q0 q1 q2 q3 q4 q5 q6 q7 q8 q9 q10 q11 q12 hbf
        go_roundw
        case rel => exact ⟨k + 1, by omega, by go_num, by rw [HN.out.1], by rw [HN.out.2]; exact ST5⟩
        case measure => simp [intOf] <;> omega
      | true =>
        obtain ⟨m0, n0, n1, n2, n3, n4, n5, n6, n7, n8, ns, nn, nq⟩ := BB
        obtain ⟨q0, q1, q2, q3, q4, q5, q6, q7, q8, q9, q10, q11, q12⟩ := cells13 ST4.out.bst
        obtain ⟨D, hD⟩ : ∃ D : Bool, decide (m0 < e9) = D := ⟨_, rfl⟩
        have HN1 : Hid (newS ls q (k + 1) = true ∧ newB ls q (k + 1) = if D = true then ⟨e9, g0, g1, g2, g3, g4, g5, g6, g7, g8, gs, gn, gq⟩ else ⟨m0, n0, n1, n2, n3, n4, n5, n6, n7, n8, ns, nn, nq⟩) := by
          show _ ∧ _
          rw [HNX.out.1, HNX.out.2, HS2.out, ← hD]
          exact ⟨rfl, by simp⟩
        cases D with
        | true =>
          have hbf : ∀ i, w4.frozen? ⟨rb + 1, i, none⟩ = false := fun i => frozen_of_row w4 (rb + 1) i _ _ ST4.out.bst
          go_wp2_with fail
          have ST5 := Lib.hid (ST4.out.best (C := ⟨e9, g0, g1, g2, g3, g4, g5, g6, g7, g8, gs, gn, gq⟩) [(0, .int .u64 e9), (1, .int .i64 g0), (2, .int .i64 g1), (3, .int .i64 g2), (4, .int .i64 g3), (5, .int .i64 g4), (6, .int .i64 g5), (7, .int .i64 g6), (8, .int .i64 g7), (9, .int .i64 g8), (10, .int .i64 gs), (11, .int .i64 gn), (12, .int .u64 gq)] (by unfold Blk.row; exact fold13 _ _ _ _ _ _ _ _ _ _ _ _ _ _ _ _ _ _ _ _ _ _ _ _ _ _))
          clear r0 r1 r2 r3 r4 r5 r6 r7 r8 r9 r10 r11 r12 q0 q1 q2 q3 q4 q5 q6 q7 q8 q9 q10 q11 q12 hbf
          go_roundw
          case rel => exact ⟨k + 1, by omega, by go_num, by rw [HN1.out.1], by rw [HN1.out.2]; exact ST5⟩
          case measure => simp [intOf] <;> omega
        | false =>
          go_wp2_with fail
          go_roundw
          case rel => exact ⟨k + 1, by omega, by go_num, by rw [HN1.out.1], by rw [HN1.out.2]; exact ST4⟩
          case measure => simp [intOf] <;> omega
    · obtain rfl : k = 2 := by omega
      obtain ⟨m0, n0, n1, n2, n3, n4, n5, n6, n7, n8, ns, nn, nq⟩ := BB
      obtain ⟨q0, q1, q2, q3, q4, q5, q6, q7, q8, q9, q10, q11, q12⟩ := cells13 ST.out.bst
      obtain ⟨r0, r1, r2, r3, r4, r5, r6, r7, r8, r9, r10, r11, r12⟩ := cells13 ST.out.res
      have hrf : ∀ i, wr.frozen? ⟨rb, i, none⟩ = false := fun i => frozen_of_row wr rb i _ _ ST.out.res
      go_wp2_with fail
      change bodyPost _ _ _ _ _ (sets wr rb [(0, .int .u64 m0), (1, .int .i64 n0), (2, .int .i64 n1), (3, .int .i64 n2), (4, .int .i64 n3), (5, .int .i64 n4), (6, .int .i64 n5), (7, .int .i64 n6), (8, .int .i64 n7), (9, .int .i64 n8), (10, .int .i64 ns), (11, .int .i64 nn), (12, .int .u64 nq)])
      obtain ⟨hrow, hbl⟩ := ST.out.fin [(0, .int .u64 m0), (1, .int .i64 n0), (2, .int .i64 n1), (3, .int .i64 n2), (4, .int .i64 n3), (5, .int .i64 n4), (6, .int .i64 n5), (7, .int .i64 n6), (8, .int .i64 n7), (9, .int .i64 n8), (10, .int .i64 ns), (11, .int .i64 nn), (12, .int .u64 nq)] (fold13 _ _ _ _ _ _ _ _ _ _ _ _ _ _ _ _ _ _ _ _ _ _ _ _ _ _)
      generalize sets wr rb [(0, .int .u64 m0), (1, .int .i64 n0), (2, .int .i64 n1), (3, .int .i64 n2), (4, .int .i64 n3), (5, .int .i64 n4), (6, .int .i64 n5), (7, .int .i64 n6), (8, .int .i64 n7), (9, .int .i64 n8), (10, .int .i64 ns), (11, .int .i64 nn), (12, .int .u64 nq)] = w19 at *
      clear r0 r1 r2 r3 r4 r5 r6 r7 r8 r9 r10 r11 r12 q0 q1 q2 q3 q4 q5 q6 q7 q8 q9 q10 q11 q12 hrf
      obtain ⟨r0, r1, r2, r3, r4, r5, r6, r7, r8, r9, r10, r11, r12⟩ := cells13 hrow
      refine bodyPost_ret (v := .tuple #[.agg #[.int .u64 m0, .int .i64 n0, .int .i64 n1, .int .i64 n2, .int .i64 n3, .int .i64 n4, .int .i64 n5, .int .i64 n6, .int .i64 n7, .int .i64 n8, .int .i64 ns, .int .i64 nn, .int .u64 nq], .bool SM]) (by simp [results, Try.results32, go_sem, r0, r1, r2, r3, r4, r5, r6, r7, r8, r9, r10, r11, r12]) rfl ?_
      rw [HSM.out, HBB.out]
      exact ⟨rfl, hbl⟩
end Go.Proofs.Ytcbnebcooiagmaa
namespace Go.Proofs.Ytcbnebcooiagmaa
open Go.RowKit
/-- The k-th block. -/
def tB (first seq : Int) (k : Nat) : Blk := shB (first + k) ((seq + k) % 18446744073709551616)
/-- The disk when k blocks have been written. -/
structure TurnSt (first seq : Int) (st : Dk) (k : Nat) : Prop where
  off : st.off = false
  arm : st.armed = 0
  pend : st.pend = []
  len : st.kept.length = 40
  size : st.size = 128
  wr : st.writes = k
  rd : st.reads ≤ 3 * k
  last : ∀ m, k = m + 1 → secB st ((first + m) % 2).toNat = supV (tB first seq m)
  zero : k = 0 → secB st ((first + 1) % 2).toNat = List.replicate 128 0
theorem TurnSt.start (first seq : Int) : TurnSt first seq K0 0 := by
  refine ⟨rfl, rfl, rfl, ?_, rfl, rfl, Int.le_refl _, fun m h => by omega, fun _ => ?_⟩
  · show (List.replicate 40 (List.replicate 128 (0 : Int))).length = 40
    rw [List.length_replicate]
  · rw [secB_kept rfl]
    show ((List.replicate 40 (List.replicate 128 (0 : Int)))[((first + 1) % 2).toNat]?).getD [] = _
    rw [List.getElem?_replicate, if_pos (by omega)]
    rfl
theorem tB_wf {first seq : Int} {k : Nat} (h1 : 0 ≤ first) (h2 : first ≤ 4611686018427387904) (hk : k < 40) : (tB first seq k).Wf := sh_wf ⟨by omega, by omega⟩ ⟨by omega, by omega⟩
theorem tB_ok (first seq : Int) (k : Nat) : supE (tB first seq k) = 0 := sh_ok _ _
/-- What one turn does. -/
structure TurnStep (first seq : Int) (st st1 : Dk) (k : Nat) : Prop where
  we : supWE st (tB first seq k) = 0
  ws : supWS st (tB first seq k) = st1
  len : 2 ≤ st1.kept.length
  rd : st1.reads + 3 ≤ 4611686018427387904
  re : supRE st1 = 0
  rb : supRB st1 = tB first seq k
  rs : supRS st1 = readN st1 2
  one : k = 0 → TurnSt first seq (readN st1 2) 1
  sv : ∀ m, k = m + 1 → rdV (readN st1 2) (1 - (first + k) % 2) = supV (tB first seq m)
  ss : ∀ m, k = m + 1 → TurnSt first seq (rdS (readN st1 2) (1 - (first + k) % 2)) (k + 1)
theorem TurnSt.step {first seq : Int} {st : Dk} {k : Nat} (s : TurnSt first seq st k) (h1 : 0 ≤ first) (h2 : first ≤ 4611686018427387904) (hk : k < 40) : ∃ st1, TurnStep first seq st st1 k := by
  obtain ⟨b, hb⟩ : ∃ b, tB first seq k = b := ⟨_, rfl⟩
  have hw : b.Wf := by rw [← hb]; exact tB_wf h1 h2 hk
  have he : supE b = 0 := by rw [← hb]; exact tB_ok _ _ _
  have hf : ∀ st' : Dk, st'.kept.length = 40 → st'.size = 128 → ∀ m, fitB st' (tB first seq m) = true := fun st' a c m => by
    unfold fitB
    rw [a, c]
    rfl
  have hep : b.ep = first + k := by rw [← hb]; rfl
  obtain ⟨i, hi⟩ : ∃ i : Nat, ((first + k) % 2).toNat = i := ⟨_, rfl⟩
  obtain ⟨j, hj⟩ : ∃ j : Nat, ((first + k + 1) % 2).toNat = j := ⟨_, rfl⟩
  have hij : i + j = 1 := by omega
  have hie : b.ep % 2 = i := by rw [hep]; omega
  obtain ⟨w1, w2⟩ := wrote s.pend he (by rw [← hb]; exact hf st s.len s.size k) s.off (by rw [s.arm]; decide)
  obtain ⟨st1, hst1⟩ : ∃ st1, putK st (b.ep % 2) (supV b) = st1 := ⟨_, rfl⟩
  have hl1 : st1.kept.length = 40 := by rw [← hst1]; show (st.kept.set _ _).length = 40; rw [List.length_set, s.len]
  have hz1 : st1.size = 128 := by rw [← hst1]; exact s.size
  have ho1 : st1.off = false := by rw [← hst1]; exact s.off
  have ha1 : st1.armed = 0 := by rw [← hst1]; show (if st.armed = 0 then 0 else st.armed - 1) = 0; rw [if_pos s.arm]
  have hp1 : st1.pend = [] := by rw [← hst1]; exact s.pend
  have hw1 : st1.writes = k + 1 := by rw [← hst1]; show st.writes + 1 = _; rw [s.wr]
  have hr1 : st1.reads ≤ 3 * k := by rw [← hst1]; exact s.rd
  obtain ⟨p1, p2⟩ := putK_at (st := st) (i := i) (j := j) (l := supV b) s.pend (by rw [s.len]; omega) (b.ep % 2) hie
  rw [hst1] at p1 p2
  replace p2 := p2 (by omega)
  obtain ⟨q1, q2⟩ := slot_of p1 hw he (by rw [← hb]; exact hf st1 hl1 hz1 k) hie
  have hother : ∀ m, k = m + 1 → secB st1 j = supV (tB first seq m) := fun m hm => by
    rw [p2, ← s.last m hm]
    congr 2
    omega
  have hjs : slotOk st1 j = false ∨ (slotB st1 j).ep < b.ep := by
    cases k with
    | zero =>
      left
      refine slot_zero (n := 128) ?_
      rw [p2, ← s.zero rfl]
      congr 1
      omega
    | succ m =>
      right
      obtain ⟨_, r2⟩ := slot_of (hother m rfl) (tB_wf h1 h2 (by omega)) (tB_ok _ _ _) (hf st1 hl1 hz1 m) (show (first + (m : Int)) % 2 = j by omega)
      rw [r2, hep]
      show first + (m : Int) < _
      omega
  obtain ⟨e1, e2, e3⟩ := read_two ho1 hij q1 q2 hjs
  have hin : ∀ m, k = m + 1 → rdE (readN st1 2) (1 - (first + k) % 2) = 0 ∧ (1 - (first + (k : Int)) % 2).toNat = j := fun m hm => by
    refine ⟨?_, by omega⟩
    have hi2 : inS (readN st1 2) (1 - (first + k) % 2) = true := by
      unfold inS
      rw [decide_eq_true (show (0 : Int) ≤ 1 - (first + k) % 2 by omega), decide_eq_true (show 1 - (first + (k : Int)) % 2 < ((readN st1 2).kept.length : Int) by show _ < (st1.kept.length : Int); rw [hl1]; omega)]
      rfl
    unfold rdE
    rw [hi2]
    show (if st1.off = true then (8 : Int) else _) = 0
    rw [ho1]
    rfl
  have hnext : ∀ (c : Int), c ≤ 3 → TurnSt first seq { st1 with reads := st1.reads + c } (k + 1) := fun c hc => by
    refine ⟨ho1, ha1, hp1, hl1, hz1, by show st1.writes = _; rw [hw1]; rfl, by show st1.reads + c ≤ _; omega, fun m hm => ?_, fun h => by omega⟩
    obtain rfl : m = k := by omega
    rw [hi, hb]
    exact p1
  refine ⟨st1, by rw [hb]; exact w1, by rw [hb, w2, hst1], by omega, by omega, e1, by rw [hb]; exact e2, e3, fun h => ?_, fun m hm => ?_, fun m hm => ?_⟩
  · have := hnext 2 (by omega)
    rw [h] at this
    exact this
  · obtain ⟨x1, x2⟩ := hin m hm
    unfold rdV
    rw [if_pos x1, x2]
    exact hother m hm
  · obtain ⟨x1, _⟩ := hin m hm
    unfold rdS
    rw [if_pos x1]
    have h3 := hnext 3 (by omega)
    have e : st1.reads + 2 + 1 = st1.reads + 3 := by omega
    show TurnSt first seq { st1 with reads := st1.reads + ((2 : Nat) : Int) + 1 } (k + 1)
    rw [show st1.reads + ((2 : Nat) : Int) + 1 = st1.reads + 3 by omega]
    exact h3
end Go.Proofs.Ytcbnebcooiagmaa
namespace Go.Proofs.Ytcbnebcooiagmaa
open Go.RowKit
theorem bools_open {H : Type} {enc : TypeId × Value → H} {P : Program} {w : World} {base : Nat} {held : Bool} {t e : TypeId} {a : Option Addr} {len cap : Nat} {d : DataW H} {p : List MemPlace} (ht : P.underlying t = some (.slice e)) (he : P.underlying e = some .bool) (hc : P.cellsOf e = 1)
    (h : ∃ n, DataW.trod enc P w base (fun _ => true) held n t (Value.slice a len cap).cells.toList = some (d, p)) : ∃ z, RdB w a len cap z := by
  obtain ⟨n, hn⟩ := h
  rcases Go.Deep.open_bools ht he hc hn with ⟨hcs, _⟩ | ⟨x, l, c, B, hcs, _, hl, hm, _, hcell⟩
  · simp [Value.cells] at hcs
    obtain ⟨rfl, rfl, rfl⟩ := hcs
    exact ⟨[], rfl, Nat.le_refl _, by unfold maxLen; omega, fun i hi => by omega, fun _ => rfl⟩
  · simp [Value.cells] at hcs
    obtain ⟨rfl, rfl, rfl⟩ := hcs
    refine ⟨(List.range len).map B, by simp, hl, hm, fun i hi => ?_, fun h => by cases h⟩
    obtain ⟨b, o, sp⟩ := x
    have h0 := hcell 0 (by omega)
    have hsp : sp = none := by simpa [Addr.add] using World.cell?_spot h0
    subst hsp
    refine ⟨b, o, rfl, ?_⟩
    have := hcell i (by omega)
    rw [List.getD_eq_getElem?_getD, List.getElem?_map, List.getElem?_range hi]
    rw [show (Addr.mk b o none).add i = ⟨b, o + i, none⟩ by simp [Addr.add] <;> omega] at this
    simpa using this
theorem RdB.lt {w : World} {a : Option Addr} {n c : Nat} {l : List Bool} (h : RdB w a n c l) : ∀ x, a = some x → 0 < n → x.block < w.heap.size := fun x hx hn => by
  obtain ⟨b, o, e, hc⟩ := h.cell 0 hn
  rw [hx] at e
  injection e with e
  subst e
  exact block_lt_of_cell hc
end Go.Proofs.Ytcbnebcooiagmaa
namespace Go.Proofs.Ytcbnebcooiagmaa
open Go.RowKit
def boolInfo : Prop := (Try.prog.info? 4).map (fun i => (i.zero, i.size, i.bytes)) = some (some (.bool false), 1, 1)
theorem boolI : boolInfo := by unfold boolInfo; kernel_rfl
set_option maxRecDepth 100000 in
theorem boolsT : Try.prog.underlying 61 = some (.slice 4) := Try.underlying61
/-- A slice of bools in a new block. -/
structure NewB (w w' : World) (v : Value) (n : Nat) (l : List Bool) : Prop where
  ex : ∃ a c, v = .slice a n c ∧ RdB w' a n c l ∧ ∀ q, a = some q → 0 < n → w.heap.size ≤ q.block ∧ q.block < w'.heap.size
  below : Below w.heap.size w w'
theorem NewB.past {w w' : World} {o : Obj} {v : Value} {n : Nat} {l : List Bool} (h : NewB (w.alloc o) w' v n l) : NewB w w' v n l := by
  obtain ⟨a, c, hv, hr, hq⟩ := h.ex
  exact ⟨⟨a, c, hv, hr, fun q h1 h2 => ⟨by have := (hq q h1 h2).1; simp at this; omega, (hq q h1 h2).2⟩⟩, ((Below.refl _ _).alloc (Nat.le_refl _) o).trans (h.below.mono (by simp))⟩
set_option maxRecDepth 100000 in
theorem run_app_bools (ty : TypeId) (w : World) (x0 : Addr) (xo : Option Addr) (n c : Nat) (l : List Bool) (hr : RdB w xo n c l) (hn : n ≤ 1099511627776) :
    ∃ v w', (Builtin.append_ #[61, 61] ty #[.slice (some x0) 0 0, .slice xo n c]).run Try.prog w = .ok v w' ∧ NewB w w' v n l := by
  have hlen := hr.len
  by_cases h0 : n = 0
  · subst h0
    have hl0 : l = [] := List.eq_nil_of_length_eq_zero hlen
    obtain ⟨i, hi, hz0, hz1, hz2⟩ : ∃ i, Try.prog.info? 4 = some i ∧ i.zero = some (.bool false) ∧ i.size = 1 ∧ i.bytes = 1 := by
      have := boolI
      unfold boolInfo at this
      cases h : Try.prog.info? 4 with
      | none => rw [h] at this; cases this
      | some i => rw [h] at this; simp at this; exact ⟨i, rfl, this.1, this.2.1, this.2.2⟩
    refine ⟨.slice (some x0) 0 0, w, ?_, ⟨some x0, 0, rfl, ⟨hlen, Nat.le_refl _, by unfold maxLen; omega, fun i hi => by omega, fun h => by cases h⟩, fun q _ h => by omega⟩, Below.refl _ _⟩
    cases xo <;> simp [Builtin.append_, run_underlying boolsT, sizeOf, typeInfo, hi, Builtin.lenOf, Builtin.firstCells, loadCells, loadCellsFrom, storeCells]
  · obtain ⟨i, hi, hz0, hz1, hz2⟩ : ∃ i, Try.prog.info? 4 = some i ∧ i.zero = some (.bool false) ∧ i.size = 1 ∧ i.bytes = 1 := by
      have := boolI
      unfold boolInfo at this
      cases h : Try.prog.info? 4 with
      | none => rw [h] at this; cases this
      | some i => rw [h] at this; simp at this; exact ⟨i, rfl, this.1, this.2.1, this.2.2⟩
    obtain ⟨x, rfl⟩ : ∃ x, xo = some x := by
      obtain ⟨b, o, e, _⟩ := hr.cell 0 (by omega)
      exact ⟨_, e⟩
    have hcell : ∀ j v, (l.map Value.bool)[j]? = some v → w.cell? (x.add j) = some v := by
      intro j v hv
      have hj : j < n := by have := (List.getElem?_eq_some_iff.1 hv).1; simpa [hlen] using this
      obtain ⟨b, o, e, hc⟩ := hr.cell j hj
      injection e with e
      subst e
      rw [Addr.add_lit, hc]
      rw [List.getElem?_map, List.getElem?_eq_getElem (by omega)] at hv
      rw [List.getD_eq_getElem?_getD, List.getElem?_eq_getElem (by omega)]; exact hv
    have hrun := run_append_grow (P := Try.prog) w 61 ty 4 i (.bool false) boolsT hi hz0 x0 0 0 [] (by simp) (by simp) x n c (l.map Value.bool) (by simp [hlen, hz1]) hcell (by omega) (by omega) (growslice_fits (by omega) (by rw [hz2]; omega))
    rw [Nat.zero_add] at hrun
    refine ⟨_, _, hrun, ⟨_, _, rfl, ⟨hlen, ?_, ?_, fun j hj => ⟨w.heap.size, 0, rfl, ?_⟩, fun h => by cases h⟩, fun q hq _ => ?_⟩, ?_⟩
    · exact grownCap_ge w n 0 4
    · exact grownCap_le_maxLen w n 0 4 (by unfold maxLen; omega)
    · rw [Nat.zero_add, show w.heap.size = w.drew.heap.size from rfl, cell_of_row _ _ _ _ _ _ (heap_alloc_new w.drew _), Array.getElem?_append_left (by simp; omega)]
      simp [hlen, hj, List.getD_eq_getElem?_getD]
    · injection hq with hq
      subst hq
      exact ⟨Nat.le_refl _, by simp⟩
    · exact ((⟨rfl, rfl, rfl, Nat.le_refl _, fun _ _ => rfl⟩ : Below w.heap.size w w.drew)).alloc (Nat.le_refl _) _
section
variable {ops : Array Oper} {rest : List Oper} {o : Oper} {a : Act} {Q : Exit → Act → World → Prop}
set_option maxRecDepth 100000 in
theorem app_bools (hg : o.guard = none) (s x : Operand) (ho : o.op = .call { callee := .builtin .append, args := #[s, x], argTypes := #[61, 61] }) (w : World) (y0 : Addr) (y : Option Addr) (n c : Nat) (l : List Bool)
    (hs : a.eval s = .slice (some y0) 0 0) (hx : a.eval x = .slice y n c) (hr : RdB w y n c l) (hn : n ≤ 1099511627776)
    (h : ∀ v w', NewB w w' v n l → wpList Try.prog ops Q rest (a.put o.dst v) w') : wpList Try.prog ops Q (o :: rest) a w := by
  refine wpList_plain hg fun K hK => ?_
  obtain ⟨v', w', hrun, h1⟩ := run_app_bools o.type w y0 y n c l hr hn
  unfold Oper.wp execOp
  simp only [ho, resolve, invoke, builtin, Sem.run_bind, Sem.run_pure, Result.andThen_ok, List.map_toArray, List.map_cons, List.map_nil, hs, hx, hrun]
  exact hK _ _ (h v' w' h1)
end
/-- Ends with a new slice of bools. -/
def GivesB (n : Nat) (l : List Bool) (w : World) (e : Ending) (w' : World) : Prop := ∃ v, e = .returned v ∧ NewB w w' v n l
set_option maxRecDepth 100000 in
theorem cloneB_any (a : Option Addr) (n c : Nat) (l : List Bool) (w : World) (h : RdB w a n c l) (hn : n ≤ 1000000000) :
    Calls Try.prog 65 #[.slice a n c] w (GivesB n l w) := by
  cases a with
  | none =>
    obtain rfl : c = 0 := h.void rfl
    have hcap := h.cap
    obtain rfl : n = 0 := by omega
    exact (clone_nil w).mono fun e w' ⟨he, hw⟩ => ⟨_, he, ⟨none, 0, rfl, by rw [← hw]; exact h, fun q hq => by cases hq⟩, by rw [← hw]; exact Below.refl _ _⟩
  | some x =>
    have hnil := fun (w : World) (a : Option Addr) (n c : Nat) => Lib.run_eql_slice_nil (P := Try.prog) w 61 4 a n c 0 0 Try.underlying61
    have H := Lib.hid h
    clear h
    go_enter Try.func65, Try.ntmps65
    go_wp2_with (at_builtin; refine app_bools rfl _ _ rfl _ _ _ _ _ l rfl rfl (RdB.kept H.out (fun q hq h0 => heap_alloc_keep w _ (H.out.lt q hq h0))) (by omega) ?_; intro x1 w1 hb1)
    go_ret
    exact ⟨_, rfl, NewB.past hb1⟩
theorem armQ {w w1 w' : World} {Z : Nat → Prop} {d kb mb : Nat} {pv kv : Value} {vals pvs : List Value} {st : Dk} (p : DkP w Z d kb mb pv kv vals pvs st) (hz : ∀ k, Z k → k < w.heap.size) (hb : Below w.heap.size w w1) (kv2 : Value) (n : Nat) (kl : List Bool) (hk : NewB w w1 kv2 n kl)
    (hoth : ∀ x, x ≠ d → w'.heap[x]? = w1.heap[x]?) (hsz : w'.heap.size = w1.heap.size) (z : Int)
    (row : w'.heap[d]? = some (.cells #[.bool st.off, .int .i64 (if z < 1 then 1 else z), kv2, .int .i64 st.size, .slice (some ⟨kb, 0, none⟩) st.kept.length st.kept.length, pv, .map (some mb), .int .i64 st.writes, .int .i64 st.reads] 69 (0, 0))) (h2 : z ≤ 9223372036854775807) :
    DkIn w' (fun x => Z x ∨ (w.heap.size ≤ x ∧ x < w'.heap.size)) d (armS st z kl) := by
  have ho : ∀ x, Z x → x ≠ d → w'.heap[x]? = w.heap[x]? := fun x hx hne => by rw [hoth x hne, hb.block x (hz x hx)]
  have hm : ∀ x, Z x → ¬ MutD d kb mb pv x → w'.heap[x]? = w.heap[x]? := fun x hx h => ho x hx (fun e => h (.inl e))
  refine ⟨fun x hx => ?_, kb, mb, pv, kv2, vals, pvs, row, ?_, ?_, ?_, ?_, ?_, ?_, p.ne, p.rm, fun x hx => .inl (p.z x hx), ⟨p.ok.size, p.ok.n, p.ok.kept, p.ok.pend, ?_, p.ok.few, p.ok.writes, p.ok.reads⟩⟩
  · rcases hx with hx | hx
    · rw [hsz]; exact Nat.lt_of_lt_of_le (hz x hx) hb.size
    · exact hx.2
  · rw [ho kb (p.z kb (.inr (.inl rfl))) p.ne.1.symm]; exact p.krow
  · exact p.kvals.imp fun v l h => h.at hm (fun _ _ h => h) (fun _ h => .inl h)
  · exact ownsRow_at p.prow (fun g hg => ho g (p.z g (.inr (.inr (.inr hg)))) (p.rm g hg).1)
  · exact p.pvals.imp fun v l h => h.at hm (fun _ _ h => h) (fun _ h => .inl h)
  · exact p.map.at (ho mb (p.z mb (.inr (.inr (.inl rfl)))) p.ne.2.1.symm)
  · obtain ⟨a, c, hv, hr, hq⟩ := hk.ex
    have hdw : d < w.heap.size := hz d (p.z d (.inl rfl))
    refine ⟨a, n, c, hv, hr.kept (fun x hx h0 => hoth _ (fun e => ?_)), fun q hqa h0 => ⟨fun hmm => ?_, .inr ⟨(hq q hqa h0).1, ?_⟩⟩⟩
    · have := (hq x hx h0).1
      omega
    · have := hz _ (p.z _ hmm)
      have := (hq q hqa h0).1
      omega
    · rw [hsz]; exact (hq q hqa h0).2
  · show 0 ≤ (if z < 1 then 1 else z) ∧ (if z < 1 then 1 else z) ≤ 9223372036854775807
    split <;> omega
set_option linter.unusedSimpArgs false in
set_option linter.unusedVariables false in
set_option maxRecDepth 100000 in
set_option maxHeartbeats 2000000 in
theorem arm_any (Z : Nat → Prop) (d : Nat) (st : Dk) (z : Int) (a : Option Addr) (n c : Nat) (kl : List Bool) (w : World) (h : DkIn w Z d st) (hk : RdB w a n c kl) (hn : n ≤ 1000000000) (h1 : -9223372036854775808 ≤ z) (h2 : z ≤ 9223372036854775807) :
    Calls Try.prog 25 #[.pointer (some ⟨d, 0, none⟩), .int .i64 z, .slice a n c] w fun e w' => e = .returned (.tuple #[]) ∧ ∃ Z', DkIn w' Z' d (armS st z kl) ∧ Tnd Z Z' w w' := by
  obtain ⟨hz, kb, mb, pv, kv, vals, pvs, p⟩ := h
  have P := Lib.hid p
  have K := Lib.hid hk
  have hZd := hz d (p.z d (.inl rfl))
  have HD := Lib.hid (p.z d (.inl rfl))
  by_cases hn1 : z < 1
  · have e1 : (if z < 1 then 1 else z) = 1 := if_pos hn1
    have e2 : (max z 1 : Int) = 1 := by omega
    clear p hk
    go_enter Try.func25, Try.ntmps25
    go_wp2_with fail
    refine (cloneB_any a n c kl _ K.out hn).mono ?_
    rintro e w1 ⟨v, rfl, hnb⟩
    obtain ⟨a1, c1, hv, _⟩ := hnb.ex
    subst hv
    have NB := Lib.hid hnb
    have hrow := row_keep P.out.row hnb.below
    obtain ⟨y0, y1, y2, y3, y4, y5, y6, y7, y8, cf⟩ := cellsD hrow
    have HROW := Lib.hid hrow
    have HE := Lib.hid e1
    clear hnb hrow e1
    go_wp2_with fail

    go_end0
    have hoth : ∀ x, x ≠ d → ((w1.setCell ⟨d, 1, none⟩ (.int .i64 1)).setCell ⟨d, 2, none⟩ (.slice a1 n c1)).heap[x]? = w1.heap[x]? := fun x hne => by
      rw [heap_setCell_other _ ⟨d, 2, none⟩ x _ hne, heap_setCell_other w1 ⟨d, 1, none⟩ x _ hne]
    refine ⟨rfl, _, armQ P.out hz NB.out.below (.slice a1 n c1) n kl NB.out hoth (by simp) z (by
      rw [HE.out, heap_setCell_same _ d 2 _ _ _ (heap_setCell_same w1 d 1 _ _ _ HROW.out)]
      simp) h2, ⟨NB.out.below.os, NB.out.below.tape, NB.out.below.output, by simpa using NB.out.below.size, fun x hx hzx => ?_, fun x h => h.imp id (·.1)⟩⟩
    rw [hoth x (fun e => hzx (by rw [e]; exact HD.out))]
    exact NB.out.below.block x hx
  · have e1 : (if z < 1 then 1 else z) = z := if_neg hn1
    clear p hk
    go_enter Try.func25, Try.ntmps25
    go_wp2_with fail
    refine (cloneB_any a n c kl _ K.out hn).mono ?_
    rintro e w1 ⟨v, rfl, hnb⟩
    obtain ⟨a1, c1, hv, _⟩ := hnb.ex
    subst hv
    have NB := Lib.hid hnb
    have hrow := row_keep P.out.row hnb.below
    obtain ⟨y0, y1, y2, y3, y4, y5, y6, y7, y8, cf⟩ := cellsD hrow
    have HROW := Lib.hid hrow
    have HE := Lib.hid e1
    clear hnb hrow e1
    go_wp2_with fail

    go_end0
    have hoth : ∀ x, x ≠ d → ((w1.setCell ⟨d, 1, none⟩ (.int .i64 z)).setCell ⟨d, 2, none⟩ (.slice a1 n c1)).heap[x]? = w1.heap[x]? := fun x hne => by
      rw [heap_setCell_other _ ⟨d, 2, none⟩ x _ hne, heap_setCell_other w1 ⟨d, 1, none⟩ x _ hne]
    refine ⟨rfl, _, armQ P.out hz NB.out.below (.slice a1 n c1) n kl NB.out hoth (by simp) z (by
      rw [HE.out, heap_setCell_same _ d 2 _ _ _ (heap_setCell_same w1 d 1 _ _ _ HROW.out)]
      simp) h2, ⟨NB.out.below.os, NB.out.below.tape, NB.out.below.output, by simpa using NB.out.below.size, fun x hx hzx => ?_, fun x h => h.imp id (·.1)⟩⟩
    rw [hoth x (fun e => hzx (by rw [e]; exact HD.out))]
    exact NB.out.below.block x hx
end Go.Proofs.Ytcbnebcooiagmaa
namespace Go.Proofs.Ytcbnebcooiagmaa
open Go.RowKit
set_option maxRecDepth 100000 in
set_option maxHeartbeats 1000000 in
theorem burst_in (a : Option Addr) (n c : Nat) (l : List Int) (bit : Nat) (p : BitVec 32) (w : World) (h : RdAt .u8 w a n c l) (hn : n ≤ 1000000000) (hb : bit < 8 * n) :
    Calls Try.prog 70 #[.slice a n c, .int .i64 bit, .int .u32 (rnum p)] w (GivesBytes (burstK l bit p 32) w) := by
  have hby := h.bytes
  have HL := Lib.hid h.len
  have hd1 : decide ((bit : Int) < 0) = false := decide_eq_false (by omega)
  go_enter Try.func70, Try.ntmps70
  go_wp2_with (go_at_call 63; refine (clone_any _ _ _ _ _ h hn).mono ?_; rintro e w1 ⟨v, rfl, ho, hbe⟩)
  go_loopw [14] (fun i wr => ∃ k : Nat, k ≤ 32 ∧ i = .int .i64 k ∧ Owns .u8 5 wr w.heap.size v (burstK l bit p k) ∧ Below w.heap.size w wr) (fun i _ => 32 - (intOf i).toNat)
  case atStart => exact ⟨0, by omega, rfl, ho, hbe⟩
  case round =>
    clear ho hbe
    obtain ⟨k, hk, rfl, ho, hbe⟩ := hrel
    have HKL := Lib.hid (burstK_len l bit p k)
    by_cases hp : k < 32
    · by_cases hin : bit + k < 8 * n
      · by_cases hbt : p.getLsbD k = true
        · have ht := bit_yes hbt
          have HX : Hid (burstK l bit p (k + 1) = tog (burstK l bit p k) (bit + k)) := by show _ = _; rw [burstK, if_pos ⟨by rw [HL.out]; exact hin, hbt⟩]
          clear hbt
          have hkb := burstK_bytes hby bit p k
          obtain ⟨av, cv, rfl⟩ := ho.shapeN n (by rw [HKL.out, HL.out])
          obtain ⟨g, rfl, hg1, hg2, hcell, hfz⟩ := ho.cellAt ((bit + k) / 8) (by rw [HKL.out, HL.out]; omega)
          have ho2 := set_tog ho (bit + k) hkb
          generalize burstK l bit p k = r at *
          have e1 := shr_three (bit + k)
          have e2 := i64_and_7 ((bit + k : Nat) : Int) (by omega) (by omega)
          have e3 : ((bit + k : Nat) : Int) % 8 = ((bit + k) % 8 : Nat) := by omega
          rw [e3] at e2
          rw [Int.natCast_add] at e1 e2
          have e4 := pow_u8 (bit + k)
          clear e3
          go_wp2
          go_region
          go_wp2
          go_roundw
          case rel => exact ⟨k + 1, by omega, by go_num, by rw [HX.out]; exact ho2.drew, (hbe.setCell hg1 _).drew⟩
          case measure => simp [intOf] <;> omega
        · have ht := bit_no hbt
          have HX : Hid (burstK l bit p (k + 1) = burstK l bit p k) := by show _ = _; rw [burstK, if_neg (fun h => hbt h.2)]
          clear hbt
          go_wp2
          go_roundw
          case rel => exact ⟨k + 1, by omega, by go_num, by rw [HX.out]; exact ho, hbe⟩
          case measure => simp [intOf] <;> omega
      · have HX := Lib.hid (burstK_far l bit p (by rw [HL.out]; omega) hk)
        go_wp2
        go_ret
        exact ⟨_, rfl, by rw [HX.out]; exact ho, hbe⟩
    · have HX : Hid (burstK l bit p 32 = burstK l bit p k) := by show _ = _; rw [show k = 32 by omega]
      clear hk
      go_wp2
      go_ret
      exact ⟨_, rfl, by rw [HX.out]; exact ho, hbe⟩
set_option maxRecDepth 100000 in
theorem burst_any (a : Option Addr) (n c : Nat) (l : List Int) (bit : Int) (p : BitVec 32) (w : World) (h : RdAt .u8 w a n c l) (hn : n ≤ 1000000000) :
    Calls Try.prog 70 #[.slice a n c, .int .i64 bit, .int .u32 (rnum p)] w (GivesBytes (burstV l bit p) w) := by
  by_cases hc : 0 ≤ bit ∧ bit < 8 * n
  · obtain ⟨bit, rfl⟩ := Int.eq_ofNat_of_zero_le hc.1
    have e : burstV l bit p = burstK l bit p 32 := by unfold burstV; rw [if_pos (by rw [h.len]; exact hc), Int.toNat_natCast]
    rw [e]
    exact burst_in a n c l bit p w h hn (by omega)
  · have e : burstV l bit p = l := by unfold burstV; rw [if_neg (by rw [h.len]; exact hc)]
    rw [e]
    clear e
    by_cases h0 : bit < 0
    · go_enter Try.func70, Try.ntmps70
      go_wp2_with (go_at_call 63; refine (clone_any _ _ _ _ _ h hn).mono ?_; rintro e w1 ⟨v, rfl, ho, hbe⟩)
      go_ret
      exact ⟨_, rfl, ho, hbe⟩
    · have h1 : 8 * (n : Int) ≤ bit := by omega
      clear hc
      go_enter Try.func70, Try.ntmps70
      go_wp2_with (go_at_call 63; refine (clone_any _ _ _ _ _ h hn).mono ?_; rintro e w1 ⟨v, rfl, ho, hbe⟩)
      go_loopw [14] (fun i wr => i = .int .i64 0 ∧ Owns .u8 5 wr w.heap.size v l ∧ Below w.heap.size w wr) (fun i _ => 32 - (intOf i).toNat)
      case atStart => exact ⟨rfl, ho, hbe⟩
      case round =>
        clear ho hbe
        obtain ⟨rfl, ho, hbe⟩ := hrel
        go_wp2
        go_ret
        exact ⟨_, rfl, ho, hbe⟩
end Go.Proofs.Ytcbnebcooiagmaa
