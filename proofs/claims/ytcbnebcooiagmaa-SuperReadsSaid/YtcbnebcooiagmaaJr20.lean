/- Joined: The walk of almanaclaw20.SuperReads, one of three: (rnum p).tmod 7 ≠ 3 ∧ (rnum p).tmod 7 ≠ 4. The walk of almanaclaw20.SuperReads, one of three: (rnum p).tmod 7 = 3. -/
import Derived.Test.YtcbnebcooiagmaaJr19
import Derived.Deep.DeepCutAuto
namespace Go.Proofs.Ytcbnebcooiagmaa
open Go.RowKit
set_option linter.unusedSimpArgs false in
set_option linter.unusedVariables false in
set_option maxRecDepth 100000 in
set_option maxHeartbeats 6000000 in
theorem superreads0 (b t : Blk) (swap : Bool) (bit : Int) (p : BitVec 32) (which : Int) (w : World) (hb : b.Wf) (ht : t.Wf) (hbit : -9223372036854775808 ≤ bit ∧ bit ≤ 9223372036854775807) (hwh : -9223372036854775808 ≤ which ∧ which ≤ 9223372036854775807) (h7 : (rnum p).tmod 7 ≠ 3 ∧ (rnum p).tmod 7 ≠ 4) :
    Calls Try.prog 7 #[b.val, t.val, .bool swap, .int .i64 bit, .int .u32 (rnum p), .int .i64 which] w fun e w' => e = .returned (.bool true) ∧ Below w.heap.size w w' := by
  obtain ⟨r7, hr7⟩ : ∃ r, (rnum p).tmod 7 = r := ⟨_, rfl⟩
  rw [hr7] at h7
  obtain ⟨h73, h74⟩ := h7
  have q3 : (r7 == 3) = false := by simpa using h73
  have q4 : (r7 == 4) = false := by simpa using h74
  clear h73 h74
  have HB := Lib.hid hb
  have HT := Lib.hid ht
  have HBIT := Lib.hid hbit
  have HWH := Lib.hid hwh
  have HP := Lib.hid (rfl : rnum p = rnum p)
  clear hb ht hbit hwh
  obtain ⟨m0, x0, x1, x2, x3, x4, x5, x6, x7, x8, xs, xn, xq⟩ := b
  obtain ⟨k0, y0, y1, y2, y3, y4, y5, y6, y7, y8, ys, yn, yq⟩ := t
  obtain ⟨e1, e2⟩ := HB.out.ep
  replace e1 : 0 ≤ m0 := e1
  replace e2 : m0 ≤ 18446744073709551615 := e2
  rw [show (⟨m0, x0, x1, x2, x3, x4, x5, x6, x7, x8, xs, xn, xq⟩ : Blk).val = .agg #[.int .u64 m0, .int .i64 x0, .int .i64 x1, .int .i64 x2, .int .i64 x3, .int .i64 x4, .int .i64 x5, .int .i64 x6, .int .i64 x7, .int .i64 x8, .int .i64 xs, .int .i64 xn, .int .u64 xq] from rfl, show (⟨k0, y0, y1, y2, y3, y4, y5, y6, y7, y8, ys, yn, yq⟩ : Blk).val = .agg #[.int .u64 k0, .int .i64 y0, .int .i64 y1, .int .i64 y2, .int .i64 y3, .int .i64 y4, .int .i64 y5, .int .i64 y6, .int .i64 y7, .int .i64 y8, .int .i64 ys, .int .i64 yn, .int .u64 yq] from rfl]
  have hba : Below w.heap.size w ((w.alloc (.cells #[.int .u64 m0, .int .i64 x0, .int .i64 x1, .int .i64 x2, .int .i64 x3, .int .i64 x4, .int .i64 x5, .int .i64 x6, .int .i64 x7, .int .i64 x8, .int .i64 xs, .int .i64 xn, .int .u64 xq] 28)).alloc (.cells #[.int .u64 k0, .int .i64 y0, .int .i64 y1, .int .i64 y2, .int .i64 y3, .int .i64 y4, .int .i64 y5, .int .i64 y6, .int .i64 y7, .int .i64 y8, .int .i64 ys, .int .i64 yn, .int .u64 yq] 28)) := ((Below.refl _ _).alloc (Nat.le_refl _) _).alloc (by simp) _
  have hra : (((w.alloc (.cells #[.int .u64 m0, .int .i64 x0, .int .i64 x1, .int .i64 x2, .int .i64 x3, .int .i64 x4, .int .i64 x5, .int .i64 x6, .int .i64 x7, .int .i64 x8, .int .i64 xs, .int .i64 xn, .int .u64 xq] 28)).alloc (.cells #[.int .u64 k0, .int .i64 y0, .int .i64 y1, .int .i64 y2, .int .i64 y3, .int .i64 y4, .int .i64 y5, .int .i64 y6, .int .i64 y7, .int .i64 y8, .int .i64 ys, .int .i64 yn, .int .u64 yq] 28))).heap[w.heap.size]? = some (.cells #[.int .u64 m0, .int .i64 x0, .int .i64 x1, .int .i64 x2, .int .i64 x3, .int .i64 x4, .int .i64 x5, .int .i64 x6, .int .i64 x7, .int .i64 x8, .int .i64 xs, .int .i64 xn, .int .u64 xq] 28 (0, 0)) := by
    rw [heap_old _ _ (by simp)]
    exact heap_alloc_new _ _
  have hrt : (((w.alloc (.cells #[.int .u64 m0, .int .i64 x0, .int .i64 x1, .int .i64 x2, .int .i64 x3, .int .i64 x4, .int .i64 x5, .int .i64 x6, .int .i64 x7, .int .i64 x8, .int .i64 xs, .int .i64 xn, .int .u64 xq] 28)).alloc (.cells #[.int .u64 k0, .int .i64 y0, .int .i64 y1, .int .i64 y2, .int .i64 y3, .int .i64 y4, .int .i64 y5, .int .i64 y6, .int .i64 y7, .int .i64 y8, .int .i64 ys, .int .i64 yn, .int .u64 yq] 28))).heap[w.heap.size + 1]? = some (.cells #[.int .u64 k0, .int .i64 y0, .int .i64 y1, .int .i64 y2, .int .i64 y3, .int .i64 y4, .int .i64 y5, .int .i64 y6, .int .i64 y7, .int .i64 y8, .int .i64 ys, .int .i64 yn, .int .u64 yq] 28 (0, 0)) := by
    have := heap_alloc_new (w.alloc (.cells #[.int .u64 m0, .int .i64 x0, .int .i64 x1, .int .i64 x2, .int .i64 x3, .int .i64 x4, .int .i64 x5, .int .i64 x6, .int .i64 x7, .int .i64 x8, .int .i64 xs, .int .i64 xn, .int .u64 xq] 28)) (.cells #[.int .u64 k0, .int .i64 y0, .int .i64 y1, .int .i64 y2, .int .i64 y3, .int .i64 y4, .int .i64 y5, .int .i64 y6, .int .i64 y7, .int .i64 y8, .int .i64 ys, .int .i64 yn, .int .u64 yq] 28)
    simpa using this
  obtain ⟨wa, hwa⟩ : ∃ wa, ((w.alloc (.cells #[.int .u64 m0, .int .i64 x0, .int .i64 x1, .int .i64 x2, .int .i64 x3, .int .i64 x4, .int .i64 x5, .int .i64 x6, .int .i64 x7, .int .i64 x8, .int .i64 xs, .int .i64 xn, .int .u64 xq] 28)).alloc (.cells #[.int .u64 k0, .int .i64 y0, .int .i64 y1, .int .i64 y2, .int .i64 y3, .int .i64 y4, .int .i64 y5, .int .i64 y6, .int .i64 y7, .int .i64 y8, .int .i64 ys, .int .i64 yn, .int .u64 yq] 28)) = wa := ⟨_, rfl⟩
  obtain ⟨ab, hab⟩ : ∃ ab, w.heap.size = ab := ⟨_, rfl⟩
  rw [hwa] at hba hra hrt
  rw [hab] at hra hrt
  have BA := Lib.hid hba
  have RA := Lib.hid hra
  have RT := Lib.hid hrt
  have HWA := Lib.hid hwa
  have HAB := Lib.hid hab
  clear hba hra hrt hwa hab
  go_enter Try.func7, Try.ntmps7
  go_wp2_with fail
  rw [HWA.out, HAB.out]
  refine (known20 wa).mono ?_
  rintro e w1 ⟨rfl, hb1⟩
  have RA1 := Lib.hid (row_keep RA.out hb1)
  have RT1 := Lib.hid (row_keep RT.out hb1)
  have B1 := Lib.hid (Below.call BA.out hb1)
  clear hb1 RA RT BA
  go_wp2_with fail
  refine (shape20_any w1).mono ?_
  rintro e w2 ⟨rfl, hb2⟩
  have RA2 := Lib.hid (row_keep RA1.out hb2)
  have RT2 := Lib.hid (row_keep RT1.out hb2)
  have B2 := Lib.hid (Below.call B1.out hb2)
  clear hb2 RA1 RT1 B1
  obtain ⟨p0, p1, p2, p3, p4, p5, p6, p7, p8, p9, p10, p11, p12⟩ := cells13 RA2.out
  have hfz : ∀ i, w2.frozen? ⟨ab, i, none⟩ = false := fun i => frozen_of_row w2 (ab) i _ _ RA2.out
  have hg := sets_grown (b := ab) [(1, .int .i64 40), (2, .int .i64 128), (3, .int .i64 4), (4, .int .i64 2), (5, .int .i64 16), (6, .int .i64 4), (7, .int .i64 2), (8, .int .i64 2), (9, .int .i64 4)] w2
  have hr := sets_row [(1, .int .i64 40), (2, .int .i64 128), (3, .int .i64 4), (4, .int .i64 2), (5, .int .i64 16), (6, .int .i64 4), (7, .int .i64 2), (8, .int .i64 2), (9, .int .i64 4)] RA2.out
  obtain ⟨w3, hw⟩ : ∃ w3, sets w2 (ab) [(1, .int .i64 40), (2, .int .i64 128), (3, .int .i64 4), (4, .int .i64 2), (5, .int .i64 16), (6, .int .i64 4), (7, .int .i64 2), (8, .int .i64 2), (9, .int .i64 4)] = w3 := ⟨_, rfl⟩
  rw [hw] at hg hr
  have hr' : w3.heap[ab]? = some (.cells #[.int .u64 m0, .int .i64 40, .int .i64 128, .int .i64 4, .int .i64 2, .int .i64 16, .int .i64 4, .int .i64 2, .int .i64 2, .int .i64 4, .int .i64 xs, .int .i64 xn, .int .u64 xq] 28 (0, 0)) := by rw [hr]; rw [fold9]
  have RA3 := Lib.hid hr'
  have RT3 : Hid (w3.heap[ab + 1]? = some (.cells #[.int .u64 k0, .int .i64 y0, .int .i64 y1, .int .i64 y2, .int .i64 y3, .int .i64 y4, .int .i64 y5, .int .i64 y6, .int .i64 y7, .int .i64 y8, .int .i64 ys, .int .i64 yn, .int .u64 yq] 28 (0, 0))) := (hg.block (ab + 1) (Array.getElem?_eq_some_iff.1 RT2.out).1 (fun e => by injection e with e; omega)).trans RT2.out
  have B3 : Hid (Below w.heap.size w w3) := Below.grown B2.out hg B2.out.size (fun k e => by injection e with e; have := HAB.out; omega)
  have HW3 := Lib.hid hw
  clear hg hr hr' hw
  have hw : (((((((((w2.setCell ⟨ab, 1, none⟩ (.int .i64 40)).setCell ⟨ab, 2, none⟩ (.int .i64 128)).setCell ⟨ab, 3, none⟩ (.int .i64 4)).setCell ⟨ab, 4, none⟩ (.int .i64 2)).setCell ⟨ab, 5, none⟩ (.int .i64 16)).setCell ⟨ab, 6, none⟩ (.int .i64 4)).setCell ⟨ab, 7, none⟩ (.int .i64 2)).setCell ⟨ab, 8, none⟩ (.int .i64 2)).setCell ⟨ab, 9, none⟩ (.int .i64 4)) = w3 := HW3.out
  go_wp2_with (rw [hw])
  clear hw hfz
  clear p0 p1 p2 p3 p4 p5 p6 p7 p8 p9 p10 p11 p12
  refine (shape20_any w3).mono ?_
  rintro e w4 ⟨rfl, hb4⟩
  have RA4 := Lib.hid (row_keep RA3.out hb4)
  have RT4 := Lib.hid (row_keep RT3.out hb4)
  have B4 := Lib.hid (Below.call B3.out hb4)
  clear hb4 RA3 RT3 B3 RA2 RT2 B2 HW3
  obtain ⟨r0, r1, r2, r3, r4, r5, r6, r7, r8, r9, r10, r11, r12⟩ := cells13 RT4.out
  have hfz : ∀ i, w4.frozen? ⟨ab + 1, i, none⟩ = false := fun i => frozen_of_row w4 (ab + 1) i _ _ RT4.out
  have hg := sets_grown (b := ab + 1) [(1, .int .i64 40), (2, .int .i64 128), (3, .int .i64 4), (4, .int .i64 2), (5, .int .i64 16), (6, .int .i64 4), (7, .int .i64 2), (8, .int .i64 2), (9, .int .i64 4)] w4
  have hr := sets_row [(1, .int .i64 40), (2, .int .i64 128), (3, .int .i64 4), (4, .int .i64 2), (5, .int .i64 16), (6, .int .i64 4), (7, .int .i64 2), (8, .int .i64 2), (9, .int .i64 4)] RT4.out
  obtain ⟨w5, hw⟩ : ∃ w5, sets w4 (ab + 1) [(1, .int .i64 40), (2, .int .i64 128), (3, .int .i64 4), (4, .int .i64 2), (5, .int .i64 16), (6, .int .i64 4), (7, .int .i64 2), (8, .int .i64 2), (9, .int .i64 4)] = w5 := ⟨_, rfl⟩
  rw [hw] at hg hr
  have hr' : w5.heap[ab + 1]? = some (.cells #[.int .u64 k0, .int .i64 40, .int .i64 128, .int .i64 4, .int .i64 2, .int .i64 16, .int .i64 4, .int .i64 2, .int .i64 2, .int .i64 4, .int .i64 ys, .int .i64 yn, .int .u64 yq] 28 (0, 0)) := by rw [hr]; rw [fold9]
  have RT5 := Lib.hid hr'
  have RA5 : Hid (w5.heap[ab]? = some (.cells #[.int .u64 m0, .int .i64 40, .int .i64 128, .int .i64 4, .int .i64 2, .int .i64 16, .int .i64 4, .int .i64 2, .int .i64 2, .int .i64 4, .int .i64 xs, .int .i64 xn, .int .u64 xq] 28 (0, 0))) := (hg.block (ab) (Array.getElem?_eq_some_iff.1 RA4.out).1 (fun e => by injection e with e; omega)).trans RA4.out
  have B5 : Hid (Below w.heap.size w w5) := Below.grown B4.out hg B4.out.size (fun k e => by injection e with e; have := HAB.out; omega)
  have HW5 := Lib.hid hw
  clear hg hr hr' hw
  have hw : (((((((((w4.setCell ⟨ab + 1, 1, none⟩ (.int .i64 40)).setCell ⟨ab + 1, 2, none⟩ (.int .i64 128)).setCell ⟨ab + 1, 3, none⟩ (.int .i64 4)).setCell ⟨ab + 1, 4, none⟩ (.int .i64 2)).setCell ⟨ab + 1, 5, none⟩ (.int .i64 16)).setCell ⟨ab + 1, 6, none⟩ (.int .i64 4)).setCell ⟨ab + 1, 7, none⟩ (.int .i64 2)).setCell ⟨ab + 1, 8, none⟩ (.int .i64 2)).setCell ⟨ab + 1, 9, none⟩ (.int .i64 4)) = w5 := HW5.out
  obtain ⟨p0, p1, p2, p3, p4, p5, p6, p7, p8, p9, p10, p11, p12⟩ := cells13 RA5.out
  go_wp2_with (first | (rw [hw]) | fail)
  clear hw hfz HW5
  clear p0 p1 p2 p3 p4 p5 p6 p7 p8 p9 p10 p11 p12 r0 r1 r2 r3 r4 r5 r6 r7 r8 r9 r10 r11 r12
  have RA7 := Lib.hid RA5.out
  have RT7 := Lib.hid RT5.out
  have B7 := Lib.hid B5.out
  obtain ⟨w7, hw7⟩ : ∃ z, w5 = z := ⟨_, rfl⟩
  rw [hw7] at RA7 RT7 B7 ⊢
  clear hw7
  have hwA : (⟨m0, 40, 128, 4, 2, 16, 4, 2, 2, 4, xs, xn, xq⟩ : Blk).Wf := ⟨⟨e1, e2⟩, kb_wf.w0, kb_wf.w1, kb_wf.w2, kb_wf.w3, kb_wf.w4, kb_wf.w5, kb_wf.w6, kb_wf.w7, kb_wf.w8, HB.out.rs, HB.out.rn, HB.out.sq⟩
  have hwB : (⟨k0, 40, 128, 4, 2, 16, 4, 2, 2, 4, ys, yn, yq⟩ : Blk).Wf := ⟨HT.out.ep, kb_wf.w0, kb_wf.w1, kb_wf.w2, kb_wf.w3, kb_wf.w4, kb_wf.w5, kb_wf.w6, kb_wf.w7, kb_wf.w8, HT.out.rs, HT.out.rn, HT.out.sq⟩
  have HWFA := Lib.hid hwA
  have HWFB := Lib.hid hwB
  clear hwA hwB
  have h1 := of_any (⟨m0, 40, 128, 4, 2, 16, 4, 2, 2, 4, xs, xn, xq⟩ : Blk) w7
  rw [show (⟨m0, 40, 128, 4, 2, 16, 4, 2, 2, 4, xs, xn, xq⟩ : Blk).val = .agg #[.int .u64 m0, .int .i64 40, .int .i64 128, .int .i64 4, .int .i64 2, .int .i64 16, .int .i64 4, .int .i64 2, .int .i64 2, .int .i64 4, .int .i64 xs, .int .i64 xn, .int .u64 xq] from rfl] at h1
  refine h1.mono ?_
  rintro e w8 ⟨rfl, hb8⟩
  have RA8 := Lib.hid (row_keep RA7.out hb8)
  have RT8 := Lib.hid (row_keep RT7.out hb8)
  have B8 := Lib.hid (Below.call B7.out hb8)
  clear h1 hb8 RA7 RT7 B7
  go_wp2_with fail
  have h1 := refenc_any (⟨m0, 40, 128, 4, 2, 16, 4, 2, 2, 4, xs, xn, xq⟩ : Blk) w8 HWFA.out
  rw [show (⟨m0, 40, 128, 4, 2, 16, 4, 2, 2, 4, xs, xn, xq⟩ : Blk).val = .agg #[.int .u64 m0, .int .i64 40, .int .i64 128, .int .i64 4, .int .i64 2, .int .i64 16, .int .i64 4, .int .i64 2, .int .i64 2, .int .i64 4, .int .i64 xs, .int .i64 xn, .int .u64 xq] from rfl] at h1
  refine h1.mono ?_
  rintro e w9 ⟨v9, rfl, ho9, hb9⟩
  obtain ⟨EA, hEA⟩ : ∃ x, supE (⟨m0, 40, 128, 4, 2, 16, 4, 2, 2, 4, xs, xn, xq⟩ : Blk) = x := ⟨_, rfl⟩
  obtain ⟨VA, hVA⟩ : ∃ x, supV (⟨m0, 40, 128, 4, 2, 16, 4, 2, 2, 4, xs, xn, xq⟩ : Blk) = x := ⟨_, rfl⟩
  have hla : EA = 0 → 64 ≤ VA.length := fun h => by rw [← hVA]; exact (supV_len (by rw [hEA, h])).2.1
  rw [hVA] at ho9
  rw [hEA]
  obtain ⟨nx, hnx⟩ : ∃ x, VA.length = x := ⟨_, rfl⟩
  obtain ⟨ax, cx, rfl⟩ := ho9.shapeN nx hnx
  rw [hnx] at hla
  have HLA := Lib.hid hla
  have OX9 := Lib.hid ho9.rd
  have RT9 := Lib.hid (row_keep RT8.out hb9)
  have RA9 := Lib.hid (row_keep RA8.out hb9)
  have B9 := Lib.hid (Below.call B8.out hb9)
  clear h1 hb9 RA8 RT8 B8 ho9 hla hEA hVA hnx HWFA
  obtain ⟨q0, q1, q2, q3, q4, q5, q6, q7, q8, q9, q10, q11, q12⟩ := cells13 RT9.out
  go_wp2_with fail
  clear q0 q1 q2 q3 q4 q5 q6 q7 q8 q9 q10 q11 q12
  have h1 := of_any (⟨k0, 40, 128, 4, 2, 16, 4, 2, 2, 4, ys, yn, yq⟩ : Blk) w9
  rw [show (⟨k0, 40, 128, 4, 2, 16, 4, 2, 2, 4, ys, yn, yq⟩ : Blk).val = .agg #[.int .u64 k0, .int .i64 40, .int .i64 128, .int .i64 4, .int .i64 2, .int .i64 16, .int .i64 4, .int .i64 2, .int .i64 2, .int .i64 4, .int .i64 ys, .int .i64 yn, .int .u64 yq] from rfl] at h1
  refine h1.mono ?_
  rintro e w10 ⟨rfl, hb10⟩
  have RA10 := Lib.hid (row_keep RA9.out hb10)
  have OX10 := Lib.hid (OX9.out.below hb10)
  have B10 := Lib.hid (Below.call B9.out hb10)
  clear h1 hb10 RA9 RT9 B9 OX9
  go_wp2_with fail
  have h1 := refenc_any (⟨k0, 40, 128, 4, 2, 16, 4, 2, 2, 4, ys, yn, yq⟩ : Blk) w10 HWFB.out
  rw [show (⟨k0, 40, 128, 4, 2, 16, 4, 2, 2, 4, ys, yn, yq⟩ : Blk).val = .agg #[.int .u64 k0, .int .i64 40, .int .i64 128, .int .i64 4, .int .i64 2, .int .i64 16, .int .i64 4, .int .i64 2, .int .i64 2, .int .i64 4, .int .i64 ys, .int .i64 yn, .int .u64 yq] from rfl] at h1
  refine h1.mono ?_
  rintro e w11 ⟨v11, rfl, ho11, hb11⟩
  obtain ⟨EB, hEB⟩ : ∃ x, supE (⟨k0, 40, 128, 4, 2, 16, 4, 2, 2, 4, ys, yn, yq⟩ : Blk) = x := ⟨_, rfl⟩
  obtain ⟨VB, hVB⟩ : ∃ x, supV (⟨k0, 40, 128, 4, 2, 16, 4, 2, 2, 4, ys, yn, yq⟩ : Blk) = x := ⟨_, rfl⟩
  have hlb : EB = 0 → 64 ≤ VB.length := fun h => by rw [← hVB]; exact (supV_len (by rw [hEB, h])).2.1
  rw [hVB] at ho11
  rw [hEB]
  obtain ⟨ny, hny⟩ : ∃ x, VB.length = x := ⟨_, rfl⟩
  obtain ⟨ay, cy, rfl⟩ := ho11.shapeN ny hny
  rw [hny] at hlb
  have HLB := Lib.hid hlb
  have OY11 := Lib.hid ho11.rd
  have OX11 := Lib.hid (OX10.out.below hb11)
  have RA11 := Lib.hid (row_keep RA10.out hb11)
  have B11 := Lib.hid (Below.call B10.out hb11)
  clear h1 hb11 RA10 OX10 B10 ho11 hlb hEB hVB hny HWFB
  by_cases h0 : EA = 0
  rotate_left
  · have d0 : (EA != 0) = true := by simpa using h0
    clear h0
    go_wp2_with fail
    go_ret
    exact ⟨rfl, B11.out⟩
  by_cases h2 : EB = 0
  rotate_left
  · have d0 : (EA != 0) = false := by simpa using h0
    have d2 : (EB != 0) = true := by simpa using h2
    clear h0 h2
    go_wp2_with fail
    go_ret
    exact ⟨rfl, B11.out⟩
  have HLA1 := Lib.hid (HLA.out h0)
  have HLB1 := Lib.hid (HLB.out h2)
  subst h0 h2
  go_wp2_with fail
  refine (new_any 40 128 w11 r40).mono ?_
  rintro e w12 ⟨d, Z, rfl, hd, hz, hb⟩
  have C12 : Hid (RdsW w w12 d Z K0 ax nx cx VA ay ny cy VB) :=
    RdsW.mk (DkB.mk hd (fun k h => Nat.le_trans B11.out.size (hz k h)) (Below.call B11.out hb)) (OX11.out.below hb) (OY11.out.below hb)
      (fun q e => by subst e; have h1 := rd_lt OX11.out (by have := HLA1.out; omega); exact ⟨fun h => by have := hz _ h; omega, Nat.lt_of_lt_of_le h1 hb.size⟩)
      (fun q e => by subst e; have h1 := rd_lt OY11.out (by have := HLB1.out; omega); exact ⟨fun h => by have := hz _ h; omega, Nat.lt_of_lt_of_le h1 hb.size⟩)
  have RA12 := Lib.hid (row_keep RA11.out hb)
  clear hd hz hb OX11 OY11 RA11 B11
  obtain ⟨p0, p1, p2, p3, p4, p5, p6, p7, p8, p9, p10, p11, p12⟩ := cells13 RA12.out
  have hm2 : 0 ≤ m0 % 2 ∧ m0 % 2 ≤ 1 := by omega
  have ht2 : m0.tmod 2 = m0 % 2 := Int.tmod_eq_emod_of_nonneg e1
  have hw2 : IntKind.i64.wrap (m0 % 2) = m0 % 2 := IntWalk.i64_in _ (by omega)
  have hw3 : IntKind.i64.wrap (1 - m0 % 2) = 1 - m0 % 2 := IntWalk.i64_in _ (by omega)
  go_upto_if 76 with fail
  go_cut [19] (fun z wc => ∃ q : Int, z = .int .i64 q ∧ 0 ≤ q ∧ q ≤ 1 ∧ w12 = wc)
  case first =>
    cases swap with
    | true =>
      go_wp2
      go_meet
      case rel => exact ⟨_, rfl, by omega, by omega, rfl⟩
    | false =>
      go_wp2
      go_meet
      case rel => exact ⟨_, rfl, by omega, by omega, rfl⟩
  case rest =>
  obtain ⟨at0, rfl, ha1, ha2, rfl⟩ := hcut
  clear hm2 ht2 hw2 hw3 e1 e2 RA12
  clear p0 p1 p2 p3 p4 p5 p6 p7 p8 p9 p10 p11 p12
  have hw4 : IntKind.i64.wrap (1 - at0) = 1 - at0 := IntWalk.i64_in _ (by omega)
  go_wp2_with fail
  refine (write_any Z d K0 at0 ax nx cx VA w12 C12.out.d.din C12.out.x (fun q e => (C12.out.xz q e).1) (by omega) (by omega) (by decide) (by decide)).mono ?_
  rintro e w13 ⟨rfl, Z13, hd, ht⟩
  have C13 := Lib.hid (C12.out.turn hd ht)
  have S13 := Lib.hid (ReadSt.start.write at0 VA)
  obtain ⟨s13, hs13⟩ : ∃ z, wrS K0 at0 VA = z := ⟨_, rfl⟩
  rw [hs13] at C13 S13
  clear hd ht C12 hs13
  go_wp2_with fail
  refine (write_any Z13 d s13 (1 - at0) ay ny cy VB w13 C13.out.d.din C13.out.y (fun q e => (C13.out.yz q e).1) (by omega) (by omega) (by have := S13.out.few; omega) (by have := S13.out.wr; omega)).mono ?_
  rintro e w14 ⟨rfl, Z14, hd, ht⟩
  have C14 := Lib.hid (C13.out.turn hd ht)
  have S14 := Lib.hid (S13.out.write (1 - at0) VB)
  obtain ⟨s14, hs14⟩ : ∃ z, wrS s13 (1 - at0) VB = z := ⟨_, rfl⟩
  rw [hs14] at C14 S14
  clear hd ht C13 hs14 S13
  go_wp2_with fail
  refine (flush_any Z14 d s14 w14 C14.out.d.din).mono ?_
  rintro e w15 ⟨rfl, hd, ht⟩
  rw [S14.out.off, if_neg (by decide)] at hd
  rw [S14.out.off, if_neg (by decide)]
  have D15 := Lib.hid (C14.out.d.turn hd ht)
  have S15 := Lib.hid S14.out.flush
  obtain ⟨s15, hs15⟩ : ∃ z, flushS s14 = z := ⟨_, rfl⟩
  rw [hs15] at D15 S15
  clear hd ht C14 S14 hs15
  go_upto_region 22 with fail
  go_cut [95] (fun z wc => ∃ q : Bool, z = .bool q ∧ w15 = wc)
  case first =>
    by_cases w0 : which = 0
    · subst w0
      go_wp2
      go_meet
      case rel => exact ⟨_, rfl, rfl⟩
    · have d0 : (which == 0) = false := by simpa using w0
      clear w0
      by_cases w1 : which = 1
      · have d1 : (which == 1) = true := by simpa using w1
        clear w1
        go_wp2
        go_meet
        case rel => exact ⟨_, rfl, rfl⟩
      · have d1 : (which == 1) = false := by simpa using w1
        clear w1
        go_wp2
        go_meet
        case rel => exact ⟨_, rfl, rfl⟩
  case rest =>
  obtain ⟨bq, rfl, rfl⟩ := hcut
  go_upto_if 95 with fail
  go_cut [] (fun wc => ∃ (st : Dk) (Z : Nat → Prop), Hid ((ReadSt 2 st ∧ st.pend = []) ∧ DkB w wc d Z (readN st 0)))
  case first =>
    cases bq with
    | true =>
      go_wp2_with fail
      refine (dburst_any Z14 d s15 which bit p w15 D15.out.din HBIT.out.2).mono ?_
      rintro e w16 ⟨rfl, Z16, hd, ht⟩
      have hres : Hid ((ReadSt 2 (burS s15 which bit p) ∧ (burS s15 which bit p).pend = []) ∧ DkB w w16 d Z16 (readN (burS s15 which bit p) 0)) := Lib.hid ⟨S15.out.1.burst S15.out.2 which bit p, by rw [read0]; exact D15.out.turn hd ht⟩
      clear hd ht
      go_wp2_with fail
      go_meet
      case rel => exact ⟨_, _, hres⟩
    | false =>
      have hres : Hid ((ReadSt 2 s15 ∧ s15.pend = []) ∧ DkB w w15 d Z14 (readN s15 0)) := Lib.hid ⟨S15.out, by rw [read0]; exact D15.out⟩
      go_wp2_with fail
      go_meet
      case rel => exact ⟨_, _, hres⟩
  case rest =>
  clear D15 S15
  obtain ⟨st, Z2, hcut⟩ := hcut
  have S2 := Lib.hid hcut.out.1.1
  have HPD := Lib.hid hcut.out.1.2
  have D2 := Lib.hid hcut.out.2
  clear hcut
  have hok : DkOk st := by have := D2.out.din.ok; rw [read0] at this; exact this
  have HOK := Lib.hid hok
  clear hok
  obtain ⟨r1, r2, r3⟩ := rd_eq S2.out.off (by rw [S2.out.len]; omega) 0 (by omega)
  have R1 := Lib.hid r1
  have R2 := Lib.hid r2
  have R3 := Lib.hid r3
  clear r1 r2 r3
  go_wp2_with fail
  refine (read_any Z2 d (readN st 0) 0 wc D2.out.din (by decide) (by decide) (by show st.reads + ((0 : Nat) : Int) + 1 ≤ _; rw [S2.out.rd]; decide)).mono ?_
  rintro e w20 ⟨v20, rfl, ho, hd, ht⟩
  have r1 := R1.out
  have r2 := R2.out
  have r3 := R3.out
  rw [show ((0 : Nat) : Int) = 0 from rfl] at r1 r2 r3
  rw [r1]
  rw [r2] at ho
  rw [r3] at hd
  obtain ⟨a0, c0, rfl⟩ := ho.shapeN 128 (secB_128 S2.out HPD.out HOK.out 0 (by omega))
  have D20 := Lib.hid (D2.out.turn hd ht)
  have O20 := Lib.hid ho.rd
  have hn0 : Hid (∀ q, a0 = some q → ¬ Z2 q.block) := fun q e hz => by
    subst e
    have h1 := owns_ge (q := q) ho (by omega)
    have h2 := D2.out.din.1 _ hz
    omega
  clear r1 r2 r3 hd ht ho R1 R2 R3
  obtain ⟨r1, r2, r3⟩ := rd_eq S2.out.off (by rw [S2.out.len]; omega) 1 (by omega)
  have R1 := Lib.hid r1
  have R2 := Lib.hid r2
  have R3 := Lib.hid r3
  clear r1 r2 r3
  go_wp2_with fail
  refine (read_any Z2 d (readN st 1) 1 w20 D20.out.din (by decide) (by decide) (by show st.reads + ((1 : Nat) : Int) + 1 ≤ _; rw [S2.out.rd]; decide)).mono ?_
  rintro e w21 ⟨v21, rfl, ho, hd, ht⟩
  have r1 := R1.out
  have r2 := R2.out
  have r3 := R3.out
  rw [show ((1 : Nat) : Int) = 1 from rfl] at r1 r2 r3
  rw [r1]
  rw [r2] at ho
  rw [r3] at hd
  obtain ⟨a1, c1, rfl⟩ := ho.shapeN 128 (secB_128 S2.out HPD.out HOK.out 1 (by omega))
  have D21 := Lib.hid (D20.out.turn hd ht)
  have O21 := Lib.hid ho.rd
  have P21 := Lib.hid (O20.out.tnd ht hn0.out)
  clear r1 r2 r3 hd ht ho R1 R2 R3 O20 hn0 D20 D2
  obtain ⟨l1, l2⟩ := reads_law S2.out HPD.out HOK.out
  go_wp2_with fail
  have hnw : Calls Try.prog 32 #[.slice a0 128 c0, .slice a1 128 c1, .int .i64 40] w21 fun e w' => e = .returned (.tuple #[(newB (fun k => secB st k) 40 2).val, .bool (newS (fun k => secB st k) 40 2)]) ∧ Below w21.heap.size w21 w' :=
    newest_any (fun k => match k with | 0 => a0 | _ => a1) (fun _ => 128) (fun k => match k with | 0 => c0 | _ => c1) (fun k => secB st k) 40 w21 (fun k hk => match k, hk with | 0, _ => P21.out | 1, _ => O21.out) (fun _ _ => by omega)
  refine hnw.mono ?_
  rintro e w22 ⟨rfl, hb⟩
  have D22 := Lib.hid (D21.out.more hb)
  obtain ⟨SN, hSN⟩ : ∃ z, newS (fun k => secB st k) 40 2 = z := ⟨_, rfl⟩
  obtain ⟨BN, hBN⟩ : ∃ z, newB (fun k => secB st k) 40 2 = z := ⟨_, rfl⟩
  rw [hSN, hBN]
  rw [hSN] at l1
  rw [hSN, hBN] at l2
  have L1 := Lib.hid l1
  have L2 := Lib.hid l2
  clear hnw hb l1 l2 hSN hBN D21 P21 O21
  obtain ⟨g0, g1, g2, g3, g4, g5, g6, g7, g8, g9, g10, g11, g12⟩ := BN
  rw [show (⟨g0, g1, g2, g3, g4, g5, g6, g7, g8, g9, g10, g11, g12⟩ : Blk).val = .agg #[.int .u64 g0, .int .i64 g1, .int .i64 g2, .int .i64 g3, .int .i64 g4, .int .i64 g5, .int .i64 g6, .int .i64 g7, .int .i64 g8, .int .i64 g9, .int .i64 g10, .int .i64 g11, .int .u64 g12] from rfl]
  have hal := (Below.refl w22.heap.size w22).alloc (Nat.le_refl _) (.cells #[.int .u64 g0, .int .i64 g1, .int .i64 g2, .int .i64 g3, .int .i64 g4, .int .i64 g5, .int .i64 g6, .int .i64 g7, .int .i64 g8, .int .i64 g9, .int .i64 g10, .int .i64 g11, .int .u64 g12] 36)
  have hrow := heap_alloc_new w22 (.cells #[.int .u64 g0, .int .i64 g1, .int .i64 g2, .int .i64 g3, .int .i64 g4, .int .i64 g5, .int .i64 g6, .int .i64 g7, .int .i64 g8, .int .i64 g9, .int .i64 g10, .int .i64 g11, .int .u64 g12] 36)
  have D23 := Lib.hid (D22.out.more hal)
  obtain ⟨w23, hw23⟩ : ∃ z, w22.alloc (.cells #[.int .u64 g0, .int .i64 g1, .int .i64 g2, .int .i64 g3, .int .i64 g4, .int .i64 g5, .int .i64 g6, .int .i64 g7, .int .i64 g8, .int .i64 g9, .int .i64 g10, .int .i64 g11, .int .u64 g12] 36) = z := ⟨_, rfl⟩
  obtain ⟨nb, hnb⟩ : ∃ z, w22.heap.size = z := ⟨_, rfl⟩
  rw [hw23] at D23 hrow
  rw [hnb] at hrow
  have RW := Lib.hid hrow
  have HZN : Hid (∀ x, Z2 x → x < nb) := fun x hx => by rw [← hnb]; exact D22.out.din.1 x hx
  clear hal hrow D22
  go_wp2_with (first | (rw [hw23]) | fail)
  refine (supread_any Z2 d (readN st 2) w23 D23.out.din (by show 2 ≤ st.kept.length; rw [S2.out.len]; omega) (by show st.reads + ((2 : Nat) : Int) + 2 ≤ _; rw [S2.out.rd]; decide)).mono ?_
  rintro e w24 ⟨rfl, hd, ht⟩
  have D24 := Lib.hid (D23.out.turn hd ht)
  have RW24 := Lib.hid (row_tnd RW.out ht (fun hz => by have := HZN.out _ hz; omega))
  rw [L1.out, L2.out]
  clear hd ht RW D23 hw23
  cases SN with
  | false =>
    rw [if_neg (by decide), if_neg (by decide), show blk0.val = .agg #[.int .u64 0, .int .i64 0, .int .i64 0, .int .i64 0, .int .i64 0, .int .i64 0, .int .i64 0, .int .i64 0, .int .i64 0, .int .i64 0, .int .i64 0, .int .i64 0, .int .u64 0] from rfl]
    have hal := (Below.refl w24.heap.size w24).alloc (Nat.le_refl _) (.cells #[.int .u64 0, .int .i64 0, .int .i64 0, .int .i64 0, .int .i64 0, .int .i64 0, .int .i64 0, .int .i64 0, .int .i64 0, .int .i64 0, .int .i64 0, .int .i64 0, .int .u64 0] 28)
    have hrow := heap_alloc_new w24 (.cells #[.int .u64 0, .int .i64 0, .int .i64 0, .int .i64 0, .int .i64 0, .int .i64 0, .int .i64 0, .int .i64 0, .int .i64 0, .int .i64 0, .int .i64 0, .int .i64 0, .int .u64 0] 28)
    have D25 := Lib.hid (D24.out.more hal)
    obtain ⟨p0, p1, p2, p3, p4, p5, p6, p7, p8, p9, p10, p11, p12⟩ := cells13 hrow
    clear hal hrow D24
    go_wp2_with fail
    go_ret
    exact ⟨rfl, D25.out.below⟩
  | true =>
    rw [if_pos rfl, if_pos rfl, show (⟨g0, g1, g2, g3, g4, g5, g6, g7, g8, g9, g10, g11, g12⟩ : Blk).val = .agg #[.int .u64 g0, .int .i64 g1, .int .i64 g2, .int .i64 g3, .int .i64 g4, .int .i64 g5, .int .i64 g6, .int .i64 g7, .int .i64 g8, .int .i64 g9, .int .i64 g10, .int .i64 g11, .int .u64 g12] from rfl]
    have hal := (Below.refl w24.heap.size w24).alloc (Nat.le_refl _) (.cells #[.int .u64 g0, .int .i64 g1, .int .i64 g2, .int .i64 g3, .int .i64 g4, .int .i64 g5, .int .i64 g6, .int .i64 g7, .int .i64 g8, .int .i64 g9, .int .i64 g10, .int .i64 g11, .int .u64 g12] 28)
    have hrow := heap_alloc_new w24 (.cells #[.int .u64 g0, .int .i64 g1, .int .i64 g2, .int .i64 g3, .int .i64 g4, .int .i64 g5, .int .i64 g6, .int .i64 g7, .int .i64 g8, .int .i64 g9, .int .i64 g10, .int .i64 g11, .int .u64 g12] 28)
    have D25 := Lib.hid (D24.out.more hal)
    have RW25 := Lib.hid (row_keep RW24.out hal)
    obtain ⟨w25, hw25⟩ : ∃ z, w24.alloc (.cells #[.int .u64 g0, .int .i64 g1, .int .i64 g2, .int .i64 g3, .int .i64 g4, .int .i64 g5, .int .i64 g6, .int .i64 g7, .int .i64 g8, .int .i64 g9, .int .i64 g10, .int .i64 g11, .int .u64 g12] 28) = z := ⟨_, rfl⟩
    obtain ⟨sb, hsb⟩ : ∃ z, w24.heap.size = z := ⟨_, rfl⟩
    rw [hw25] at D25 hrow RW25
    rw [hsb] at hrow
    have RS25 := Lib.hid hrow
    clear hal hrow D24 RW24
    go_wp2_with (first | (rw [hw25]) | fail)
    clear hw25 L1 L2 S2 HPD HOK HB HT HWA HAB HBIT HWH HP HLA HLB HLA1 HLB1 HZN hr7
    have hBd : Below w.heap.size w w25.drew := belowD D25.out.below 1
    refine' reg_free (G := Kept) (pickF [eqV _, eqV _, eqV _, eqV _, eqV _, eqV _, eqV _, eqV _, eqV _]) [131, 132, 133, 134, 135, 136, 137, 138, 12] [[], [0], [1], [2], [2, 3], [2], [2, 4, 5], [2, 6], [7]] [0, 1, 2, 3, 4, 5, 6, 7, 8] (by kernel_rfl) Kept.refl Kept.trans (pick_stays ⟨eqV_stays _, eqV_stays _, eqV_stays _, eqV_stays _, eqV_stays _, eqV_stays _, eqV_stays _, eqV_stays _, eqV_stays _, trivial⟩) 139 rfl (by kernel_rfl) (by kernel_rfl) rfl rfl ?r1obl ?r1fin
    case r1obl =>
      refine And.intro ?r1o0 (And.intro ?r1o1 (And.intro ?r1o2 (And.intro ?r1o3 (And.intro ?r1o4 (And.intro ?r1o5 (And.intro ?r1o6 (And.intro ?r1o7 (And.intro ?r1o8 (True.intro)))))))))
      case r1o0 =>
        intro w1 hG
        refine turn_on (by rfl) ?_
        intro K hK
        go_simp
        refine hK _ _ ⟨rfl, Kept.refl _, ?_⟩
        show _ = _
        simp only [List.getD_cons_zero, List.getD_cons_succ, Array.getD_eq_getD_getElem?, List.getElem?_toArray, List.getElem?_cons_zero, List.getElem?_cons_succ, Option.getD_some]
        rfl
      case r1o1 =>
        intro w1 hG
        intro v0 h0
        change _ = _ at h0
        subst h0
        refine turn_on (by rfl) ?_
        intro K hK
        simp only [List.getD_cons_zero, List.getD_cons_succ, List.setIfInBounds_toArray, List.set_cons_zero, List.set_cons_succ]
        go_simp
        refine hK _ _ ⟨rfl, Kept.refl _, ?_⟩
        show _ = _
        simp only [List.getD_cons_zero, List.getD_cons_succ, Array.getD_eq_getD_getElem?, List.getElem?_toArray, List.getElem?_cons_zero, List.getElem?_cons_succ, Option.getD_some]
        rfl
      case r1o2 =>
        intro w1 hG
        intro v1 h1
        change _ = _ at h1
        subst h1
        refine turn_on (by rfl) ?_
        intro K hK
        simp only [List.getD_cons_zero, List.getD_cons_succ, List.setIfInBounds_toArray, List.set_cons_zero, List.set_cons_succ]
        go_simp
        refine hK _ _ ⟨rfl, Kept.refl _, ?_⟩
        show _ = _
        simp only [List.getD_cons_zero, List.getD_cons_succ, Array.getD_eq_getD_getElem?, List.getElem?_toArray, List.getElem?_cons_zero, List.getElem?_cons_succ, Option.getD_some]
        rfl
      case r1o3 =>
        intro w1 hG
        intro v2 h2
        change _ = _ at h2
        subst h2
        refine turn_on (by rfl) ?_
        intro K hK
        simp only [List.getD_cons_zero, List.getD_cons_succ, List.setIfInBounds_toArray, List.set_cons_zero, List.set_cons_succ]
        obtain ⟨p0, p1, p2, p3, p4, p5, p6, p7, p8, p9, p10, p11, p12⟩ := cells13 (row_keep (w := w25.drew) RS25.out hG)
        go_simp
        refine hK _ _ ⟨rfl, Kept.refl _, ?_⟩
        show _ = _
        simp only [List.getD_cons_zero, List.getD_cons_succ, Array.getD_eq_getD_getElem?, List.getElem?_toArray, List.getElem?_cons_zero, List.getElem?_cons_succ, Option.getD_some]
        rfl
      case r1o4 =>
        intro w1 hG
        intro v2 h2
        change _ = _ at h2
        subst h2
        intro v3 h3
        change _ = _ at h3
        subst h3
        refine turn_on (by rfl) ?_
        intro K hK
        simp only [List.getD_cons_zero, List.getD_cons_succ, List.setIfInBounds_toArray, List.set_cons_zero, List.set_cons_succ]
        go_simp
        have hof := of_any (⟨g0, g1, g2, g3, g4, g5, g6, g7, g8, g9, g10, g11, g12⟩ : Blk) w1
        rw [show (⟨g0, g1, g2, g3, g4, g5, g6, g7, g8, g9, g10, g11, g12⟩ : Blk).val = .agg #[.int .u64 g0, .int .i64 g1, .int .i64 g2, .int .i64 g3, .int .i64 g4, .int .i64 g5, .int .i64 g6, .int .i64 g7, .int .i64 g8, .int .i64 g9, .int .i64 g10, .int .i64 g11, .int .u64 g12] from rfl] at hof
        refine Calls.mono hof ?_
        rintro e w2 ⟨rfl, hbx⟩
        refine hK _ _ ⟨rfl, hbx, ?_⟩
        show _ = _
        simp only [List.getD_cons_zero, List.getD_cons_succ, Array.getD_eq_getD_getElem?, List.getElem?_toArray, List.getElem?_cons_zero, List.getElem?_cons_succ, Option.getD_some]
        rfl
      case r1o5 =>
        intro w1 hG
        intro v2 h2
        change _ = _ at h2
        subst h2
        refine turn_on (by rfl) ?_
        intro K hK
        simp only [List.getD_cons_zero, List.getD_cons_succ, List.setIfInBounds_toArray, List.set_cons_zero, List.set_cons_succ]
        obtain ⟨p0, p1, p2, p3, p4, p5, p6, p7, p8, p9, p10, p11, p12⟩ := cells13 (row_keep (w := w25.drew) RW25.out hG)
        go_simp
        refine hK _ _ ⟨rfl, Kept.refl _, ?_⟩
        show _ = _
        simp only [List.getD_cons_zero, List.getD_cons_succ, Array.getD_eq_getD_getElem?, List.getElem?_toArray, List.getElem?_cons_zero, List.getElem?_cons_succ, Option.getD_some]
        rfl
      case r1o6 =>
        intro w1 hG
        intro v2 h2
        change _ = _ at h2
        subst h2
        intro v4 h4
        change _ = _ at h4
        subst h4
        intro v5 h5
        change _ = _ at h5
        subst h5
        refine turn_on (by rfl) ?_
        intro K hK
        simp only [List.getD_cons_zero, List.getD_cons_succ, List.setIfInBounds_toArray, List.set_cons_zero, List.set_cons_succ]
        go_simp
        refine hK _ _ ⟨rfl, Kept.refl _, ?_⟩
        show _ = _
        simp only [List.getD_cons_zero, List.getD_cons_succ, Array.getD_eq_getD_getElem?, List.getElem?_toArray, List.getElem?_cons_zero, List.getElem?_cons_succ, Option.getD_some]
        rfl
      case r1o7 =>
        intro w1 hG
        intro v2 h2
        change _ = _ at h2
        subst h2
        intro v6 h6
        change _ = _ at h6
        subst h6
        refine turn_on (by rfl) ?_
        intro K hK
        simp only [List.getD_cons_zero, List.getD_cons_succ, List.setIfInBounds_toArray, List.set_cons_zero, List.set_cons_succ]
        go_simp
        refine hK _ _ ⟨rfl, Kept.refl _, ?_⟩
        show _ = _
        simp only [List.getD_cons_zero, List.getD_cons_succ, Array.getD_eq_getD_getElem?, List.getElem?_toArray, List.getElem?_cons_zero, List.getElem?_cons_succ, Option.getD_some]
        rfl
      case r1o8 =>
        intro w1 hG
        intro v7 h7
        change _ = _ at h7
        subst h7
        refine turn_on (by rfl) ?_
        intro K hK
        simp only [List.getD_cons_zero, List.getD_cons_succ, List.setIfInBounds_toArray, List.set_cons_zero, List.set_cons_succ]
        go_simp
        refine hK _ _ ⟨rfl, Kept.refl _, ?_⟩
        show _ = _
        simp only [List.getD_cons_zero, List.getD_cons_succ, Array.getD_eq_getD_getElem?, List.getElem?_toArray, List.getElem?_cons_zero, List.getElem?_cons_succ, Option.getD_some]
        rfl
    intro w1 hG
    intro v0 h0
    change _ = _ at h0
    subst h0
    intro v1 h1
    change _ = _ at h1
    subst h1
    intro v2 h2
    change _ = _ at h2
    subst h2
    intro v3 h3
    change _ = _ at h3
    subst h3
    intro v4 h4
    change _ = _ at h4
    subst h4
    intro v5 h5
    change _ = _ at h5
    subst h5
    intro v6 h6
    change _ = _ at h6
    subst h6
    intro v7 h7
    change _ = _ at h7
    subst h7
    intro v8 h8
    change _ = _ at h8
    subst h8
    simp only [Given, List.getD_cons_zero, List.getD_cons_succ, List.setIfInBounds_toArray, List.set_cons_zero, List.set_cons_succ]
    go_wp2_with fail
    go_ret
    exact ⟨rfl, Below.call hBd hG⟩
end Go.Proofs.Ytcbnebcooiagmaa
namespace Go.Proofs.Ytcbnebcooiagmaa
open Go.RowKit
set_option linter.unusedSimpArgs false in
set_option linter.unusedVariables false in
set_option maxRecDepth 100000 in
set_option maxHeartbeats 6000000 in
theorem superreads1 (b t : Blk) (swap : Bool) (bit : Int) (p : BitVec 32) (which : Int) (w : World) (hb : b.Wf) (ht : t.Wf) (hbit : -9223372036854775808 ≤ bit ∧ bit ≤ 9223372036854775807) (hwh : -9223372036854775808 ≤ which ∧ which ≤ 9223372036854775807) (h7 : (rnum p).tmod 7 = 3) :
    Calls Try.prog 7 #[b.val, t.val, .bool swap, .int .i64 bit, .int .u32 (rnum p), .int .i64 which] w fun e w' => e = .returned (.bool true) ∧ Below w.heap.size w w' := by
  obtain ⟨r7, hr7⟩ : ∃ r, (rnum p).tmod 7 = r := ⟨_, rfl⟩
  rw [hr7] at h7
  subst h7
  have HB := Lib.hid hb
  have HT := Lib.hid ht
  have HBIT := Lib.hid hbit
  have HWH := Lib.hid hwh
  have HP := Lib.hid (rfl : rnum p = rnum p)
  clear hb ht hbit hwh
  obtain ⟨m0, x0, x1, x2, x3, x4, x5, x6, x7, x8, xs, xn, xq⟩ := b
  obtain ⟨k0, y0, y1, y2, y3, y4, y5, y6, y7, y8, ys, yn, yq⟩ := t
  obtain ⟨e1, e2⟩ := HB.out.ep
  replace e1 : 0 ≤ m0 := e1
  replace e2 : m0 ≤ 18446744073709551615 := e2
  rw [show (⟨m0, x0, x1, x2, x3, x4, x5, x6, x7, x8, xs, xn, xq⟩ : Blk).val = .agg #[.int .u64 m0, .int .i64 x0, .int .i64 x1, .int .i64 x2, .int .i64 x3, .int .i64 x4, .int .i64 x5, .int .i64 x6, .int .i64 x7, .int .i64 x8, .int .i64 xs, .int .i64 xn, .int .u64 xq] from rfl, show (⟨k0, y0, y1, y2, y3, y4, y5, y6, y7, y8, ys, yn, yq⟩ : Blk).val = .agg #[.int .u64 k0, .int .i64 y0, .int .i64 y1, .int .i64 y2, .int .i64 y3, .int .i64 y4, .int .i64 y5, .int .i64 y6, .int .i64 y7, .int .i64 y8, .int .i64 ys, .int .i64 yn, .int .u64 yq] from rfl]
  have hba : Below w.heap.size w ((w.alloc (.cells #[.int .u64 m0, .int .i64 x0, .int .i64 x1, .int .i64 x2, .int .i64 x3, .int .i64 x4, .int .i64 x5, .int .i64 x6, .int .i64 x7, .int .i64 x8, .int .i64 xs, .int .i64 xn, .int .u64 xq] 28)).alloc (.cells #[.int .u64 k0, .int .i64 y0, .int .i64 y1, .int .i64 y2, .int .i64 y3, .int .i64 y4, .int .i64 y5, .int .i64 y6, .int .i64 y7, .int .i64 y8, .int .i64 ys, .int .i64 yn, .int .u64 yq] 28)) := ((Below.refl _ _).alloc (Nat.le_refl _) _).alloc (by simp) _
  have hra : (((w.alloc (.cells #[.int .u64 m0, .int .i64 x0, .int .i64 x1, .int .i64 x2, .int .i64 x3, .int .i64 x4, .int .i64 x5, .int .i64 x6, .int .i64 x7, .int .i64 x8, .int .i64 xs, .int .i64 xn, .int .u64 xq] 28)).alloc (.cells #[.int .u64 k0, .int .i64 y0, .int .i64 y1, .int .i64 y2, .int .i64 y3, .int .i64 y4, .int .i64 y5, .int .i64 y6, .int .i64 y7, .int .i64 y8, .int .i64 ys, .int .i64 yn, .int .u64 yq] 28))).heap[w.heap.size]? = some (.cells #[.int .u64 m0, .int .i64 x0, .int .i64 x1, .int .i64 x2, .int .i64 x3, .int .i64 x4, .int .i64 x5, .int .i64 x6, .int .i64 x7, .int .i64 x8, .int .i64 xs, .int .i64 xn, .int .u64 xq] 28 (0, 0)) := by
    rw [heap_old _ _ (by simp)]
    exact heap_alloc_new _ _
  have hrt : (((w.alloc (.cells #[.int .u64 m0, .int .i64 x0, .int .i64 x1, .int .i64 x2, .int .i64 x3, .int .i64 x4, .int .i64 x5, .int .i64 x6, .int .i64 x7, .int .i64 x8, .int .i64 xs, .int .i64 xn, .int .u64 xq] 28)).alloc (.cells #[.int .u64 k0, .int .i64 y0, .int .i64 y1, .int .i64 y2, .int .i64 y3, .int .i64 y4, .int .i64 y5, .int .i64 y6, .int .i64 y7, .int .i64 y8, .int .i64 ys, .int .i64 yn, .int .u64 yq] 28))).heap[w.heap.size + 1]? = some (.cells #[.int .u64 k0, .int .i64 y0, .int .i64 y1, .int .i64 y2, .int .i64 y3, .int .i64 y4, .int .i64 y5, .int .i64 y6, .int .i64 y7, .int .i64 y8, .int .i64 ys, .int .i64 yn, .int .u64 yq] 28 (0, 0)) := by
    have := heap_alloc_new (w.alloc (.cells #[.int .u64 m0, .int .i64 x0, .int .i64 x1, .int .i64 x2, .int .i64 x3, .int .i64 x4, .int .i64 x5, .int .i64 x6, .int .i64 x7, .int .i64 x8, .int .i64 xs, .int .i64 xn, .int .u64 xq] 28)) (.cells #[.int .u64 k0, .int .i64 y0, .int .i64 y1, .int .i64 y2, .int .i64 y3, .int .i64 y4, .int .i64 y5, .int .i64 y6, .int .i64 y7, .int .i64 y8, .int .i64 ys, .int .i64 yn, .int .u64 yq] 28)
    simpa using this
  obtain ⟨wa, hwa⟩ : ∃ wa, ((w.alloc (.cells #[.int .u64 m0, .int .i64 x0, .int .i64 x1, .int .i64 x2, .int .i64 x3, .int .i64 x4, .int .i64 x5, .int .i64 x6, .int .i64 x7, .int .i64 x8, .int .i64 xs, .int .i64 xn, .int .u64 xq] 28)).alloc (.cells #[.int .u64 k0, .int .i64 y0, .int .i64 y1, .int .i64 y2, .int .i64 y3, .int .i64 y4, .int .i64 y5, .int .i64 y6, .int .i64 y7, .int .i64 y8, .int .i64 ys, .int .i64 yn, .int .u64 yq] 28)) = wa := ⟨_, rfl⟩
  obtain ⟨ab, hab⟩ : ∃ ab, w.heap.size = ab := ⟨_, rfl⟩
  rw [hwa] at hba hra hrt
  rw [hab] at hra hrt
  have BA := Lib.hid hba
  have RA := Lib.hid hra
  have RT := Lib.hid hrt
  have HWA := Lib.hid hwa
  have HAB := Lib.hid hab
  clear hba hra hrt hwa hab
  go_enter Try.func7, Try.ntmps7
  go_wp2_with fail
  rw [HWA.out, HAB.out]
  refine (known20 wa).mono ?_
  rintro e w1 ⟨rfl, hb1⟩
  have RA1 := Lib.hid (row_keep RA.out hb1)
  have RT1 := Lib.hid (row_keep RT.out hb1)
  have B1 := Lib.hid (Below.call BA.out hb1)
  clear hb1 RA RT BA
  go_wp2_with fail
  refine (shape20_any w1).mono ?_
  rintro e w2 ⟨rfl, hb2⟩
  have RA2 := Lib.hid (row_keep RA1.out hb2)
  have RT2 := Lib.hid (row_keep RT1.out hb2)
  have B2 := Lib.hid (Below.call B1.out hb2)
  clear hb2 RA1 RT1 B1
  obtain ⟨p0, p1, p2, p3, p4, p5, p6, p7, p8, p9, p10, p11, p12⟩ := cells13 RA2.out
  have hfz : ∀ i, w2.frozen? ⟨ab, i, none⟩ = false := fun i => frozen_of_row w2 (ab) i _ _ RA2.out
  have hg := sets_grown (b := ab) [(1, .int .i64 40), (2, .int .i64 128), (3, .int .i64 4), (4, .int .i64 2), (5, .int .i64 16), (6, .int .i64 4), (7, .int .i64 2), (8, .int .i64 2), (9, .int .i64 4)] w2
  have hr := sets_row [(1, .int .i64 40), (2, .int .i64 128), (3, .int .i64 4), (4, .int .i64 2), (5, .int .i64 16), (6, .int .i64 4), (7, .int .i64 2), (8, .int .i64 2), (9, .int .i64 4)] RA2.out
  obtain ⟨w3, hw⟩ : ∃ w3, sets w2 (ab) [(1, .int .i64 40), (2, .int .i64 128), (3, .int .i64 4), (4, .int .i64 2), (5, .int .i64 16), (6, .int .i64 4), (7, .int .i64 2), (8, .int .i64 2), (9, .int .i64 4)] = w3 := ⟨_, rfl⟩
  rw [hw] at hg hr
  have hr' : w3.heap[ab]? = some (.cells #[.int .u64 m0, .int .i64 40, .int .i64 128, .int .i64 4, .int .i64 2, .int .i64 16, .int .i64 4, .int .i64 2, .int .i64 2, .int .i64 4, .int .i64 xs, .int .i64 xn, .int .u64 xq] 28 (0, 0)) := by rw [hr]; rw [fold9]
  have RA3 := Lib.hid hr'
  have RT3 : Hid (w3.heap[ab + 1]? = some (.cells #[.int .u64 k0, .int .i64 y0, .int .i64 y1, .int .i64 y2, .int .i64 y3, .int .i64 y4, .int .i64 y5, .int .i64 y6, .int .i64 y7, .int .i64 y8, .int .i64 ys, .int .i64 yn, .int .u64 yq] 28 (0, 0))) := (hg.block (ab + 1) (Array.getElem?_eq_some_iff.1 RT2.out).1 (fun e => by injection e with e; omega)).trans RT2.out
  have B3 : Hid (Below w.heap.size w w3) := Below.grown B2.out hg B2.out.size (fun k e => by injection e with e; have := HAB.out; omega)
  have HW3 := Lib.hid hw
  clear hg hr hr' hw
  have hw : (((((((((w2.setCell ⟨ab, 1, none⟩ (.int .i64 40)).setCell ⟨ab, 2, none⟩ (.int .i64 128)).setCell ⟨ab, 3, none⟩ (.int .i64 4)).setCell ⟨ab, 4, none⟩ (.int .i64 2)).setCell ⟨ab, 5, none⟩ (.int .i64 16)).setCell ⟨ab, 6, none⟩ (.int .i64 4)).setCell ⟨ab, 7, none⟩ (.int .i64 2)).setCell ⟨ab, 8, none⟩ (.int .i64 2)).setCell ⟨ab, 9, none⟩ (.int .i64 4)) = w3 := HW3.out
  go_wp2_with (rw [hw])
  clear hw hfz
  clear p0 p1 p2 p3 p4 p5 p6 p7 p8 p9 p10 p11 p12
  refine (shape20_any w3).mono ?_
  rintro e w4 ⟨rfl, hb4⟩
  have RA4 := Lib.hid (row_keep RA3.out hb4)
  have RT4 := Lib.hid (row_keep RT3.out hb4)
  have B4 := Lib.hid (Below.call B3.out hb4)
  clear hb4 RA3 RT3 B3 RA2 RT2 B2 HW3
  obtain ⟨r0, r1, r2, r3, r4, r5, r6, r7, r8, r9, r10, r11, r12⟩ := cells13 RT4.out
  have hfz : ∀ i, w4.frozen? ⟨ab + 1, i, none⟩ = false := fun i => frozen_of_row w4 (ab + 1) i _ _ RT4.out
  have hg := sets_grown (b := ab + 1) [(1, .int .i64 40), (2, .int .i64 128), (3, .int .i64 4), (4, .int .i64 2), (5, .int .i64 16), (6, .int .i64 4), (7, .int .i64 2), (8, .int .i64 2), (9, .int .i64 4)] w4
  have hr := sets_row [(1, .int .i64 40), (2, .int .i64 128), (3, .int .i64 4), (4, .int .i64 2), (5, .int .i64 16), (6, .int .i64 4), (7, .int .i64 2), (8, .int .i64 2), (9, .int .i64 4)] RT4.out
  obtain ⟨w5, hw⟩ : ∃ w5, sets w4 (ab + 1) [(1, .int .i64 40), (2, .int .i64 128), (3, .int .i64 4), (4, .int .i64 2), (5, .int .i64 16), (6, .int .i64 4), (7, .int .i64 2), (8, .int .i64 2), (9, .int .i64 4)] = w5 := ⟨_, rfl⟩
  rw [hw] at hg hr
  have hr' : w5.heap[ab + 1]? = some (.cells #[.int .u64 k0, .int .i64 40, .int .i64 128, .int .i64 4, .int .i64 2, .int .i64 16, .int .i64 4, .int .i64 2, .int .i64 2, .int .i64 4, .int .i64 ys, .int .i64 yn, .int .u64 yq] 28 (0, 0)) := by rw [hr]; rw [fold9]
  have RT5 := Lib.hid hr'
  have RA5 : Hid (w5.heap[ab]? = some (.cells #[.int .u64 m0, .int .i64 40, .int .i64 128, .int .i64 4, .int .i64 2, .int .i64 16, .int .i64 4, .int .i64 2, .int .i64 2, .int .i64 4, .int .i64 xs, .int .i64 xn, .int .u64 xq] 28 (0, 0))) := (hg.block (ab) (Array.getElem?_eq_some_iff.1 RA4.out).1 (fun e => by injection e with e; omega)).trans RA4.out
  have B5 : Hid (Below w.heap.size w w5) := Below.grown B4.out hg B4.out.size (fun k e => by injection e with e; have := HAB.out; omega)
  have HW5 := Lib.hid hw
  clear hg hr hr' hw
  obtain ⟨z0, z1, z2, z3, z4, z5, z6, z7, z8, z9, z10, z11, z12⟩ := cells13 RT5.out
  have hfz2 : ∀ i, w5.frozen? ⟨ab + 1, i, none⟩ = false := fun i => frozen_of_row w5 (ab + 1) i _ _ RT5.out
  have hg := sets_grown (b := ab + 1) [(9, .int .i64 5)] w5
  have hr := sets_row [(9, .int .i64 5)] RT5.out
  obtain ⟨w6, hw⟩ : ∃ w6, sets w5 (ab + 1) [(9, .int .i64 5)] = w6 := ⟨_, rfl⟩
  rw [hw] at hg hr
  have hr' : w6.heap[ab + 1]? = some (.cells #[.int .u64 k0, .int .i64 40, .int .i64 128, .int .i64 4, .int .i64 2, .int .i64 16, .int .i64 4, .int .i64 2, .int .i64 2, .int .i64 5, .int .i64 ys, .int .i64 yn, .int .u64 yq] 28 (0, 0)) := by rw [hr]; rfl
  have RT6 := Lib.hid hr'
  have RA6 : Hid (w6.heap[ab]? = some (.cells #[.int .u64 m0, .int .i64 40, .int .i64 128, .int .i64 4, .int .i64 2, .int .i64 16, .int .i64 4, .int .i64 2, .int .i64 2, .int .i64 4, .int .i64 xs, .int .i64 xn, .int .u64 xq] 28 (0, 0))) := (hg.block (ab) (Array.getElem?_eq_some_iff.1 RA5.out).1 (fun e => by injection e with e; omega)).trans RA5.out
  have B6 : Hid (Below w.heap.size w w6) := Below.grown B5.out hg B5.out.size (fun k e => by injection e with e; have := HAB.out; omega)
  have HW6 := Lib.hid hw
  clear hg hr hr' hw
  have hw : (((((((((w4.setCell ⟨ab + 1, 1, none⟩ (.int .i64 40)).setCell ⟨ab + 1, 2, none⟩ (.int .i64 128)).setCell ⟨ab + 1, 3, none⟩ (.int .i64 4)).setCell ⟨ab + 1, 4, none⟩ (.int .i64 2)).setCell ⟨ab + 1, 5, none⟩ (.int .i64 16)).setCell ⟨ab + 1, 6, none⟩ (.int .i64 4)).setCell ⟨ab + 1, 7, none⟩ (.int .i64 2)).setCell ⟨ab + 1, 8, none⟩ (.int .i64 2)).setCell ⟨ab + 1, 9, none⟩ (.int .i64 4)) = w5 := HW5.out
  have hw2 : (w5.setCell ⟨ab + 1, 9, none⟩ (.int .i64 5)) = w6 := HW6.out
  obtain ⟨p0, p1, p2, p3, p4, p5, p6, p7, p8, p9, p10, p11, p12⟩ := cells13 RA6.out
  go_wp2_with (first | (rw [hw]) | (rw [hw2]) | fail)
  clear hw hfz hw2 hfz2 HW6 HW5
  clear p0 p1 p2 p3 p4 p5 p6 p7 p8 p9 p10 p11 p12 r0 r1 r2 r3 r4 r5 r6 r7 r8 r9 r10 r11 r12 z0 z1 z2 z3 z4 z5 z6 z7 z8 z9 z10 z11 z12
  have RA7 := Lib.hid RA6.out
  have RT7 := Lib.hid RT6.out
  have B7 := Lib.hid B6.out
  obtain ⟨w7, hw7⟩ : ∃ z, w6 = z := ⟨_, rfl⟩
  rw [hw7] at RA7 RT7 B7 ⊢
  clear hw7
  have hwA : (⟨m0, 40, 128, 4, 2, 16, 4, 2, 2, 4, xs, xn, xq⟩ : Blk).Wf := ⟨⟨e1, e2⟩, kb_wf.w0, kb_wf.w1, kb_wf.w2, kb_wf.w3, kb_wf.w4, kb_wf.w5, kb_wf.w6, kb_wf.w7, kb_wf.w8, HB.out.rs, HB.out.rn, HB.out.sq⟩
  have hwB : (⟨k0, 40, 128, 4, 2, 16, 4, 2, 2, 5, ys, yn, yq⟩ : Blk).Wf := ⟨HT.out.ep, kb_wf.w0, kb_wf.w1, kb_wf.w2, kb_wf.w3, kb_wf.w4, kb_wf.w5, kb_wf.w6, kb_wf.w7, (show (Lit.int .i64 5).wf = true by decide), HT.out.rs, HT.out.rn, HT.out.sq⟩
  have HWFA := Lib.hid hwA
  have HWFB := Lib.hid hwB
  clear hwA hwB
  have h1 := of_any (⟨m0, 40, 128, 4, 2, 16, 4, 2, 2, 4, xs, xn, xq⟩ : Blk) w7
  rw [show (⟨m0, 40, 128, 4, 2, 16, 4, 2, 2, 4, xs, xn, xq⟩ : Blk).val = .agg #[.int .u64 m0, .int .i64 40, .int .i64 128, .int .i64 4, .int .i64 2, .int .i64 16, .int .i64 4, .int .i64 2, .int .i64 2, .int .i64 4, .int .i64 xs, .int .i64 xn, .int .u64 xq] from rfl] at h1
  refine h1.mono ?_
  rintro e w8 ⟨rfl, hb8⟩
  have RA8 := Lib.hid (row_keep RA7.out hb8)
  have RT8 := Lib.hid (row_keep RT7.out hb8)
  have B8 := Lib.hid (Below.call B7.out hb8)
  clear h1 hb8 RA7 RT7 B7
  go_wp2_with fail
  have h1 := refenc_any (⟨m0, 40, 128, 4, 2, 16, 4, 2, 2, 4, xs, xn, xq⟩ : Blk) w8 HWFA.out
  rw [show (⟨m0, 40, 128, 4, 2, 16, 4, 2, 2, 4, xs, xn, xq⟩ : Blk).val = .agg #[.int .u64 m0, .int .i64 40, .int .i64 128, .int .i64 4, .int .i64 2, .int .i64 16, .int .i64 4, .int .i64 2, .int .i64 2, .int .i64 4, .int .i64 xs, .int .i64 xn, .int .u64 xq] from rfl] at h1
  refine h1.mono ?_
  rintro e w9 ⟨v9, rfl, ho9, hb9⟩
  obtain ⟨EA, hEA⟩ : ∃ x, supE (⟨m0, 40, 128, 4, 2, 16, 4, 2, 2, 4, xs, xn, xq⟩ : Blk) = x := ⟨_, rfl⟩
  obtain ⟨VA, hVA⟩ : ∃ x, supV (⟨m0, 40, 128, 4, 2, 16, 4, 2, 2, 4, xs, xn, xq⟩ : Blk) = x := ⟨_, rfl⟩
  have hla : EA = 0 → 64 ≤ VA.length := fun h => by rw [← hVA]; exact (supV_len (by rw [hEA, h])).2.1
  rw [hVA] at ho9
  rw [hEA]
  obtain ⟨nx, hnx⟩ : ∃ x, VA.length = x := ⟨_, rfl⟩
  obtain ⟨ax, cx, rfl⟩ := ho9.shapeN nx hnx
  rw [hnx] at hla
  have HLA := Lib.hid hla
  have OX9 := Lib.hid ho9.rd
  have RT9 := Lib.hid (row_keep RT8.out hb9)
  have RA9 := Lib.hid (row_keep RA8.out hb9)
  have B9 := Lib.hid (Below.call B8.out hb9)
  clear h1 hb9 RA8 RT8 B8 ho9 hla hEA hVA hnx HWFA
  obtain ⟨q0, q1, q2, q3, q4, q5, q6, q7, q8, q9, q10, q11, q12⟩ := cells13 RT9.out
  go_wp2_with fail
  clear q0 q1 q2 q3 q4 q5 q6 q7 q8 q9 q10 q11 q12
  have h1 := of_any (⟨k0, 40, 128, 4, 2, 16, 4, 2, 2, 5, ys, yn, yq⟩ : Blk) w9
  rw [show (⟨k0, 40, 128, 4, 2, 16, 4, 2, 2, 5, ys, yn, yq⟩ : Blk).val = .agg #[.int .u64 k0, .int .i64 40, .int .i64 128, .int .i64 4, .int .i64 2, .int .i64 16, .int .i64 4, .int .i64 2, .int .i64 2, .int .i64 5, .int .i64 ys, .int .i64 yn, .int .u64 yq] from rfl] at h1
  refine h1.mono ?_
  rintro e w10 ⟨rfl, hb10⟩
  have RA10 := Lib.hid (row_keep RA9.out hb10)
  have OX10 := Lib.hid (OX9.out.below hb10)
  have B10 := Lib.hid (Below.call B9.out hb10)
  clear h1 hb10 RA9 RT9 B9 OX9
  go_wp2_with fail
  have h1 := refenc_any (⟨k0, 40, 128, 4, 2, 16, 4, 2, 2, 5, ys, yn, yq⟩ : Blk) w10 HWFB.out
  rw [show (⟨k0, 40, 128, 4, 2, 16, 4, 2, 2, 5, ys, yn, yq⟩ : Blk).val = .agg #[.int .u64 k0, .int .i64 40, .int .i64 128, .int .i64 4, .int .i64 2, .int .i64 16, .int .i64 4, .int .i64 2, .int .i64 2, .int .i64 5, .int .i64 ys, .int .i64 yn, .int .u64 yq] from rfl] at h1
  refine h1.mono ?_
  rintro e w11 ⟨v11, rfl, ho11, hb11⟩
  obtain ⟨EB, hEB⟩ : ∃ x, supE (⟨k0, 40, 128, 4, 2, 16, 4, 2, 2, 5, ys, yn, yq⟩ : Blk) = x := ⟨_, rfl⟩
  obtain ⟨VB, hVB⟩ : ∃ x, supV (⟨k0, 40, 128, 4, 2, 16, 4, 2, 2, 5, ys, yn, yq⟩ : Blk) = x := ⟨_, rfl⟩
  have hlb : EB = 0 → 64 ≤ VB.length := fun h => by rw [← hVB]; exact (supV_len (by rw [hEB, h])).2.1
  rw [hVB] at ho11
  rw [hEB]
  obtain ⟨ny, hny⟩ : ∃ x, VB.length = x := ⟨_, rfl⟩
  obtain ⟨ay, cy, rfl⟩ := ho11.shapeN ny hny
  rw [hny] at hlb
  have HLB := Lib.hid hlb
  have OY11 := Lib.hid ho11.rd
  have OX11 := Lib.hid (OX10.out.below hb11)
  have RA11 := Lib.hid (row_keep RA10.out hb11)
  have B11 := Lib.hid (Below.call B10.out hb11)
  clear h1 hb11 RA10 OX10 B10 ho11 hlb hEB hVB hny HWFB
  by_cases h0 : EA = 0
  rotate_left
  · have d0 : (EA != 0) = true := by simpa using h0
    clear h0
    go_wp2_with fail
    go_ret
    exact ⟨rfl, B11.out⟩
  by_cases h2 : EB = 0
  rotate_left
  · have d0 : (EA != 0) = false := by simpa using h0
    have d2 : (EB != 0) = true := by simpa using h2
    clear h0 h2
    go_wp2_with fail
    go_ret
    exact ⟨rfl, B11.out⟩
  have HLA1 := Lib.hid (HLA.out h0)
  have HLB1 := Lib.hid (HLB.out h2)
  subst h0 h2
  go_wp2_with fail
  refine (new_any 40 128 w11 r40).mono ?_
  rintro e w12 ⟨d, Z, rfl, hd, hz, hb⟩
  have C12 : Hid (RdsW w w12 d Z K0 ax nx cx VA ay ny cy VB) :=
    RdsW.mk (DkB.mk hd (fun k h => Nat.le_trans B11.out.size (hz k h)) (Below.call B11.out hb)) (OX11.out.below hb) (OY11.out.below hb)
      (fun q e => by subst e; have h1 := rd_lt OX11.out (by have := HLA1.out; omega); exact ⟨fun h => by have := hz _ h; omega, Nat.lt_of_lt_of_le h1 hb.size⟩)
      (fun q e => by subst e; have h1 := rd_lt OY11.out (by have := HLB1.out; omega); exact ⟨fun h => by have := hz _ h; omega, Nat.lt_of_lt_of_le h1 hb.size⟩)
  have RA12 := Lib.hid (row_keep RA11.out hb)
  clear hd hz hb OX11 OY11 RA11 B11
  obtain ⟨p0, p1, p2, p3, p4, p5, p6, p7, p8, p9, p10, p11, p12⟩ := cells13 RA12.out
  have hm2 : 0 ≤ m0 % 2 ∧ m0 % 2 ≤ 1 := by omega
  have ht2 : m0.tmod 2 = m0 % 2 := Int.tmod_eq_emod_of_nonneg e1
  have hw2 : IntKind.i64.wrap (m0 % 2) = m0 % 2 := IntWalk.i64_in _ (by omega)
  have hw3 : IntKind.i64.wrap (1 - m0 % 2) = 1 - m0 % 2 := IntWalk.i64_in _ (by omega)
  go_upto_if 76 with fail
  go_cut [19] (fun z wc => ∃ q : Int, z = .int .i64 q ∧ 0 ≤ q ∧ q ≤ 1 ∧ w12 = wc)
  case first =>
    cases swap with
    | true =>
      go_wp2
      go_meet
      case rel => exact ⟨_, rfl, by omega, by omega, rfl⟩
    | false =>
      go_wp2
      go_meet
      case rel => exact ⟨_, rfl, by omega, by omega, rfl⟩
  case rest =>
  obtain ⟨at0, rfl, ha1, ha2, rfl⟩ := hcut
  clear hm2 ht2 hw2 hw3 e1 e2 RA12
  clear p0 p1 p2 p3 p4 p5 p6 p7 p8 p9 p10 p11 p12
  have hw4 : IntKind.i64.wrap (1 - at0) = 1 - at0 := IntWalk.i64_in _ (by omega)
  go_wp2_with fail
  refine (write_any Z d K0 at0 ax nx cx VA w12 C12.out.d.din C12.out.x (fun q e => (C12.out.xz q e).1) (by omega) (by omega) (by decide) (by decide)).mono ?_
  rintro e w13 ⟨rfl, Z13, hd, ht⟩
  have C13 := Lib.hid (C12.out.turn hd ht)
  have S13 := Lib.hid (ReadSt.start.write at0 VA)
  obtain ⟨s13, hs13⟩ : ∃ z, wrS K0 at0 VA = z := ⟨_, rfl⟩
  rw [hs13] at C13 S13
  clear hd ht C12 hs13
  go_wp2_with fail
  refine (write_any Z13 d s13 (1 - at0) ay ny cy VB w13 C13.out.d.din C13.out.y (fun q e => (C13.out.yz q e).1) (by omega) (by omega) (by have := S13.out.few; omega) (by have := S13.out.wr; omega)).mono ?_
  rintro e w14 ⟨rfl, Z14, hd, ht⟩
  have C14 := Lib.hid (C13.out.turn hd ht)
  have S14 := Lib.hid (S13.out.write (1 - at0) VB)
  obtain ⟨s14, hs14⟩ : ∃ z, wrS s13 (1 - at0) VB = z := ⟨_, rfl⟩
  rw [hs14] at C14 S14
  clear hd ht C13 hs14 S13
  go_wp2_with fail
  refine (flush_any Z14 d s14 w14 C14.out.d.din).mono ?_
  rintro e w15 ⟨rfl, hd, ht⟩
  rw [S14.out.off, if_neg (by decide)] at hd
  rw [S14.out.off, if_neg (by decide)]
  have D15 := Lib.hid (C14.out.d.turn hd ht)
  have S15 := Lib.hid S14.out.flush
  obtain ⟨s15, hs15⟩ : ∃ z, flushS s14 = z := ⟨_, rfl⟩
  rw [hs15] at D15 S15
  clear hd ht C14 S14 hs15
  go_upto_region 22 with fail
  go_cut [95] (fun z wc => ∃ q : Bool, z = .bool q ∧ w15 = wc)
  case first =>
    by_cases w0 : which = 0
    · subst w0
      go_wp2
      go_meet
      case rel => exact ⟨_, rfl, rfl⟩
    · have d0 : (which == 0) = false := by simpa using w0
      clear w0
      by_cases w1 : which = 1
      · have d1 : (which == 1) = true := by simpa using w1
        clear w1
        go_wp2
        go_meet
        case rel => exact ⟨_, rfl, rfl⟩
      · have d1 : (which == 1) = false := by simpa using w1
        clear w1
        go_wp2
        go_meet
        case rel => exact ⟨_, rfl, rfl⟩
  case rest =>
  obtain ⟨bq, rfl, rfl⟩ := hcut
  go_upto_if 95 with fail
  go_cut [] (fun wc => ∃ (st : Dk) (Z : Nat → Prop), Hid ((ReadSt 2 st ∧ st.pend = []) ∧ DkB w wc d Z (readN st 0)))
  case first =>
    cases bq with
    | true =>
      go_wp2_with fail
      refine (dburst_any Z14 d s15 which bit p w15 D15.out.din HBIT.out.2).mono ?_
      rintro e w16 ⟨rfl, Z16, hd, ht⟩
      have hres : Hid ((ReadSt 2 (burS s15 which bit p) ∧ (burS s15 which bit p).pend = []) ∧ DkB w w16 d Z16 (readN (burS s15 which bit p) 0)) := Lib.hid ⟨S15.out.1.burst S15.out.2 which bit p, by rw [read0]; exact D15.out.turn hd ht⟩
      clear hd ht
      go_wp2_with fail
      go_meet
      case rel => exact ⟨_, _, hres⟩
    | false =>
      have hres : Hid ((ReadSt 2 s15 ∧ s15.pend = []) ∧ DkB w w15 d Z14 (readN s15 0)) := Lib.hid ⟨S15.out, by rw [read0]; exact D15.out⟩
      go_wp2_with fail
      go_meet
      case rel => exact ⟨_, _, hres⟩
  case rest =>
  clear D15 S15
  obtain ⟨st, Z2, hcut⟩ := hcut
  have S2 := Lib.hid hcut.out.1.1
  have HPD := Lib.hid hcut.out.1.2
  have D2 := Lib.hid hcut.out.2
  clear hcut
  have hok : DkOk st := by have := D2.out.din.ok; rw [read0] at this; exact this
  have HOK := Lib.hid hok
  clear hok
  obtain ⟨r1, r2, r3⟩ := rd_eq S2.out.off (by rw [S2.out.len]; omega) 0 (by omega)
  have R1 := Lib.hid r1
  have R2 := Lib.hid r2
  have R3 := Lib.hid r3
  clear r1 r2 r3
  go_wp2_with fail
  refine (read_any Z2 d (readN st 0) 0 wc D2.out.din (by decide) (by decide) (by show st.reads + ((0 : Nat) : Int) + 1 ≤ _; rw [S2.out.rd]; decide)).mono ?_
  rintro e w20 ⟨v20, rfl, ho, hd, ht⟩
  have r1 := R1.out
  have r2 := R2.out
  have r3 := R3.out
  rw [show ((0 : Nat) : Int) = 0 from rfl] at r1 r2 r3
  rw [r1]
  rw [r2] at ho
  rw [r3] at hd
  obtain ⟨a0, c0, rfl⟩ := ho.shapeN 128 (secB_128 S2.out HPD.out HOK.out 0 (by omega))
  have D20 := Lib.hid (D2.out.turn hd ht)
  have O20 := Lib.hid ho.rd
  have hn0 : Hid (∀ q, a0 = some q → ¬ Z2 q.block) := fun q e hz => by
    subst e
    have h1 := owns_ge (q := q) ho (by omega)
    have h2 := D2.out.din.1 _ hz
    omega
  clear r1 r2 r3 hd ht ho R1 R2 R3
  obtain ⟨r1, r2, r3⟩ := rd_eq S2.out.off (by rw [S2.out.len]; omega) 1 (by omega)
  have R1 := Lib.hid r1
  have R2 := Lib.hid r2
  have R3 := Lib.hid r3
  clear r1 r2 r3
  go_wp2_with fail
  refine (read_any Z2 d (readN st 1) 1 w20 D20.out.din (by decide) (by decide) (by show st.reads + ((1 : Nat) : Int) + 1 ≤ _; rw [S2.out.rd]; decide)).mono ?_
  rintro e w21 ⟨v21, rfl, ho, hd, ht⟩
  have r1 := R1.out
  have r2 := R2.out
  have r3 := R3.out
  rw [show ((1 : Nat) : Int) = 1 from rfl] at r1 r2 r3
  rw [r1]
  rw [r2] at ho
  rw [r3] at hd
  obtain ⟨a1, c1, rfl⟩ := ho.shapeN 128 (secB_128 S2.out HPD.out HOK.out 1 (by omega))
  have D21 := Lib.hid (D20.out.turn hd ht)
  have O21 := Lib.hid ho.rd
  have P21 := Lib.hid (O20.out.tnd ht hn0.out)
  clear r1 r2 r3 hd ht ho R1 R2 R3 O20 hn0 D20 D2
  obtain ⟨l1, l2⟩ := reads_law S2.out HPD.out HOK.out
  go_wp2_with fail
  have hnw : Calls Try.prog 32 #[.slice a0 128 c0, .slice a1 128 c1, .int .i64 40] w21 fun e w' => e = .returned (.tuple #[(newB (fun k => secB st k) 40 2).val, .bool (newS (fun k => secB st k) 40 2)]) ∧ Below w21.heap.size w21 w' :=
    newest_any (fun k => match k with | 0 => a0 | _ => a1) (fun _ => 128) (fun k => match k with | 0 => c0 | _ => c1) (fun k => secB st k) 40 w21 (fun k hk => match k, hk with | 0, _ => P21.out | 1, _ => O21.out) (fun _ _ => by omega)
  refine hnw.mono ?_
  rintro e w22 ⟨rfl, hb⟩
  have D22 := Lib.hid (D21.out.more hb)
  obtain ⟨SN, hSN⟩ : ∃ z, newS (fun k => secB st k) 40 2 = z := ⟨_, rfl⟩
  obtain ⟨BN, hBN⟩ : ∃ z, newB (fun k => secB st k) 40 2 = z := ⟨_, rfl⟩
  rw [hSN, hBN]
  rw [hSN] at l1
  rw [hSN, hBN] at l2
  have L1 := Lib.hid l1
  have L2 := Lib.hid l2
  clear hnw hb l1 l2 hSN hBN D21 P21 O21
  obtain ⟨g0, g1, g2, g3, g4, g5, g6, g7, g8, g9, g10, g11, g12⟩ := BN
  rw [show (⟨g0, g1, g2, g3, g4, g5, g6, g7, g8, g9, g10, g11, g12⟩ : Blk).val = .agg #[.int .u64 g0, .int .i64 g1, .int .i64 g2, .int .i64 g3, .int .i64 g4, .int .i64 g5, .int .i64 g6, .int .i64 g7, .int .i64 g8, .int .i64 g9, .int .i64 g10, .int .i64 g11, .int .u64 g12] from rfl]
  have hal := (Below.refl w22.heap.size w22).alloc (Nat.le_refl _) (.cells #[.int .u64 g0, .int .i64 g1, .int .i64 g2, .int .i64 g3, .int .i64 g4, .int .i64 g5, .int .i64 g6, .int .i64 g7, .int .i64 g8, .int .i64 g9, .int .i64 g10, .int .i64 g11, .int .u64 g12] 36)
  have hrow := heap_alloc_new w22 (.cells #[.int .u64 g0, .int .i64 g1, .int .i64 g2, .int .i64 g3, .int .i64 g4, .int .i64 g5, .int .i64 g6, .int .i64 g7, .int .i64 g8, .int .i64 g9, .int .i64 g10, .int .i64 g11, .int .u64 g12] 36)
  have D23 := Lib.hid (D22.out.more hal)
  obtain ⟨w23, hw23⟩ : ∃ z, w22.alloc (.cells #[.int .u64 g0, .int .i64 g1, .int .i64 g2, .int .i64 g3, .int .i64 g4, .int .i64 g5, .int .i64 g6, .int .i64 g7, .int .i64 g8, .int .i64 g9, .int .i64 g10, .int .i64 g11, .int .u64 g12] 36) = z := ⟨_, rfl⟩
  obtain ⟨nb, hnb⟩ : ∃ z, w22.heap.size = z := ⟨_, rfl⟩
  rw [hw23] at D23 hrow
  rw [hnb] at hrow
  have RW := Lib.hid hrow
  have HZN : Hid (∀ x, Z2 x → x < nb) := fun x hx => by rw [← hnb]; exact D22.out.din.1 x hx
  clear hal hrow D22
  go_wp2_with (first | (rw [hw23]) | fail)
  refine (supread_any Z2 d (readN st 2) w23 D23.out.din (by show 2 ≤ st.kept.length; rw [S2.out.len]; omega) (by show st.reads + ((2 : Nat) : Int) + 2 ≤ _; rw [S2.out.rd]; decide)).mono ?_
  rintro e w24 ⟨rfl, hd, ht⟩
  have D24 := Lib.hid (D23.out.turn hd ht)
  have RW24 := Lib.hid (row_tnd RW.out ht (fun hz => by have := HZN.out _ hz; omega))
  rw [L1.out, L2.out]
  clear hd ht RW D23 hw23
  cases SN with
  | false =>
    rw [if_neg (by decide), if_neg (by decide), show blk0.val = .agg #[.int .u64 0, .int .i64 0, .int .i64 0, .int .i64 0, .int .i64 0, .int .i64 0, .int .i64 0, .int .i64 0, .int .i64 0, .int .i64 0, .int .i64 0, .int .i64 0, .int .u64 0] from rfl]
    have hal := (Below.refl w24.heap.size w24).alloc (Nat.le_refl _) (.cells #[.int .u64 0, .int .i64 0, .int .i64 0, .int .i64 0, .int .i64 0, .int .i64 0, .int .i64 0, .int .i64 0, .int .i64 0, .int .i64 0, .int .i64 0, .int .i64 0, .int .u64 0] 28)
    have hrow := heap_alloc_new w24 (.cells #[.int .u64 0, .int .i64 0, .int .i64 0, .int .i64 0, .int .i64 0, .int .i64 0, .int .i64 0, .int .i64 0, .int .i64 0, .int .i64 0, .int .i64 0, .int .i64 0, .int .u64 0] 28)
    have D25 := Lib.hid (D24.out.more hal)
    obtain ⟨p0, p1, p2, p3, p4, p5, p6, p7, p8, p9, p10, p11, p12⟩ := cells13 hrow
    clear hal hrow D24
    go_wp2_with fail
    go_ret
    exact ⟨rfl, D25.out.below⟩
  | true =>
    rw [if_pos rfl, if_pos rfl, show (⟨g0, g1, g2, g3, g4, g5, g6, g7, g8, g9, g10, g11, g12⟩ : Blk).val = .agg #[.int .u64 g0, .int .i64 g1, .int .i64 g2, .int .i64 g3, .int .i64 g4, .int .i64 g5, .int .i64 g6, .int .i64 g7, .int .i64 g8, .int .i64 g9, .int .i64 g10, .int .i64 g11, .int .u64 g12] from rfl]
    have hal := (Below.refl w24.heap.size w24).alloc (Nat.le_refl _) (.cells #[.int .u64 g0, .int .i64 g1, .int .i64 g2, .int .i64 g3, .int .i64 g4, .int .i64 g5, .int .i64 g6, .int .i64 g7, .int .i64 g8, .int .i64 g9, .int .i64 g10, .int .i64 g11, .int .u64 g12] 28)
    have hrow := heap_alloc_new w24 (.cells #[.int .u64 g0, .int .i64 g1, .int .i64 g2, .int .i64 g3, .int .i64 g4, .int .i64 g5, .int .i64 g6, .int .i64 g7, .int .i64 g8, .int .i64 g9, .int .i64 g10, .int .i64 g11, .int .u64 g12] 28)
    have D25 := Lib.hid (D24.out.more hal)
    have RW25 := Lib.hid (row_keep RW24.out hal)
    obtain ⟨w25, hw25⟩ : ∃ z, w24.alloc (.cells #[.int .u64 g0, .int .i64 g1, .int .i64 g2, .int .i64 g3, .int .i64 g4, .int .i64 g5, .int .i64 g6, .int .i64 g7, .int .i64 g8, .int .i64 g9, .int .i64 g10, .int .i64 g11, .int .u64 g12] 28) = z := ⟨_, rfl⟩
    obtain ⟨sb, hsb⟩ : ∃ z, w24.heap.size = z := ⟨_, rfl⟩
    rw [hw25] at D25 hrow RW25
    rw [hsb] at hrow
    have RS25 := Lib.hid hrow
    clear hal hrow D24 RW24
    go_wp2_with (first | (rw [hw25]) | fail)
    clear hw25 L1 L2 S2 HPD HOK HB HT HWA HAB HBIT HWH HP HLA HLB HLA1 HLB1 HZN hr7
    have hBd : Below w.heap.size w w25.drew := belowD D25.out.below 1
    refine' reg_free (G := Kept) (pickF [eqV _, eqV _, eqV _, eqV _, eqV _, eqV _, eqV _, eqV _, eqV _]) [131, 132, 133, 134, 135, 136, 137, 138, 12] [[], [0], [1], [2], [2, 3], [2], [2, 4, 5], [2, 6], [7]] [0, 1, 2, 3, 4, 5, 6, 7, 8] (by kernel_rfl) Kept.refl Kept.trans (pick_stays ⟨eqV_stays _, eqV_stays _, eqV_stays _, eqV_stays _, eqV_stays _, eqV_stays _, eqV_stays _, eqV_stays _, eqV_stays _, trivial⟩) 139 rfl (by kernel_rfl) (by kernel_rfl) rfl rfl ?r1obl ?r1fin
    case r1obl =>
      refine And.intro ?r1o0 (And.intro ?r1o1 (And.intro ?r1o2 (And.intro ?r1o3 (And.intro ?r1o4 (And.intro ?r1o5 (And.intro ?r1o6 (And.intro ?r1o7 (And.intro ?r1o8 (True.intro)))))))))
      case r1o0 =>
        intro w1 hG
        refine turn_on (by rfl) ?_
        intro K hK
        go_simp
        refine hK _ _ ⟨rfl, Kept.refl _, ?_⟩
        show _ = _
        simp only [List.getD_cons_zero, List.getD_cons_succ, Array.getD_eq_getD_getElem?, List.getElem?_toArray, List.getElem?_cons_zero, List.getElem?_cons_succ, Option.getD_some]
        rfl
      case r1o1 =>
        intro w1 hG
        intro v0 h0
        change _ = _ at h0
        subst h0
        refine turn_on (by rfl) ?_
        intro K hK
        simp only [List.getD_cons_zero, List.getD_cons_succ, List.setIfInBounds_toArray, List.set_cons_zero, List.set_cons_succ]
        go_simp
        refine hK _ _ ⟨rfl, Kept.refl _, ?_⟩
        show _ = _
        simp only [List.getD_cons_zero, List.getD_cons_succ, Array.getD_eq_getD_getElem?, List.getElem?_toArray, List.getElem?_cons_zero, List.getElem?_cons_succ, Option.getD_some]
        rfl
      case r1o2 =>
        intro w1 hG
        intro v1 h1
        change _ = _ at h1
        subst h1
        refine turn_on (by rfl) ?_
        intro K hK
        simp only [List.getD_cons_zero, List.getD_cons_succ, List.setIfInBounds_toArray, List.set_cons_zero, List.set_cons_succ]
        go_simp
        refine hK _ _ ⟨rfl, Kept.refl _, ?_⟩
        show _ = _
        simp only [List.getD_cons_zero, List.getD_cons_succ, Array.getD_eq_getD_getElem?, List.getElem?_toArray, List.getElem?_cons_zero, List.getElem?_cons_succ, Option.getD_some]
        rfl
      case r1o3 =>
        intro w1 hG
        intro v2 h2
        change _ = _ at h2
        subst h2
        refine turn_on (by rfl) ?_
        intro K hK
        simp only [List.getD_cons_zero, List.getD_cons_succ, List.setIfInBounds_toArray, List.set_cons_zero, List.set_cons_succ]
        obtain ⟨p0, p1, p2, p3, p4, p5, p6, p7, p8, p9, p10, p11, p12⟩ := cells13 (row_keep (w := w25.drew) RS25.out hG)
        go_simp
        refine hK _ _ ⟨rfl, Kept.refl _, ?_⟩
        show _ = _
        simp only [List.getD_cons_zero, List.getD_cons_succ, Array.getD_eq_getD_getElem?, List.getElem?_toArray, List.getElem?_cons_zero, List.getElem?_cons_succ, Option.getD_some]
        rfl
      case r1o4 =>
        intro w1 hG
        intro v2 h2
        change _ = _ at h2
        subst h2
        intro v3 h3
        change _ = _ at h3
        subst h3
        refine turn_on (by rfl) ?_
        intro K hK
        simp only [List.getD_cons_zero, List.getD_cons_succ, List.setIfInBounds_toArray, List.set_cons_zero, List.set_cons_succ]
        go_simp
        have hof := of_any (⟨g0, g1, g2, g3, g4, g5, g6, g7, g8, g9, g10, g11, g12⟩ : Blk) w1
        rw [show (⟨g0, g1, g2, g3, g4, g5, g6, g7, g8, g9, g10, g11, g12⟩ : Blk).val = .agg #[.int .u64 g0, .int .i64 g1, .int .i64 g2, .int .i64 g3, .int .i64 g4, .int .i64 g5, .int .i64 g6, .int .i64 g7, .int .i64 g8, .int .i64 g9, .int .i64 g10, .int .i64 g11, .int .u64 g12] from rfl] at hof
        refine Calls.mono hof ?_
        rintro e w2 ⟨rfl, hbx⟩
        refine hK _ _ ⟨rfl, hbx, ?_⟩
        show _ = _
        simp only [List.getD_cons_zero, List.getD_cons_succ, Array.getD_eq_getD_getElem?, List.getElem?_toArray, List.getElem?_cons_zero, List.getElem?_cons_succ, Option.getD_some]
        rfl
      case r1o5 =>
        intro w1 hG
        intro v2 h2
        change _ = _ at h2
        subst h2
        refine turn_on (by rfl) ?_
        intro K hK
        simp only [List.getD_cons_zero, List.getD_cons_succ, List.setIfInBounds_toArray, List.set_cons_zero, List.set_cons_succ]
        obtain ⟨p0, p1, p2, p3, p4, p5, p6, p7, p8, p9, p10, p11, p12⟩ := cells13 (row_keep (w := w25.drew) RW25.out hG)
        go_simp
        refine hK _ _ ⟨rfl, Kept.refl _, ?_⟩
        show _ = _
        simp only [List.getD_cons_zero, List.getD_cons_succ, Array.getD_eq_getD_getElem?, List.getElem?_toArray, List.getElem?_cons_zero, List.getElem?_cons_succ, Option.getD_some]
        rfl
      case r1o6 =>
        intro w1 hG
        intro v2 h2
        change _ = _ at h2
        subst h2
        intro v4 h4
        change _ = _ at h4
        subst h4
        intro v5 h5
        change _ = _ at h5
        subst h5
        refine turn_on (by rfl) ?_
        intro K hK
        simp only [List.getD_cons_zero, List.getD_cons_succ, List.setIfInBounds_toArray, List.set_cons_zero, List.set_cons_succ]
        go_simp
        refine hK _ _ ⟨rfl, Kept.refl _, ?_⟩
        show _ = _
        simp only [List.getD_cons_zero, List.getD_cons_succ, Array.getD_eq_getD_getElem?, List.getElem?_toArray, List.getElem?_cons_zero, List.getElem?_cons_succ, Option.getD_some]
        rfl
      case r1o7 =>
        intro w1 hG
        intro v2 h2
        change _ = _ at h2
        subst h2
        intro v6 h6
        change _ = _ at h6
        subst h6
        refine turn_on (by rfl) ?_
        intro K hK
        simp only [List.getD_cons_zero, List.getD_cons_succ, List.setIfInBounds_toArray, List.set_cons_zero, List.set_cons_succ]
        go_simp
        refine hK _ _ ⟨rfl, Kept.refl _, ?_⟩
        show _ = _
        simp only [List.getD_cons_zero, List.getD_cons_succ, Array.getD_eq_getD_getElem?, List.getElem?_toArray, List.getElem?_cons_zero, List.getElem?_cons_succ, Option.getD_some]
        rfl
      case r1o8 =>
        intro w1 hG
        intro v7 h7
        change _ = _ at h7
        subst h7
        refine turn_on (by rfl) ?_
        intro K hK
        simp only [List.getD_cons_zero, List.getD_cons_succ, List.setIfInBounds_toArray, List.set_cons_zero, List.set_cons_succ]
        go_simp
        refine hK _ _ ⟨rfl, Kept.refl _, ?_⟩
        show _ = _
        simp only [List.getD_cons_zero, List.getD_cons_succ, Array.getD_eq_getD_getElem?, List.getElem?_toArray, List.getElem?_cons_zero, List.getElem?_cons_succ, Option.getD_some]
        rfl
    intro w1 hG
    intro v0 h0
    change _ = _ at h0
    subst h0
    intro v1 h1
    change _ = _ at h1
    subst h1
    intro v2 h2
    change _ = _ at h2
    subst h2
    intro v3 h3
    change _ = _ at h3
    subst h3
    intro v4 h4
    change _ = _ at h4
    subst h4
    intro v5 h5
    change _ = _ at h5
    subst h5
    intro v6 h6
    change _ = _ at h6
    subst h6
    intro v7 h7
    change _ = _ at h7
    subst h7
    intro v8 h8
    change _ = _ at h8
    subst h8
    simp only [Given, List.getD_cons_zero, List.getD_cons_succ, List.setIfInBounds_toArray, List.set_cons_zero, List.set_cons_succ]
    go_wp2_with fail
    go_ret
    exact ⟨rfl, Below.call hBd hG⟩
end Go.Proofs.Ytcbnebcooiagmaa
