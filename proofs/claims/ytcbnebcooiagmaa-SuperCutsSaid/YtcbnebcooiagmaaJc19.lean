/- Joined: The walk of almanaclaw20.SuperCuts. -/
import Derived.Test.YtcbnebcooiagmaaJc18
namespace Go.Proofs.Ytcbnebcooiagmaa
open Go.RowKit
/-- What the walk of SuperCuts carries. -/
structure CutW (w wr : World) (d : Nat) (Z : Nat → Prop) (st : Dk) (ab tb : Nat) (ra rt : Array Value) : Prop where
  d : DkB w wr d Z st
  ra : wr.heap[ab]? = some (.cells ra 28 (0, 0))
  rt : wr.heap[tb]? = some (.cells rt 28 (0, 0))
  za : ¬ Z ab
  zt : ¬ Z tb
theorem CutW.turn {w wr w' : World} {d : Nat} {Z Z' : Nat → Prop} {st st' : Dk} {ab tb : Nat} {ra rt : Array Value} (h : CutW w wr d Z st ab tb ra rt) (hd : DkIn w' Z' d st') (ht : Tnd Z Z' wr w') : CutW w w' d Z' st' ab tb ra rt :=
  ⟨h.d.turn hd ht, row_tnd h.ra ht h.za, row_tnd h.rt ht h.zt,
    fun hz => (ht.sub ab hz).elim h.za fun h2 => by have := (Array.getElem?_eq_some_iff.1 h.ra).1; omega,
    fun hz => (ht.sub tb hz).elim h.zt fun h2 => by have := (Array.getElem?_eq_some_iff.1 h.rt).1; omega⟩
theorem CutW.more {w wr w' : World} {d : Nat} {Z : Nat → Prop} {st : Dk} {ab tb : Nat} {ra rt : Array Value} (h : CutW w wr d Z st ab tb ra rt) (hb : Below wr.heap.size wr w') : CutW w w' d Z st ab tb ra rt :=
  ⟨h.d.more hb, row_keep h.ra hb, row_keep h.rt hb, h.za, h.zt⟩
set_option linter.unusedSimpArgs false in
set_option linter.unusedVariables false in
set_option maxRecDepth 100000 in
set_option maxHeartbeats 2000000 in
theorem supercuts_in (b t : Blk) (n : Int) (a : Option Addr) (len c : Nat) (kl : List Bool) (w : World) (hb : b.Wf) (ht : t.Wf) (hk : RdB w a len c kl) (hlen : len ≤ 100) (hn : -9223372036854775808 ≤ n ∧ n ≤ 9223372036854775807) (hneg : 0 ≤ b.rs ∧ 0 ≤ b.rn ∧ 0 ≤ t.rs ∧ 0 ≤ t.rn) :
    Calls Try.prog 6 #[b.val, t.val, .int .i64 n, .slice a len c] w fun e w' => e = .returned (.bool true) ∧ Below w.heap.size w w' := by
  obtain ⟨hn1, hn2⟩ := hn
  obtain ⟨g1, g2, g3, g4⟩ := hneg
  have HB := Lib.hid hb
  have HT := Lib.hid ht
  have HK := Lib.hid hk
  clear hb ht hk
  have d1 : decide ((100 : Int) < (len : Int)) = false := decide_eq_false (by omega)
  obtain ⟨m0, x0, x1, x2, x3, x4, x5, x6, x7, x8, xs, xn, xq⟩ := b
  obtain ⟨k0, y0, y1, y2, y3, y4, y5, y6, y7, y8, ys, yn, yq⟩ := t
  replace g1 : 0 ≤ xs := g1
  replace g2 : 0 ≤ xn := g2
  replace g3 : 0 ≤ ys := g3
  replace g4 : 0 ≤ yn := g4
  have f1 : decide (xs < 0) = false := decide_eq_false (by omega)
  have f2 : decide (xn < 0) = false := decide_eq_false (by omega)
  have f3 : decide (ys < 0) = false := decide_eq_false (by omega)
  have f4 : decide (yn < 0) = false := decide_eq_false (by omega)
  obtain ⟨e1, e2⟩ := HB.out.ep
  replace e1 : 0 ≤ m0 := e1
  replace e2 : m0 ≤ 18446744073709551615 := e2
  rw [show (⟨m0, x0, x1, x2, x3, x4, x5, x6, x7, x8, xs, xn, xq⟩ : Blk).val = .agg #[.int .u64 m0, .int .i64 x0, .int .i64 x1, .int .i64 x2, .int .i64 x3, .int .i64 x4, .int .i64 x5, .int .i64 x6, .int .i64 x7, .int .i64 x8, .int .i64 xs, .int .i64 xn, .int .u64 xq] from rfl, show (⟨k0, y0, y1, y2, y3, y4, y5, y6, y7, y8, ys, yn, yq⟩ : Blk).val = .agg #[.int .u64 k0, .int .i64 y0, .int .i64 y1, .int .i64 y2, .int .i64 y3, .int .i64 y4, .int .i64 y5, .int .i64 y6, .int .i64 y7, .int .i64 y8, .int .i64 ys, .int .i64 yn, .int .u64 yq] from rfl]
  have hba : Below w.heap.size w ((w.alloc (.cells #[.int .u64 m0, .int .i64 x0, .int .i64 x1, .int .i64 x2, .int .i64 x3, .int .i64 x4, .int .i64 x5, .int .i64 x6, .int .i64 x7, .int .i64 x8, .int .i64 xs, .int .i64 xn, .int .u64 xq] 28)).alloc (.cells #[.int .u64 k0, .int .i64 y0, .int .i64 y1, .int .i64 y2, .int .i64 y3, .int .i64 y4, .int .i64 y5, .int .i64 y6, .int .i64 y7, .int .i64 y8, .int .i64 ys, .int .i64 yn, .int .u64 yq] 28)) := ((Below.refl _ _).alloc (Nat.le_refl _) _).alloc (by simp) _
  have hra : (((w.alloc (.cells #[.int .u64 m0, .int .i64 x0, .int .i64 x1, .int .i64 x2, .int .i64 x3, .int .i64 x4, .int .i64 x5, .int .i64 x6, .int .i64 x7, .int .i64 x8, .int .i64 xs, .int .i64 xn, .int .u64 xq] 28)).alloc (.cells #[.int .u64 k0, .int .i64 y0, .int .i64 y1, .int .i64 y2, .int .i64 y3, .int .i64 y4, .int .i64 y5, .int .i64 y6, .int .i64 y7, .int .i64 y8, .int .i64 ys, .int .i64 yn, .int .u64 yq] 28))).heap[w.heap.size]? = some (.cells #[.int .u64 m0, .int .i64 x0, .int .i64 x1, .int .i64 x2, .int .i64 x3, .int .i64 x4, .int .i64 x5, .int .i64 x6, .int .i64 x7, .int .i64 x8, .int .i64 xs, .int .i64 xn, .int .u64 xq] 28 (0, 0)) := by
    rw [heap_old _ _ (by simp)]
    exact heap_alloc_new _ _
  have hrt : (((w.alloc (.cells #[.int .u64 m0, .int .i64 x0, .int .i64 x1, .int .i64 x2, .int .i64 x3, .int .i64 x4, .int .i64 x5, .int .i64 x6, .int .i64 x7, .int .i64 x8, .int .i64 xs, .int .i64 xn, .int .u64 xq] 28)).alloc (.cells #[.int .u64 k0, .int .i64 y0, .int .i64 y1, .int .i64 y2, .int .i64 y3, .int .i64 y4, .int .i64 y5, .int .i64 y6, .int .i64 y7, .int .i64 y8, .int .i64 ys, .int .i64 yn, .int .u64 yq] 28))).heap[w.heap.size + 1]? = some (.cells #[.int .u64 k0, .int .i64 y0, .int .i64 y1, .int .i64 y2, .int .i64 y3, .int .i64 y4, .int .i64 y5, .int .i64 y6, .int .i64 y7, .int .i64 y8, .int .i64 ys, .int .i64 yn, .int .u64 yq] 28 (0, 0)) := by
    have := heap_alloc_new (w.alloc (.cells #[.int .u64 m0, .int .i64 x0, .int .i64 x1, .int .i64 x2, .int .i64 x3, .int .i64 x4, .int .i64 x5, .int .i64 x6, .int .i64 x7, .int .i64 x8, .int .i64 xs, .int .i64 xn, .int .u64 xq] 28)) (.cells #[.int .u64 k0, .int .i64 y0, .int .i64 y1, .int .i64 y2, .int .i64 y3, .int .i64 y4, .int .i64 y5, .int .i64 y6, .int .i64 y7, .int .i64 y8, .int .i64 ys, .int .i64 yn, .int .u64 yq] 28)
    simpa using this
  obtain ⟨wa, hwa⟩ : ∃ wa, ((w.alloc (.cells #[.int .u64 m0, .int .i64 x0, .int .i64 x1, .int .i64 x2, .int .i64 x3, .int .i64 x4, .int .i64 x5, .int .i64 x6, .int .i64 x7, .int .i64 x8, .int .i64 xs, .int .i64 xn, .int .u64 xq] 28)).alloc (.cells #[.int .u64 k0, .int .i64 y0, .int .i64 y1, .int .i64 y2, .int .i64 y3, .int .i64 y4, .int .i64 y5, .int .i64 y6, .int .i64 y7, .int .i64 y8, .int .i64 ys, .int .i64 yn, .int .u64 yq] 28)) = wa := ⟨_, rfl⟩
  obtain ⟨ab, hab⟩ : ∃ ab, w.heap.size = ab := ⟨_, rfl⟩
  rw [hwa] at hba hra hrt
  rw [hab] at hra hrt
  have BA := Lib.hid hba
  have RA := Lib.hid hra
  have RT := Lib.hid hrt
  have HWA := Lib.hid hwa
  have HAB := Lib.hid hab
  clear hba hra hrt hwa hab
  go_enter Try.func6, Try.ntmps6
  go_wp2_with fail
  rw [HWA.out, HAB.out]
  refine (known20 wa).mono ?_
  rintro e w1 ⟨rfl, hb1⟩
  have RA1 := Lib.hid (row_keep RA.out hb1)
  have RT1 := Lib.hid (row_keep RT.out hb1)
  have B1 := Lib.hid (Below.call BA.out hb1)
  clear hb1 RA RT BA
  go_wp2_with fail
  refine (shape20_any w1).mono ?_
  rintro e w2 ⟨rfl, hb2⟩
  have RA2 := Lib.hid (row_keep RA1.out hb2)
  have RT2 := Lib.hid (row_keep RT1.out hb2)
  have B2 := Lib.hid (Below.call B1.out hb2)
  clear hb2 RA1 RT1 B1
  obtain ⟨p0, p1, p2, p3, p4, p5, p6, p7, p8, p9, p10, p11, p12⟩ := cells13 RA2.out
  have hfz : ∀ i, w2.frozen? ⟨ab, i, none⟩ = false := fun i => frozen_of_row w2 (ab) i _ _ RA2.out
  have hg := sets_grown (b := ab) [(1, .int .i64 40), (2, .int .i64 128), (3, .int .i64 4), (4, .int .i64 2), (5, .int .i64 16), (6, .int .i64 4), (7, .int .i64 2), (8, .int .i64 2), (9, .int .i64 4)] w2
  have hr := sets_row [(1, .int .i64 40), (2, .int .i64 128), (3, .int .i64 4), (4, .int .i64 2), (5, .int .i64 16), (6, .int .i64 4), (7, .int .i64 2), (8, .int .i64 2), (9, .int .i64 4)] RA2.out
  obtain ⟨w3, hw⟩ : ∃ w3, sets w2 (ab) [(1, .int .i64 40), (2, .int .i64 128), (3, .int .i64 4), (4, .int .i64 2), (5, .int .i64 16), (6, .int .i64 4), (7, .int .i64 2), (8, .int .i64 2), (9, .int .i64 4)] = w3 := ⟨_, rfl⟩
  rw [hw] at hg hr
  have hr' : w3.heap[ab]? = some (.cells #[.int .u64 m0, .int .i64 40, .int .i64 128, .int .i64 4, .int .i64 2, .int .i64 16, .int .i64 4, .int .i64 2, .int .i64 2, .int .i64 4, .int .i64 xs, .int .i64 xn, .int .u64 xq] 28 (0, 0)) := by rw [hr]; rw [fold9]
  have RA3 := Lib.hid hr'
  have RT3 : Hid (w3.heap[ab + 1]? = some (.cells #[.int .u64 k0, .int .i64 y0, .int .i64 y1, .int .i64 y2, .int .i64 y3, .int .i64 y4, .int .i64 y5, .int .i64 y6, .int .i64 y7, .int .i64 y8, .int .i64 ys, .int .i64 yn, .int .u64 yq] 28 (0, 0))) := (hg.block (ab + 1) (Array.getElem?_eq_some_iff.1 RT2.out).1 (fun e => by injection e with e; omega)).trans RT2.out
  have B3 : Hid (Below w.heap.size w w3) := Below.grown B2.out hg B2.out.size (fun k e => by injection e with e; have := HAB.out; omega)
  have HW3 := Lib.hid hw
  clear hg hr hr' hw
  have hw : (((((((((w2).setCell ⟨ab, 1, none⟩ (.int .i64 40)).setCell ⟨ab, 2, none⟩ (.int .i64 128)).setCell ⟨ab, 3, none⟩ (.int .i64 4)).setCell ⟨ab, 4, none⟩ (.int .i64 2)).setCell ⟨ab, 5, none⟩ (.int .i64 16)).setCell ⟨ab, 6, none⟩ (.int .i64 4)).setCell ⟨ab, 7, none⟩ (.int .i64 2)).setCell ⟨ab, 8, none⟩ (.int .i64 2)).setCell ⟨ab, 9, none⟩ (.int .i64 4) = w3 := HW3.out
  go_wp2_with (rw [hw])
  clear hw hfz
  clear p0 p1 p2 p3 p4 p5 p6 p7 p8 p9 p10 p11 p12
  refine (shape20_any w3).mono ?_
  rintro e w4 ⟨rfl, hb4⟩
  have RA4 := Lib.hid (row_keep RA3.out hb4)
  have RT4 := Lib.hid (row_keep RT3.out hb4)
  have B4 := Lib.hid (Below.call B3.out hb4)
  clear hb4 RA3 RT3 B3 RA2 RT2 B2 HW3
  obtain ⟨r0, r1, r2, r3, r4, r5, r6, r7, r8, r9, r10, r11, r12⟩ := cells13 RT4.out
  have hfz : ∀ i, w4.frozen? ⟨ab + 1, i, none⟩ = false := fun i => frozen_of_row w4 (ab + 1) i _ _ RT4.out
  have hg := sets_grown (b := ab + 1) [(1, .int .i64 40), (2, .int .i64 128), (3, .int .i64 4), (4, .int .i64 2), (5, .int .i64 16), (6, .int .i64 4), (7, .int .i64 2), (8, .int .i64 2), (9, .int .i64 4)] w4
  have hr := sets_row [(1, .int .i64 40), (2, .int .i64 128), (3, .int .i64 4), (4, .int .i64 2), (5, .int .i64 16), (6, .int .i64 4), (7, .int .i64 2), (8, .int .i64 2), (9, .int .i64 4)] RT4.out
  obtain ⟨w5, hw⟩ : ∃ w5, sets w4 (ab + 1) [(1, .int .i64 40), (2, .int .i64 128), (3, .int .i64 4), (4, .int .i64 2), (5, .int .i64 16), (6, .int .i64 4), (7, .int .i64 2), (8, .int .i64 2), (9, .int .i64 4)] = w5 := ⟨_, rfl⟩
  rw [hw] at hg hr
  have hr' : w5.heap[ab + 1]? = some (.cells #[.int .u64 k0, .int .i64 40, .int .i64 128, .int .i64 4, .int .i64 2, .int .i64 16, .int .i64 4, .int .i64 2, .int .i64 2, .int .i64 4, .int .i64 ys, .int .i64 yn, .int .u64 yq] 28 (0, 0)) := by rw [hr]; rw [fold9]
  have RT5 := Lib.hid hr'
  have RA5 : Hid (w5.heap[ab]? = some (.cells #[.int .u64 m0, .int .i64 40, .int .i64 128, .int .i64 4, .int .i64 2, .int .i64 16, .int .i64 4, .int .i64 2, .int .i64 2, .int .i64 4, .int .i64 xs, .int .i64 xn, .int .u64 xq] 28 (0, 0))) := (hg.block (ab) (Array.getElem?_eq_some_iff.1 RA4.out).1 (fun e => by injection e with e; omega)).trans RA4.out
  have B5 : Hid (Below w.heap.size w w5) := Below.grown B4.out hg B4.out.size (fun k e => by injection e with e; have := HAB.out; omega)
  have HW5 := Lib.hid hw
  clear hg hr hr' hw
  have hw : (((((((((w4).setCell ⟨ab + 1, 1, none⟩ (.int .i64 40)).setCell ⟨ab + 1, 2, none⟩ (.int .i64 128)).setCell ⟨ab + 1, 3, none⟩ (.int .i64 4)).setCell ⟨ab + 1, 4, none⟩ (.int .i64 2)).setCell ⟨ab + 1, 5, none⟩ (.int .i64 16)).setCell ⟨ab + 1, 6, none⟩ (.int .i64 4)).setCell ⟨ab + 1, 7, none⟩ (.int .i64 2)).setCell ⟨ab + 1, 8, none⟩ (.int .i64 2)).setCell ⟨ab + 1, 9, none⟩ (.int .i64 4) = w5 := HW5.out
  obtain ⟨p0, p1, p2, p3, p4, p5, p6, p7, p8, p9, p10, p11, p12⟩ := cells13 RT5.out
  obtain ⟨q0, q1, q2, q3, q4, q5, q6, q7, q8, q9, q10, q11, q12⟩ := cells13 RA5.out
  have hfz2 : ∀ i, w5.frozen? ⟨ab, i, none⟩ = false := fun i => frozen_of_row w5 ab i _ _ RA5.out
  have hfz3 : ∀ i, w5.frozen? ⟨ab + 1, i, none⟩ = false := fun i => frozen_of_row w5 (ab + 1) i _ _ RT5.out
  clear RA4 RT4 B4 HW5
  go_wp2_with (rw [hw])
  obtain ⟨E, hE⟩ : ∃ E, m0 % 4611686018427387904 = E := ⟨_, rfl⟩
  have hE1 : 0 ≤ E ∧ E ≤ 4611686018427387903 := by omega
  rw [hE]
  have hwA : (⟨E, 40, 128, 4, 2, 16, 4, 2, 2, 4, xs, xn, xq⟩ : Blk).Wf := ⟨by show 0 ≤ E ∧ E ≤ _; omega, kb_wf.w0, kb_wf.w1, kb_wf.w2, kb_wf.w3, kb_wf.w4, kb_wf.w5, kb_wf.w6, kb_wf.w7, kb_wf.w8, HB.out.rs, HB.out.rn, HB.out.sq⟩
  have hwB : (⟨E + 1, 40, 128, 4, 2, 16, 4, 2, 2, 4, ys, yn, yq⟩ : Blk).Wf := ⟨by show 0 ≤ E + 1 ∧ E + 1 ≤ _; omega, kb_wf.w0, kb_wf.w1, kb_wf.w2, kb_wf.w3, kb_wf.w4, kb_wf.w5, kb_wf.w6, kb_wf.w7, kb_wf.w8, HT.out.rs, HT.out.rn, HT.out.sq⟩
  have HWA2 := Lib.hid hwA
  have HWB2 := Lib.hid hwB
  have hg := sets_grown (b := ab) [(0, .int .u64 E)] w5
  have hr := sets_row [(0, .int .u64 E)] RA5.out
  have ht := (hg.block (ab + 1) (Array.getElem?_eq_some_iff.1 RT5.out).1 (fun e => by injection e with e; omega)).trans RT5.out
  have hb : Below w.heap.size w (sets w5 ab [(0, .int .u64 E)]) := Below.grown B5.out hg B5.out.size (fun k e => by injection e with e; have := HAB.out; omega)
  have hg2 := sets_grown (b := ab + 1) [(0, .int .u64 (E + 1))] (sets w5 ab [(0, .int .u64 E)])
  have hr2 := sets_row [(0, .int .u64 (E + 1))] ht
  have ha2 := (hg2.block ab (Array.getElem?_eq_some_iff.1 hr).1 (fun e => by injection e with e; omega)).trans hr
  have hb2 := Below.grown hb hg2 hb.size (fun k e => by injection e with e; have := HAB.out; omega)
  change Calls _ _ _ (sets (sets w5 ab [(0, .int .u64 E)]) (ab + 1) [(0, .int .u64 (E + 1))]) _
  obtain ⟨w7, hw7⟩ : ∃ w7, sets (sets w5 ab [(0, .int .u64 E)]) (ab + 1) [(0, .int .u64 (E + 1))] = w7 := ⟨_, rfl⟩
  rw [hw7] at ha2 hr2 hb2 ⊢
  have RA7 : Hid (w7.heap[ab]? = some (.cells #[.int .u64 E, .int .i64 40, .int .i64 128, .int .i64 4, .int .i64 2, .int .i64 16, .int .i64 4, .int .i64 2, .int .i64 2, .int .i64 4, .int .i64 xs, .int .i64 xn, .int .u64 xq] 28 (0, 0))) := ha2
  have RT7 : Hid (w7.heap[ab + 1]? = some (.cells #[.int .u64 (E + 1), .int .i64 40, .int .i64 128, .int .i64 4, .int .i64 2, .int .i64 16, .int .i64 4, .int .i64 2, .int .i64 2, .int .i64 4, .int .i64 ys, .int .i64 yn, .int .u64 yq] 28 (0, 0))) := hr2
  have B7 := Lib.hid hb2
  have HE := Lib.hid hE
  clear hE hwA hwB hg hr ht hb hg2 hr2 ha2 hb2 hw7 hw hfz hfz2 hfz3 RA5 RT5 B5
  clear p0 p1 p2 p3 p4 p5 p6 p7 p8 p9 p10 p11 p12 q0 q1 q2 q3 q4 q5 q6 q7 q8 q9 q10 q11 q12 r0 r1 r2 r3 r4 r5 r6 r7 r8 r9 r10 r11 r12
  have hea := supenc_any (⟨E, 40, 128, 4, 2, 16, 4, 2, 2, 4, xs, xn, xq⟩ : Blk) w7 HWA2.out
  rw [show (⟨E, 40, 128, 4, 2, 16, 4, 2, 2, 4, xs, xn, xq⟩ : Blk).val = .agg #[.int .u64 E, .int .i64 40, .int .i64 128, .int .i64 4, .int .i64 2, .int .i64 16, .int .i64 4, .int .i64 2, .int .i64 2, .int .i64 4, .int .i64 xs, .int .i64 xn, .int .u64 xq] from rfl] at hea
  refine hea.mono ?_
  rintro e w8 ⟨v8, rfl, -, hb8⟩
  have RA8 := Lib.hid (row_keep RA7.out hb8)
  have RT8 := Lib.hid (row_keep RT7.out hb8)
  have B8 := Lib.hid (Below.call B7.out hb8)
  clear hea hb8 RA7 RT7 B7
  obtain ⟨EA, hEA⟩ : ∃ x, supE (⟨E, 40, 128, 4, 2, 16, 4, 2, 2, 4, xs, xn, xq⟩ : Blk) = x := ⟨_, rfl⟩
  rw [hEA]
  by_cases h0 : EA = 0
  rotate_left
  · have d0 : (EA != 0) = true := by simpa using h0
    clear h0 hEA
    go_wp2_with fail
    go_ret
    exact ⟨rfl, B8.out⟩
  subst h0
  have HEA := Lib.hid hEA
  clear hEA
  obtain ⟨q0, q1, q2, q3, q4, q5, q6, q7, q8, q9, q10, q11, q12⟩ := cells13 RT8.out
  go_wp2_with fail
  have heb := supenc_any (⟨E + 1, 40, 128, 4, 2, 16, 4, 2, 2, 4, ys, yn, yq⟩ : Blk) w8 HWB2.out
  rw [show (⟨E + 1, 40, 128, 4, 2, 16, 4, 2, 2, 4, ys, yn, yq⟩ : Blk).val = .agg #[.int .u64 (E + 1), .int .i64 40, .int .i64 128, .int .i64 4, .int .i64 2, .int .i64 16, .int .i64 4, .int .i64 2, .int .i64 2, .int .i64 4, .int .i64 ys, .int .i64 yn, .int .u64 yq] from rfl] at heb
  refine heb.mono ?_
  rintro e w9 ⟨v9, rfl, -, hb9⟩
  have RA9 := Lib.hid (row_keep RA8.out hb9)
  have RT9 := Lib.hid (row_keep RT8.out hb9)
  have B9 := Lib.hid (Below.call B8.out hb9)
  clear heb hb9 RA8 RT8 B8
  clear q0 q1 q2 q3 q4 q5 q6 q7 q8 q9 q10 q11 q12
  obtain ⟨EB, hEB⟩ : ∃ x, supE (⟨E + 1, 40, 128, 4, 2, 16, 4, 2, 2, 4, ys, yn, yq⟩ : Blk) = x := ⟨_, rfl⟩
  rw [hEB]
  by_cases h0 : EB = 0
  rotate_left
  · have d0 : (EB != 0) = true := by simpa using h0
    clear h0 hEB
    go_wp2_with fail
    go_ret
    exact ⟨rfl, B9.out⟩
  subst h0
  obtain ⟨s1, s3, CL⟩ := cut_law (A := ⟨E, 40, 128, 4, 2, 16, 4, 2, 2, 4, xs, xn, xq⟩) (B := ⟨E + 1, 40, 128, 4, 2, 16, 4, 2, 2, 4, ys, yn, yq⟩) n kl HWA2.out HWB2.out HEA.out hEB ⟨rfl, rfl⟩ ⟨rfl, rfl⟩ rfl
  have HCL := Lib.hid CL
  clear hEB CL
  go_wp2_with fail
  refine (new_any 40 128 w9 r40).mono ?_
  rintro e w10 ⟨d, Z, rfl, hd, hz, hb⟩
  have C10 : Hid (CutW w w10 d Z K0 ab (ab + 1) #[.int .u64 E, .int .i64 40, .int .i64 128, .int .i64 4, .int .i64 2, .int .i64 16, .int .i64 4, .int .i64 2, .int .i64 2, .int .i64 4, .int .i64 xs, .int .i64 xn, .int .u64 xq] #[.int .u64 (E + 1), .int .i64 40, .int .i64 128, .int .i64 4, .int .i64 2, .int .i64 16, .int .i64 4, .int .i64 2, .int .i64 2, .int .i64 4, .int .i64 ys, .int .i64 yn, .int .u64 yq]) := CutW.mk (DkB.mk hd (fun k h => Nat.le_trans B9.out.size (hz k h)) (Below.call B9.out hb)) (row_keep RA9.out hb) (row_keep RT9.out hb) (fun h => by have := hz _ h; have := (Array.getElem?_eq_some_iff.1 RA9.out).1; omega) (fun h => by have := hz _ h; have := (Array.getElem?_eq_some_iff.1 RT9.out).1; omega)
  clear hd hz hb RA9 RT9 B9
  obtain ⟨q0, q1, q2, q3, q4, q5, q6, q7, q8, q9, q10, q11, q12⟩ := cells13 C10.out.ra
  go_wp2_with fail
  have h1 := supwrite_any Z d K0 (⟨E, 40, 128, 4, 2, 16, 4, 2, 2, 4, xs, xn, xq⟩ : Blk) w10 C10.out.d.din HWA2.out (show (0 : Int) + 1 ≤ 4611686018427387904 by decide)
  rw [show (⟨E, 40, 128, 4, 2, 16, 4, 2, 2, 4, xs, xn, xq⟩ : Blk).val = .agg #[.int .u64 E, .int .i64 40, .int .i64 128, .int .i64 4, .int .i64 2, .int .i64 16, .int .i64 4, .int .i64 2, .int .i64 2, .int .i64 4, .int .i64 xs, .int .i64 xn, .int .u64 xq] from rfl, HCL.out.e1, HCL.out.a1] at h1
  refine h1.mono ?_
  rintro e w11 ⟨rfl, Z11, hd, ht⟩
  have C11 := Lib.hid (C10.out.turn hd ht)
  clear q0 q1 q2 q3 q4 q5 q6 q7 q8 q9 q10 q11 q12
  clear h1 hd ht C10
  go_wp2_with fail
  have hk11 : RdB w11 a len c kl := HK.out.kept (fun x hx h => C11.out.d.below.block x.block (HK.out.lt x hx h))
  refine (arm_any Z11 d s1 n a len c kl w11 C11.out.d.din hk11 (by omega) hn1 hn2).mono ?_
  rintro e w12 ⟨rfl, Z12, hd, ht⟩
  have C12 := Lib.hid (C11.out.turn hd ht)
  clear hk11 hd ht C11
  obtain ⟨q0, q1, q2, q3, q4, q5, q6, q7, q8, q9, q10, q11, q12⟩ := cells13 C12.out.rt
  go_wp2_with fail
  have h1 := supwrite_any Z12 d (armS s1 n kl) (⟨E + 1, 40, 128, 4, 2, 16, 4, 2, 2, 4, ys, yn, yq⟩ : Blk) w12 C12.out.d.din HWB2.out HCL.out.w1
  rw [show (⟨E + 1, 40, 128, 4, 2, 16, 4, 2, 2, 4, ys, yn, yq⟩ : Blk).val = .agg #[.int .u64 (E + 1), .int .i64 40, .int .i64 128, .int .i64 4, .int .i64 2, .int .i64 16, .int .i64 4, .int .i64 2, .int .i64 2, .int .i64 4, .int .i64 ys, .int .i64 yn, .int .u64 yq] from rfl, HCL.out.a3] at h1
  refine h1.mono ?_
  rintro e w13 ⟨rfl, Z13, hd, ht⟩
  have C13 := Lib.hid (C12.out.turn hd ht)
  clear q0 q1 q2 q3 q4 q5 q6 q7 q8 q9 q10 q11 q12
  clear h1 hd ht C12
  by_cases hcut : n ≤ 1
  · obtain ⟨x1, x2, x3, x4⟩ := HCL.out.cut hcut
    rw [x1]
    have X2 := Lib.hid x2
    have X3 := Lib.hid x3
    have X4 := Lib.hid x4
    clear x1 x2 x3 x4 hcut
    go_wp2_with fail
    refine (off_any Z13 d s3 w13 C13.out.d.din).mono ?_
    rintro e w' ⟨rfl, rfl⟩
    rw [X2.out]
    go_wp2_with fail
    refine (on_any Z13 d s3 w13 C13.out.d.din).mono ?_
    rintro e w14 ⟨rfl, hd, ht⟩
    have C14 := Lib.hid (C13.out.turn hd ht)
    clear hd ht C13
    go_wp2_with fail
    refine (arm_nil Z13 d { s3 with off := false } 1099511627776 w14 C14.out.d.din (by decide) (by decide)).mono ?_
    rintro e w15 ⟨rfl, hd, ht⟩
    have C15 : Hid (CutW w w15 d Z13 (backS s3) ab (ab + 1) #[.int .u64 E, .int .i64 40, .int .i64 128, .int .i64 4, .int .i64 2, .int .i64 16, .int .i64 4, .int .i64 2, .int .i64 2, .int .i64 4, .int .i64 xs, .int .i64 xn, .int .u64 xq] #[.int .u64 (E + 1), .int .i64 40, .int .i64 128, .int .i64 4, .int .i64 2, .int .i64 16, .int .i64 4, .int .i64 2, .int .i64 2, .int .i64 4, .int .i64 ys, .int .i64 yn, .int .u64 yq]) := C14.out.turn hd ht
    clear hd ht C14
    go_wp2_with fail
    have h1 := supread_any Z13 d (backS s3) w15 C15.out.d.din HCL.out.len (show s3.reads + 2 ≤ 4611686018427387904 by rw [HCL.out.rd]; decide)
    rw [X3.out, X4.out, show (⟨E, 40, 128, 4, 2, 16, 4, 2, 2, 4, xs, xn, xq⟩ : Blk).val = .agg #[.int .u64 E, .int .i64 40, .int .i64 128, .int .i64 4, .int .i64 2, .int .i64 16, .int .i64 4, .int .i64 2, .int .i64 2, .int .i64 4, .int .i64 xs, .int .i64 xn, .int .u64 xq] from rfl] at h1
    refine h1.mono ?_
    rintro e w16 ⟨rfl, hd, ht⟩
    have C16 := Lib.hid (C15.out.turn hd ht)
    clear h1 hd ht C15
    have hal := (Below.refl w16.heap.size w16).alloc (Nat.le_refl _) (.cells #[.int .u64 E, .int .i64 40, .int .i64 128, .int .i64 4, .int .i64 2, .int .i64 16, .int .i64 4, .int .i64 2, .int .i64 2, .int .i64 4, .int .i64 xs, .int .i64 xn, .int .u64 xq] 28)
    have hrow := heap_alloc_new w16 (.cells #[.int .u64 E, .int .i64 40, .int .i64 128, .int .i64 4, .int .i64 2, .int .i64 16, .int .i64 4, .int .i64 2, .int .i64 2, .int .i64 4, .int .i64 xs, .int .i64 xn, .int .u64 xq] 28)
    have C17 := Lib.hid (C16.out.more hal)
    obtain ⟨w17, hw17⟩ : ∃ w17, w16.alloc (.cells #[.int .u64 E, .int .i64 40, .int .i64 128, .int .i64 4, .int .i64 2, .int .i64 16, .int .i64 4, .int .i64 2, .int .i64 2, .int .i64 4, .int .i64 xs, .int .i64 xn, .int .u64 xq] 28) = w17 := ⟨_, rfl⟩
    obtain ⟨rb, hrb⟩ : ∃ rb, w16.heap.size = rb := ⟨_, rfl⟩
    rw [hw17] at C17 hrow
    rw [hrb] at hrow
    obtain ⟨p0, p1, p2, p3, p4, p5, p6, p7, p8, p9, p10, p11, p12⟩ := cells13 hrow
    obtain ⟨q0, q1, q2, q3, q4, q5, q6, q7, q8, q9, q10, q11, q12⟩ := cells13 C17.out.ra
    obtain ⟨r0, r1, r2, r3, r4, r5, r6, r7, r8, r9, r10, r11, r12⟩ := cells13 C17.out.rt
    have hne : (E == E + 1) = false := by rw [beq_eq_false_iff_ne]; omega
    clear hal hrow C16
    go_wp2_with (rw [hw17])
    go_ret
    exact ⟨rfl, C17.out.d.below⟩
  · obtain ⟨x1, x2, x3, x4⟩ := HCL.out.whole (by omega)
    rw [x1]
    have X2 := Lib.hid x2
    have X3 := Lib.hid x3
    have X4 := Lib.hid x4
    clear x1 x2 x3 x4 hcut
    go_wp2_with fail
    refine (off_any Z13 d s3 w13 C13.out.d.din).mono ?_
    rintro e w' ⟨rfl, rfl⟩
    rw [X2.out]
    go_wp2_with fail
    have hk13 : RdB w13 a len c kl := HK.out.kept (fun x hx h => C13.out.d.below.block x.block (HK.out.lt x hx h))
    refine (cut_any Z13 d s3 w13 C13.out.d.din a len c kl hk13 (fun x hx h => ⟨hk13.lt x hx h, fun hz => by have h1 := C13.out.d.base _ hz; have h2 := HK.out.lt x hx h; omega⟩)).mono ?_
    rintro e w18 ⟨rfl, hd, ht⟩
    have C18 := Lib.hid (C13.out.turn hd ht)
    clear hk13 hd ht C13
    go_wp2_with fail
    refine (on_any Z13 d (cutS s3 kl) w18 C18.out.d.din).mono ?_
    rintro e w14 ⟨rfl, hd, ht⟩
    have C14 := Lib.hid (C18.out.turn hd ht)
    clear hd ht C18
    go_wp2_with fail
    refine (arm_nil Z13 d { cutS s3 kl with off := false } 1099511627776 w14 C14.out.d.din (by decide) (by decide)).mono ?_
    rintro e w15 ⟨rfl, hd, ht⟩
    have C15 : Hid (CutW w w15 d Z13 (backS (cutS s3 kl)) ab (ab + 1) #[.int .u64 E, .int .i64 40, .int .i64 128, .int .i64 4, .int .i64 2, .int .i64 16, .int .i64 4, .int .i64 2, .int .i64 2, .int .i64 4, .int .i64 xs, .int .i64 xn, .int .u64 xq] #[.int .u64 (E + 1), .int .i64 40, .int .i64 128, .int .i64 4, .int .i64 2, .int .i64 16, .int .i64 4, .int .i64 2, .int .i64 2, .int .i64 4, .int .i64 ys, .int .i64 yn, .int .u64 yq]) := C14.out.turn hd ht
    clear hd ht C14
    go_wp2_with fail
    have h1 := supread_any Z13 d (backS (cutS s3 kl)) w15 C15.out.d.din (by show 2 ≤ (settleK (fun i => kl.getD i false) 0 s3.pend s3.kept).length; rw [settleK_len]; exact HCL.out.len) (show s3.reads + 2 ≤ 4611686018427387904 by rw [HCL.out.rd]; decide)
    rw [X3.out, X4.out, show (⟨E + 1, 40, 128, 4, 2, 16, 4, 2, 2, 4, ys, yn, yq⟩ : Blk).val = .agg #[.int .u64 (E + 1), .int .i64 40, .int .i64 128, .int .i64 4, .int .i64 2, .int .i64 16, .int .i64 4, .int .i64 2, .int .i64 2, .int .i64 4, .int .i64 ys, .int .i64 yn, .int .u64 yq] from rfl] at h1
    refine h1.mono ?_
    rintro e w16 ⟨rfl, hd, ht⟩
    have C16 := Lib.hid (C15.out.turn hd ht)
    clear h1 hd ht C15
    have hal := (Below.refl w16.heap.size w16).alloc (Nat.le_refl _) (.cells #[.int .u64 (E + 1), .int .i64 40, .int .i64 128, .int .i64 4, .int .i64 2, .int .i64 16, .int .i64 4, .int .i64 2, .int .i64 2, .int .i64 4, .int .i64 ys, .int .i64 yn, .int .u64 yq] 28)
    have hrow := heap_alloc_new w16 (.cells #[.int .u64 (E + 1), .int .i64 40, .int .i64 128, .int .i64 4, .int .i64 2, .int .i64 16, .int .i64 4, .int .i64 2, .int .i64 2, .int .i64 4, .int .i64 ys, .int .i64 yn, .int .u64 yq] 28)
    have C17 := Lib.hid (C16.out.more hal)
    obtain ⟨w17, hw17⟩ : ∃ w17, w16.alloc (.cells #[.int .u64 (E + 1), .int .i64 40, .int .i64 128, .int .i64 4, .int .i64 2, .int .i64 16, .int .i64 4, .int .i64 2, .int .i64 2, .int .i64 4, .int .i64 ys, .int .i64 yn, .int .u64 yq] 28) = w17 := ⟨_, rfl⟩
    obtain ⟨rb, hrb⟩ : ∃ rb, w16.heap.size = rb := ⟨_, rfl⟩
    rw [hw17] at C17 hrow
    rw [hrb] at hrow
    obtain ⟨p0, p1, p2, p3, p4, p5, p6, p7, p8, p9, p10, p11, p12⟩ := cells13 hrow
    obtain ⟨r0, r1, r2, r3, r4, r5, r6, r7, r8, r9, r10, r11, r12⟩ := cells13 C17.out.rt
    clear hal hrow C16
    go_wp2_with (rw [hw17])
    go_ret
    exact ⟨rfl, C17.out.d.below⟩
set_option linter.unusedSimpArgs false in
set_option linter.unusedVariables false in
set_option maxRecDepth 100000 in
set_option maxHeartbeats 2000000 in
theorem supercuts_neg0 (b t : Blk) (n : Int) (a : Option Addr) (len c : Nat) (kl : List Bool) (w : World) (hb : b.Wf) (ht : t.Wf) (hk : RdB w a len c kl) (hlen : len ≤ 100) (hn : -9223372036854775808 ≤ n ∧ n ≤ 9223372036854775807) (hneg : b.rs < 0) :
    Calls Try.prog 6 #[b.val, t.val, .int .i64 n, .slice a len c] w fun e w' => e = .returned (.bool true) ∧ Below w.heap.size w w' := by
  obtain ⟨hn1, hn2⟩ := hn
  have g1 := hneg
  have HB := Lib.hid hb
  have HT := Lib.hid ht
  have HK := Lib.hid hk
  clear hb ht hk
  have d1 : decide ((100 : Int) < (len : Int)) = false := decide_eq_false (by omega)
  obtain ⟨m0, x0, x1, x2, x3, x4, x5, x6, x7, x8, xs, xn, xq⟩ := b
  obtain ⟨k0, y0, y1, y2, y3, y4, y5, y6, y7, y8, ys, yn, yq⟩ := t
  replace g1 : xs < 0 := g1
  have f1 : decide (xs < 0) = true := decide_eq_true (by omega)
  obtain ⟨e1, e2⟩ := HB.out.ep
  replace e1 : 0 ≤ m0 := e1
  replace e2 : m0 ≤ 18446744073709551615 := e2
  rw [show (⟨m0, x0, x1, x2, x3, x4, x5, x6, x7, x8, xs, xn, xq⟩ : Blk).val = .agg #[.int .u64 m0, .int .i64 x0, .int .i64 x1, .int .i64 x2, .int .i64 x3, .int .i64 x4, .int .i64 x5, .int .i64 x6, .int .i64 x7, .int .i64 x8, .int .i64 xs, .int .i64 xn, .int .u64 xq] from rfl, show (⟨k0, y0, y1, y2, y3, y4, y5, y6, y7, y8, ys, yn, yq⟩ : Blk).val = .agg #[.int .u64 k0, .int .i64 y0, .int .i64 y1, .int .i64 y2, .int .i64 y3, .int .i64 y4, .int .i64 y5, .int .i64 y6, .int .i64 y7, .int .i64 y8, .int .i64 ys, .int .i64 yn, .int .u64 yq] from rfl]
  have hba : Below w.heap.size w ((w.alloc (.cells #[.int .u64 m0, .int .i64 x0, .int .i64 x1, .int .i64 x2, .int .i64 x3, .int .i64 x4, .int .i64 x5, .int .i64 x6, .int .i64 x7, .int .i64 x8, .int .i64 xs, .int .i64 xn, .int .u64 xq] 28)).alloc (.cells #[.int .u64 k0, .int .i64 y0, .int .i64 y1, .int .i64 y2, .int .i64 y3, .int .i64 y4, .int .i64 y5, .int .i64 y6, .int .i64 y7, .int .i64 y8, .int .i64 ys, .int .i64 yn, .int .u64 yq] 28)) := ((Below.refl _ _).alloc (Nat.le_refl _) _).alloc (by simp) _
  have hra : (((w.alloc (.cells #[.int .u64 m0, .int .i64 x0, .int .i64 x1, .int .i64 x2, .int .i64 x3, .int .i64 x4, .int .i64 x5, .int .i64 x6, .int .i64 x7, .int .i64 x8, .int .i64 xs, .int .i64 xn, .int .u64 xq] 28)).alloc (.cells #[.int .u64 k0, .int .i64 y0, .int .i64 y1, .int .i64 y2, .int .i64 y3, .int .i64 y4, .int .i64 y5, .int .i64 y6, .int .i64 y7, .int .i64 y8, .int .i64 ys, .int .i64 yn, .int .u64 yq] 28))).heap[w.heap.size]? = some (.cells #[.int .u64 m0, .int .i64 x0, .int .i64 x1, .int .i64 x2, .int .i64 x3, .int .i64 x4, .int .i64 x5, .int .i64 x6, .int .i64 x7, .int .i64 x8, .int .i64 xs, .int .i64 xn, .int .u64 xq] 28 (0, 0)) := by
    rw [heap_old _ _ (by simp)]
    exact heap_alloc_new _ _
  have hrt : (((w.alloc (.cells #[.int .u64 m0, .int .i64 x0, .int .i64 x1, .int .i64 x2, .int .i64 x3, .int .i64 x4, .int .i64 x5, .int .i64 x6, .int .i64 x7, .int .i64 x8, .int .i64 xs, .int .i64 xn, .int .u64 xq] 28)).alloc (.cells #[.int .u64 k0, .int .i64 y0, .int .i64 y1, .int .i64 y2, .int .i64 y3, .int .i64 y4, .int .i64 y5, .int .i64 y6, .int .i64 y7, .int .i64 y8, .int .i64 ys, .int .i64 yn, .int .u64 yq] 28))).heap[w.heap.size + 1]? = some (.cells #[.int .u64 k0, .int .i64 y0, .int .i64 y1, .int .i64 y2, .int .i64 y3, .int .i64 y4, .int .i64 y5, .int .i64 y6, .int .i64 y7, .int .i64 y8, .int .i64 ys, .int .i64 yn, .int .u64 yq] 28 (0, 0)) := by
    have := heap_alloc_new (w.alloc (.cells #[.int .u64 m0, .int .i64 x0, .int .i64 x1, .int .i64 x2, .int .i64 x3, .int .i64 x4, .int .i64 x5, .int .i64 x6, .int .i64 x7, .int .i64 x8, .int .i64 xs, .int .i64 xn, .int .u64 xq] 28)) (.cells #[.int .u64 k0, .int .i64 y0, .int .i64 y1, .int .i64 y2, .int .i64 y3, .int .i64 y4, .int .i64 y5, .int .i64 y6, .int .i64 y7, .int .i64 y8, .int .i64 ys, .int .i64 yn, .int .u64 yq] 28)
    simpa using this
  obtain ⟨wa, hwa⟩ : ∃ wa, ((w.alloc (.cells #[.int .u64 m0, .int .i64 x0, .int .i64 x1, .int .i64 x2, .int .i64 x3, .int .i64 x4, .int .i64 x5, .int .i64 x6, .int .i64 x7, .int .i64 x8, .int .i64 xs, .int .i64 xn, .int .u64 xq] 28)).alloc (.cells #[.int .u64 k0, .int .i64 y0, .int .i64 y1, .int .i64 y2, .int .i64 y3, .int .i64 y4, .int .i64 y5, .int .i64 y6, .int .i64 y7, .int .i64 y8, .int .i64 ys, .int .i64 yn, .int .u64 yq] 28)) = wa := ⟨_, rfl⟩
  obtain ⟨ab, hab⟩ : ∃ ab, w.heap.size = ab := ⟨_, rfl⟩
  rw [hwa] at hba hra hrt
  rw [hab] at hra hrt
  have BA := Lib.hid hba
  have RA := Lib.hid hra
  have RT := Lib.hid hrt
  have HWA := Lib.hid hwa
  have HAB := Lib.hid hab
  clear hba hra hrt hwa hab
  go_enter Try.func6, Try.ntmps6
  go_wp2_with fail
  rw [HWA.out, HAB.out]
  refine (known20 wa).mono ?_
  rintro e w1 ⟨rfl, hb1⟩
  have RA1 := Lib.hid (row_keep RA.out hb1)
  have RT1 := Lib.hid (row_keep RT.out hb1)
  have B1 := Lib.hid (Below.call BA.out hb1)
  clear hb1 RA RT BA
  go_wp2_with fail
  refine (shape20_any w1).mono ?_
  rintro e w2 ⟨rfl, hb2⟩
  have RA2 := Lib.hid (row_keep RA1.out hb2)
  have RT2 := Lib.hid (row_keep RT1.out hb2)
  have B2 := Lib.hid (Below.call B1.out hb2)
  clear hb2 RA1 RT1 B1
  obtain ⟨p0, p1, p2, p3, p4, p5, p6, p7, p8, p9, p10, p11, p12⟩ := cells13 RA2.out
  have hfz : ∀ i, w2.frozen? ⟨ab, i, none⟩ = false := fun i => frozen_of_row w2 (ab) i _ _ RA2.out
  have hg := sets_grown (b := ab) [(1, .int .i64 40), (2, .int .i64 128), (3, .int .i64 4), (4, .int .i64 2), (5, .int .i64 16), (6, .int .i64 4), (7, .int .i64 2), (8, .int .i64 2), (9, .int .i64 4)] w2
  have hr := sets_row [(1, .int .i64 40), (2, .int .i64 128), (3, .int .i64 4), (4, .int .i64 2), (5, .int .i64 16), (6, .int .i64 4), (7, .int .i64 2), (8, .int .i64 2), (9, .int .i64 4)] RA2.out
  obtain ⟨w3, hw⟩ : ∃ w3, sets w2 (ab) [(1, .int .i64 40), (2, .int .i64 128), (3, .int .i64 4), (4, .int .i64 2), (5, .int .i64 16), (6, .int .i64 4), (7, .int .i64 2), (8, .int .i64 2), (9, .int .i64 4)] = w3 := ⟨_, rfl⟩
  rw [hw] at hg hr
  have hr' : w3.heap[ab]? = some (.cells #[.int .u64 m0, .int .i64 40, .int .i64 128, .int .i64 4, .int .i64 2, .int .i64 16, .int .i64 4, .int .i64 2, .int .i64 2, .int .i64 4, .int .i64 xs, .int .i64 xn, .int .u64 xq] 28 (0, 0)) := by rw [hr]; rw [fold9]
  have RA3 := Lib.hid hr'
  have RT3 : Hid (w3.heap[ab + 1]? = some (.cells #[.int .u64 k0, .int .i64 y0, .int .i64 y1, .int .i64 y2, .int .i64 y3, .int .i64 y4, .int .i64 y5, .int .i64 y6, .int .i64 y7, .int .i64 y8, .int .i64 ys, .int .i64 yn, .int .u64 yq] 28 (0, 0))) := (hg.block (ab + 1) (Array.getElem?_eq_some_iff.1 RT2.out).1 (fun e => by injection e with e; omega)).trans RT2.out
  have B3 : Hid (Below w.heap.size w w3) := Below.grown B2.out hg B2.out.size (fun k e => by injection e with e; have := HAB.out; omega)
  have HW3 := Lib.hid hw
  clear hg hr hr' hw
  have hw : (((((((((w2).setCell ⟨ab, 1, none⟩ (.int .i64 40)).setCell ⟨ab, 2, none⟩ (.int .i64 128)).setCell ⟨ab, 3, none⟩ (.int .i64 4)).setCell ⟨ab, 4, none⟩ (.int .i64 2)).setCell ⟨ab, 5, none⟩ (.int .i64 16)).setCell ⟨ab, 6, none⟩ (.int .i64 4)).setCell ⟨ab, 7, none⟩ (.int .i64 2)).setCell ⟨ab, 8, none⟩ (.int .i64 2)).setCell ⟨ab, 9, none⟩ (.int .i64 4) = w3 := HW3.out
  go_wp2_with (rw [hw])
  clear hw hfz
  clear p0 p1 p2 p3 p4 p5 p6 p7 p8 p9 p10 p11 p12
  refine (shape20_any w3).mono ?_
  rintro e w4 ⟨rfl, hb4⟩
  have RA4 := Lib.hid (row_keep RA3.out hb4)
  have RT4 := Lib.hid (row_keep RT3.out hb4)
  have B4 := Lib.hid (Below.call B3.out hb4)
  clear hb4 RA3 RT3 B3 RA2 RT2 B2 HW3
  obtain ⟨r0, r1, r2, r3, r4, r5, r6, r7, r8, r9, r10, r11, r12⟩ := cells13 RT4.out
  have hfz : ∀ i, w4.frozen? ⟨ab + 1, i, none⟩ = false := fun i => frozen_of_row w4 (ab + 1) i _ _ RT4.out
  have hg := sets_grown (b := ab + 1) [(1, .int .i64 40), (2, .int .i64 128), (3, .int .i64 4), (4, .int .i64 2), (5, .int .i64 16), (6, .int .i64 4), (7, .int .i64 2), (8, .int .i64 2), (9, .int .i64 4)] w4
  have hr := sets_row [(1, .int .i64 40), (2, .int .i64 128), (3, .int .i64 4), (4, .int .i64 2), (5, .int .i64 16), (6, .int .i64 4), (7, .int .i64 2), (8, .int .i64 2), (9, .int .i64 4)] RT4.out
  obtain ⟨w5, hw⟩ : ∃ w5, sets w4 (ab + 1) [(1, .int .i64 40), (2, .int .i64 128), (3, .int .i64 4), (4, .int .i64 2), (5, .int .i64 16), (6, .int .i64 4), (7, .int .i64 2), (8, .int .i64 2), (9, .int .i64 4)] = w5 := ⟨_, rfl⟩
  rw [hw] at hg hr
  have hr' : w5.heap[ab + 1]? = some (.cells #[.int .u64 k0, .int .i64 40, .int .i64 128, .int .i64 4, .int .i64 2, .int .i64 16, .int .i64 4, .int .i64 2, .int .i64 2, .int .i64 4, .int .i64 ys, .int .i64 yn, .int .u64 yq] 28 (0, 0)) := by rw [hr]; rw [fold9]
  have RT5 := Lib.hid hr'
  have RA5 : Hid (w5.heap[ab]? = some (.cells #[.int .u64 m0, .int .i64 40, .int .i64 128, .int .i64 4, .int .i64 2, .int .i64 16, .int .i64 4, .int .i64 2, .int .i64 2, .int .i64 4, .int .i64 xs, .int .i64 xn, .int .u64 xq] 28 (0, 0))) := (hg.block (ab) (Array.getElem?_eq_some_iff.1 RA4.out).1 (fun e => by injection e with e; omega)).trans RA4.out
  have B5 : Hid (Below w.heap.size w w5) := Below.grown B4.out hg B4.out.size (fun k e => by injection e with e; have := HAB.out; omega)
  have HW5 := Lib.hid hw
  clear hg hr hr' hw
  have hw : (((((((((w4).setCell ⟨ab + 1, 1, none⟩ (.int .i64 40)).setCell ⟨ab + 1, 2, none⟩ (.int .i64 128)).setCell ⟨ab + 1, 3, none⟩ (.int .i64 4)).setCell ⟨ab + 1, 4, none⟩ (.int .i64 2)).setCell ⟨ab + 1, 5, none⟩ (.int .i64 16)).setCell ⟨ab + 1, 6, none⟩ (.int .i64 4)).setCell ⟨ab + 1, 7, none⟩ (.int .i64 2)).setCell ⟨ab + 1, 8, none⟩ (.int .i64 2)).setCell ⟨ab + 1, 9, none⟩ (.int .i64 4) = w5 := HW5.out
  obtain ⟨p0, p1, p2, p3, p4, p5, p6, p7, p8, p9, p10, p11, p12⟩ := cells13 RT5.out
  obtain ⟨q0, q1, q2, q3, q4, q5, q6, q7, q8, q9, q10, q11, q12⟩ := cells13 RA5.out
  have hfz2 : ∀ i, w5.frozen? ⟨ab, i, none⟩ = false := fun i => frozen_of_row w5 ab i _ _ RA5.out
  have hfz3 : ∀ i, w5.frozen? ⟨ab + 1, i, none⟩ = false := fun i => frozen_of_row w5 (ab + 1) i _ _ RT5.out
  clear RA4 RT4 B4 HW5
  go_wp2_with (rw [hw])
  go_ret
  exact ⟨rfl, B5.out⟩
set_option linter.unusedSimpArgs false in
set_option linter.unusedVariables false in
set_option maxRecDepth 100000 in
set_option maxHeartbeats 2000000 in
theorem supercuts_neg1 (b t : Blk) (n : Int) (a : Option Addr) (len c : Nat) (kl : List Bool) (w : World) (hb : b.Wf) (ht : t.Wf) (hk : RdB w a len c kl) (hlen : len ≤ 100) (hn : -9223372036854775808 ≤ n ∧ n ≤ 9223372036854775807) (hneg : 0 ≤ b.rs ∧ b.rn < 0) :
    Calls Try.prog 6 #[b.val, t.val, .int .i64 n, .slice a len c] w fun e w' => e = .returned (.bool true) ∧ Below w.heap.size w w' := by
  obtain ⟨hn1, hn2⟩ := hn
  obtain ⟨g1, g2⟩ := hneg
  have HB := Lib.hid hb
  have HT := Lib.hid ht
  have HK := Lib.hid hk
  clear hb ht hk
  have d1 : decide ((100 : Int) < (len : Int)) = false := decide_eq_false (by omega)
  obtain ⟨m0, x0, x1, x2, x3, x4, x5, x6, x7, x8, xs, xn, xq⟩ := b
  obtain ⟨k0, y0, y1, y2, y3, y4, y5, y6, y7, y8, ys, yn, yq⟩ := t
  replace g1 : 0 ≤ xs := g1
  replace g2 : xn < 0 := g2
  have f1 : decide (xs < 0) = false := decide_eq_false (by omega)
  have f2 : decide (xn < 0) = true := decide_eq_true (by omega)
  obtain ⟨e1, e2⟩ := HB.out.ep
  replace e1 : 0 ≤ m0 := e1
  replace e2 : m0 ≤ 18446744073709551615 := e2
  rw [show (⟨m0, x0, x1, x2, x3, x4, x5, x6, x7, x8, xs, xn, xq⟩ : Blk).val = .agg #[.int .u64 m0, .int .i64 x0, .int .i64 x1, .int .i64 x2, .int .i64 x3, .int .i64 x4, .int .i64 x5, .int .i64 x6, .int .i64 x7, .int .i64 x8, .int .i64 xs, .int .i64 xn, .int .u64 xq] from rfl, show (⟨k0, y0, y1, y2, y3, y4, y5, y6, y7, y8, ys, yn, yq⟩ : Blk).val = .agg #[.int .u64 k0, .int .i64 y0, .int .i64 y1, .int .i64 y2, .int .i64 y3, .int .i64 y4, .int .i64 y5, .int .i64 y6, .int .i64 y7, .int .i64 y8, .int .i64 ys, .int .i64 yn, .int .u64 yq] from rfl]
  have hba : Below w.heap.size w ((w.alloc (.cells #[.int .u64 m0, .int .i64 x0, .int .i64 x1, .int .i64 x2, .int .i64 x3, .int .i64 x4, .int .i64 x5, .int .i64 x6, .int .i64 x7, .int .i64 x8, .int .i64 xs, .int .i64 xn, .int .u64 xq] 28)).alloc (.cells #[.int .u64 k0, .int .i64 y0, .int .i64 y1, .int .i64 y2, .int .i64 y3, .int .i64 y4, .int .i64 y5, .int .i64 y6, .int .i64 y7, .int .i64 y8, .int .i64 ys, .int .i64 yn, .int .u64 yq] 28)) := ((Below.refl _ _).alloc (Nat.le_refl _) _).alloc (by simp) _
  have hra : (((w.alloc (.cells #[.int .u64 m0, .int .i64 x0, .int .i64 x1, .int .i64 x2, .int .i64 x3, .int .i64 x4, .int .i64 x5, .int .i64 x6, .int .i64 x7, .int .i64 x8, .int .i64 xs, .int .i64 xn, .int .u64 xq] 28)).alloc (.cells #[.int .u64 k0, .int .i64 y0, .int .i64 y1, .int .i64 y2, .int .i64 y3, .int .i64 y4, .int .i64 y5, .int .i64 y6, .int .i64 y7, .int .i64 y8, .int .i64 ys, .int .i64 yn, .int .u64 yq] 28))).heap[w.heap.size]? = some (.cells #[.int .u64 m0, .int .i64 x0, .int .i64 x1, .int .i64 x2, .int .i64 x3, .int .i64 x4, .int .i64 x5, .int .i64 x6, .int .i64 x7, .int .i64 x8, .int .i64 xs, .int .i64 xn, .int .u64 xq] 28 (0, 0)) := by
    rw [heap_old _ _ (by simp)]
    exact heap_alloc_new _ _
  have hrt : (((w.alloc (.cells #[.int .u64 m0, .int .i64 x0, .int .i64 x1, .int .i64 x2, .int .i64 x3, .int .i64 x4, .int .i64 x5, .int .i64 x6, .int .i64 x7, .int .i64 x8, .int .i64 xs, .int .i64 xn, .int .u64 xq] 28)).alloc (.cells #[.int .u64 k0, .int .i64 y0, .int .i64 y1, .int .i64 y2, .int .i64 y3, .int .i64 y4, .int .i64 y5, .int .i64 y6, .int .i64 y7, .int .i64 y8, .int .i64 ys, .int .i64 yn, .int .u64 yq] 28))).heap[w.heap.size + 1]? = some (.cells #[.int .u64 k0, .int .i64 y0, .int .i64 y1, .int .i64 y2, .int .i64 y3, .int .i64 y4, .int .i64 y5, .int .i64 y6, .int .i64 y7, .int .i64 y8, .int .i64 ys, .int .i64 yn, .int .u64 yq] 28 (0, 0)) := by
    have := heap_alloc_new (w.alloc (.cells #[.int .u64 m0, .int .i64 x0, .int .i64 x1, .int .i64 x2, .int .i64 x3, .int .i64 x4, .int .i64 x5, .int .i64 x6, .int .i64 x7, .int .i64 x8, .int .i64 xs, .int .i64 xn, .int .u64 xq] 28)) (.cells #[.int .u64 k0, .int .i64 y0, .int .i64 y1, .int .i64 y2, .int .i64 y3, .int .i64 y4, .int .i64 y5, .int .i64 y6, .int .i64 y7, .int .i64 y8, .int .i64 ys, .int .i64 yn, .int .u64 yq] 28)
    simpa using this
  obtain ⟨wa, hwa⟩ : ∃ wa, ((w.alloc (.cells #[.int .u64 m0, .int .i64 x0, .int .i64 x1, .int .i64 x2, .int .i64 x3, .int .i64 x4, .int .i64 x5, .int .i64 x6, .int .i64 x7, .int .i64 x8, .int .i64 xs, .int .i64 xn, .int .u64 xq] 28)).alloc (.cells #[.int .u64 k0, .int .i64 y0, .int .i64 y1, .int .i64 y2, .int .i64 y3, .int .i64 y4, .int .i64 y5, .int .i64 y6, .int .i64 y7, .int .i64 y8, .int .i64 ys, .int .i64 yn, .int .u64 yq] 28)) = wa := ⟨_, rfl⟩
  obtain ⟨ab, hab⟩ : ∃ ab, w.heap.size = ab := ⟨_, rfl⟩
  rw [hwa] at hba hra hrt
  rw [hab] at hra hrt
  have BA := Lib.hid hba
  have RA := Lib.hid hra
  have RT := Lib.hid hrt
  have HWA := Lib.hid hwa
  have HAB := Lib.hid hab
  clear hba hra hrt hwa hab
  go_enter Try.func6, Try.ntmps6
  go_wp2_with fail
  rw [HWA.out, HAB.out]
  refine (known20 wa).mono ?_
  rintro e w1 ⟨rfl, hb1⟩
  have RA1 := Lib.hid (row_keep RA.out hb1)
  have RT1 := Lib.hid (row_keep RT.out hb1)
  have B1 := Lib.hid (Below.call BA.out hb1)
  clear hb1 RA RT BA
  go_wp2_with fail
  refine (shape20_any w1).mono ?_
  rintro e w2 ⟨rfl, hb2⟩
  have RA2 := Lib.hid (row_keep RA1.out hb2)
  have RT2 := Lib.hid (row_keep RT1.out hb2)
  have B2 := Lib.hid (Below.call B1.out hb2)
  clear hb2 RA1 RT1 B1
  obtain ⟨p0, p1, p2, p3, p4, p5, p6, p7, p8, p9, p10, p11, p12⟩ := cells13 RA2.out
  have hfz : ∀ i, w2.frozen? ⟨ab, i, none⟩ = false := fun i => frozen_of_row w2 (ab) i _ _ RA2.out
  have hg := sets_grown (b := ab) [(1, .int .i64 40), (2, .int .i64 128), (3, .int .i64 4), (4, .int .i64 2), (5, .int .i64 16), (6, .int .i64 4), (7, .int .i64 2), (8, .int .i64 2), (9, .int .i64 4)] w2
  have hr := sets_row [(1, .int .i64 40), (2, .int .i64 128), (3, .int .i64 4), (4, .int .i64 2), (5, .int .i64 16), (6, .int .i64 4), (7, .int .i64 2), (8, .int .i64 2), (9, .int .i64 4)] RA2.out
  obtain ⟨w3, hw⟩ : ∃ w3, sets w2 (ab) [(1, .int .i64 40), (2, .int .i64 128), (3, .int .i64 4), (4, .int .i64 2), (5, .int .i64 16), (6, .int .i64 4), (7, .int .i64 2), (8, .int .i64 2), (9, .int .i64 4)] = w3 := ⟨_, rfl⟩
  rw [hw] at hg hr
  have hr' : w3.heap[ab]? = some (.cells #[.int .u64 m0, .int .i64 40, .int .i64 128, .int .i64 4, .int .i64 2, .int .i64 16, .int .i64 4, .int .i64 2, .int .i64 2, .int .i64 4, .int .i64 xs, .int .i64 xn, .int .u64 xq] 28 (0, 0)) := by rw [hr]; rw [fold9]
  have RA3 := Lib.hid hr'
  have RT3 : Hid (w3.heap[ab + 1]? = some (.cells #[.int .u64 k0, .int .i64 y0, .int .i64 y1, .int .i64 y2, .int .i64 y3, .int .i64 y4, .int .i64 y5, .int .i64 y6, .int .i64 y7, .int .i64 y8, .int .i64 ys, .int .i64 yn, .int .u64 yq] 28 (0, 0))) := (hg.block (ab + 1) (Array.getElem?_eq_some_iff.1 RT2.out).1 (fun e => by injection e with e; omega)).trans RT2.out
  have B3 : Hid (Below w.heap.size w w3) := Below.grown B2.out hg B2.out.size (fun k e => by injection e with e; have := HAB.out; omega)
  have HW3 := Lib.hid hw
  clear hg hr hr' hw
  have hw : (((((((((w2).setCell ⟨ab, 1, none⟩ (.int .i64 40)).setCell ⟨ab, 2, none⟩ (.int .i64 128)).setCell ⟨ab, 3, none⟩ (.int .i64 4)).setCell ⟨ab, 4, none⟩ (.int .i64 2)).setCell ⟨ab, 5, none⟩ (.int .i64 16)).setCell ⟨ab, 6, none⟩ (.int .i64 4)).setCell ⟨ab, 7, none⟩ (.int .i64 2)).setCell ⟨ab, 8, none⟩ (.int .i64 2)).setCell ⟨ab, 9, none⟩ (.int .i64 4) = w3 := HW3.out
  go_wp2_with (rw [hw])
  clear hw hfz
  clear p0 p1 p2 p3 p4 p5 p6 p7 p8 p9 p10 p11 p12
  refine (shape20_any w3).mono ?_
  rintro e w4 ⟨rfl, hb4⟩
  have RA4 := Lib.hid (row_keep RA3.out hb4)
  have RT4 := Lib.hid (row_keep RT3.out hb4)
  have B4 := Lib.hid (Below.call B3.out hb4)
  clear hb4 RA3 RT3 B3 RA2 RT2 B2 HW3
  obtain ⟨r0, r1, r2, r3, r4, r5, r6, r7, r8, r9, r10, r11, r12⟩ := cells13 RT4.out
  have hfz : ∀ i, w4.frozen? ⟨ab + 1, i, none⟩ = false := fun i => frozen_of_row w4 (ab + 1) i _ _ RT4.out
  have hg := sets_grown (b := ab + 1) [(1, .int .i64 40), (2, .int .i64 128), (3, .int .i64 4), (4, .int .i64 2), (5, .int .i64 16), (6, .int .i64 4), (7, .int .i64 2), (8, .int .i64 2), (9, .int .i64 4)] w4
  have hr := sets_row [(1, .int .i64 40), (2, .int .i64 128), (3, .int .i64 4), (4, .int .i64 2), (5, .int .i64 16), (6, .int .i64 4), (7, .int .i64 2), (8, .int .i64 2), (9, .int .i64 4)] RT4.out
  obtain ⟨w5, hw⟩ : ∃ w5, sets w4 (ab + 1) [(1, .int .i64 40), (2, .int .i64 128), (3, .int .i64 4), (4, .int .i64 2), (5, .int .i64 16), (6, .int .i64 4), (7, .int .i64 2), (8, .int .i64 2), (9, .int .i64 4)] = w5 := ⟨_, rfl⟩
  rw [hw] at hg hr
  have hr' : w5.heap[ab + 1]? = some (.cells #[.int .u64 k0, .int .i64 40, .int .i64 128, .int .i64 4, .int .i64 2, .int .i64 16, .int .i64 4, .int .i64 2, .int .i64 2, .int .i64 4, .int .i64 ys, .int .i64 yn, .int .u64 yq] 28 (0, 0)) := by rw [hr]; rw [fold9]
  have RT5 := Lib.hid hr'
  have RA5 : Hid (w5.heap[ab]? = some (.cells #[.int .u64 m0, .int .i64 40, .int .i64 128, .int .i64 4, .int .i64 2, .int .i64 16, .int .i64 4, .int .i64 2, .int .i64 2, .int .i64 4, .int .i64 xs, .int .i64 xn, .int .u64 xq] 28 (0, 0))) := (hg.block (ab) (Array.getElem?_eq_some_iff.1 RA4.out).1 (fun e => by injection e with e; omega)).trans RA4.out
  have B5 : Hid (Below w.heap.size w w5) := Below.grown B4.out hg B4.out.size (fun k e => by injection e with e; have := HAB.out; omega)
  have HW5 := Lib.hid hw
  clear hg hr hr' hw
  have hw : (((((((((w4).setCell ⟨ab + 1, 1, none⟩ (.int .i64 40)).setCell ⟨ab + 1, 2, none⟩ (.int .i64 128)).setCell ⟨ab + 1, 3, none⟩ (.int .i64 4)).setCell ⟨ab + 1, 4, none⟩ (.int .i64 2)).setCell ⟨ab + 1, 5, none⟩ (.int .i64 16)).setCell ⟨ab + 1, 6, none⟩ (.int .i64 4)).setCell ⟨ab + 1, 7, none⟩ (.int .i64 2)).setCell ⟨ab + 1, 8, none⟩ (.int .i64 2)).setCell ⟨ab + 1, 9, none⟩ (.int .i64 4) = w5 := HW5.out
  obtain ⟨p0, p1, p2, p3, p4, p5, p6, p7, p8, p9, p10, p11, p12⟩ := cells13 RT5.out
  obtain ⟨q0, q1, q2, q3, q4, q5, q6, q7, q8, q9, q10, q11, q12⟩ := cells13 RA5.out
  have hfz2 : ∀ i, w5.frozen? ⟨ab, i, none⟩ = false := fun i => frozen_of_row w5 ab i _ _ RA5.out
  have hfz3 : ∀ i, w5.frozen? ⟨ab + 1, i, none⟩ = false := fun i => frozen_of_row w5 (ab + 1) i _ _ RT5.out
  clear RA4 RT4 B4 HW5
  go_wp2_with (rw [hw])
  go_ret
  exact ⟨rfl, B5.out⟩
set_option linter.unusedSimpArgs false in
set_option linter.unusedVariables false in
set_option maxRecDepth 100000 in
set_option maxHeartbeats 2000000 in
theorem supercuts_neg2 (b t : Blk) (n : Int) (a : Option Addr) (len c : Nat) (kl : List Bool) (w : World) (hb : b.Wf) (ht : t.Wf) (hk : RdB w a len c kl) (hlen : len ≤ 100) (hn : -9223372036854775808 ≤ n ∧ n ≤ 9223372036854775807) (hneg : 0 ≤ b.rs ∧ 0 ≤ b.rn ∧ t.rs < 0) :
    Calls Try.prog 6 #[b.val, t.val, .int .i64 n, .slice a len c] w fun e w' => e = .returned (.bool true) ∧ Below w.heap.size w w' := by
  obtain ⟨hn1, hn2⟩ := hn
  obtain ⟨g1, g2, g3⟩ := hneg
  have HB := Lib.hid hb
  have HT := Lib.hid ht
  have HK := Lib.hid hk
  clear hb ht hk
  have d1 : decide ((100 : Int) < (len : Int)) = false := decide_eq_false (by omega)
  obtain ⟨m0, x0, x1, x2, x3, x4, x5, x6, x7, x8, xs, xn, xq⟩ := b
  obtain ⟨k0, y0, y1, y2, y3, y4, y5, y6, y7, y8, ys, yn, yq⟩ := t
  replace g1 : 0 ≤ xs := g1
  replace g2 : 0 ≤ xn := g2
  replace g3 : ys < 0 := g3
  have f1 : decide (xs < 0) = false := decide_eq_false (by omega)
  have f2 : decide (xn < 0) = false := decide_eq_false (by omega)
  have f3 : decide (ys < 0) = true := decide_eq_true (by omega)
  obtain ⟨e1, e2⟩ := HB.out.ep
  replace e1 : 0 ≤ m0 := e1
  replace e2 : m0 ≤ 18446744073709551615 := e2
  rw [show (⟨m0, x0, x1, x2, x3, x4, x5, x6, x7, x8, xs, xn, xq⟩ : Blk).val = .agg #[.int .u64 m0, .int .i64 x0, .int .i64 x1, .int .i64 x2, .int .i64 x3, .int .i64 x4, .int .i64 x5, .int .i64 x6, .int .i64 x7, .int .i64 x8, .int .i64 xs, .int .i64 xn, .int .u64 xq] from rfl, show (⟨k0, y0, y1, y2, y3, y4, y5, y6, y7, y8, ys, yn, yq⟩ : Blk).val = .agg #[.int .u64 k0, .int .i64 y0, .int .i64 y1, .int .i64 y2, .int .i64 y3, .int .i64 y4, .int .i64 y5, .int .i64 y6, .int .i64 y7, .int .i64 y8, .int .i64 ys, .int .i64 yn, .int .u64 yq] from rfl]
  have hba : Below w.heap.size w ((w.alloc (.cells #[.int .u64 m0, .int .i64 x0, .int .i64 x1, .int .i64 x2, .int .i64 x3, .int .i64 x4, .int .i64 x5, .int .i64 x6, .int .i64 x7, .int .i64 x8, .int .i64 xs, .int .i64 xn, .int .u64 xq] 28)).alloc (.cells #[.int .u64 k0, .int .i64 y0, .int .i64 y1, .int .i64 y2, .int .i64 y3, .int .i64 y4, .int .i64 y5, .int .i64 y6, .int .i64 y7, .int .i64 y8, .int .i64 ys, .int .i64 yn, .int .u64 yq] 28)) := ((Below.refl _ _).alloc (Nat.le_refl _) _).alloc (by simp) _
  have hra : (((w.alloc (.cells #[.int .u64 m0, .int .i64 x0, .int .i64 x1, .int .i64 x2, .int .i64 x3, .int .i64 x4, .int .i64 x5, .int .i64 x6, .int .i64 x7, .int .i64 x8, .int .i64 xs, .int .i64 xn, .int .u64 xq] 28)).alloc (.cells #[.int .u64 k0, .int .i64 y0, .int .i64 y1, .int .i64 y2, .int .i64 y3, .int .i64 y4, .int .i64 y5, .int .i64 y6, .int .i64 y7, .int .i64 y8, .int .i64 ys, .int .i64 yn, .int .u64 yq] 28))).heap[w.heap.size]? = some (.cells #[.int .u64 m0, .int .i64 x0, .int .i64 x1, .int .i64 x2, .int .i64 x3, .int .i64 x4, .int .i64 x5, .int .i64 x6, .int .i64 x7, .int .i64 x8, .int .i64 xs, .int .i64 xn, .int .u64 xq] 28 (0, 0)) := by
    rw [heap_old _ _ (by simp)]
    exact heap_alloc_new _ _
  have hrt : (((w.alloc (.cells #[.int .u64 m0, .int .i64 x0, .int .i64 x1, .int .i64 x2, .int .i64 x3, .int .i64 x4, .int .i64 x5, .int .i64 x6, .int .i64 x7, .int .i64 x8, .int .i64 xs, .int .i64 xn, .int .u64 xq] 28)).alloc (.cells #[.int .u64 k0, .int .i64 y0, .int .i64 y1, .int .i64 y2, .int .i64 y3, .int .i64 y4, .int .i64 y5, .int .i64 y6, .int .i64 y7, .int .i64 y8, .int .i64 ys, .int .i64 yn, .int .u64 yq] 28))).heap[w.heap.size + 1]? = some (.cells #[.int .u64 k0, .int .i64 y0, .int .i64 y1, .int .i64 y2, .int .i64 y3, .int .i64 y4, .int .i64 y5, .int .i64 y6, .int .i64 y7, .int .i64 y8, .int .i64 ys, .int .i64 yn, .int .u64 yq] 28 (0, 0)) := by
    have := heap_alloc_new (w.alloc (.cells #[.int .u64 m0, .int .i64 x0, .int .i64 x1, .int .i64 x2, .int .i64 x3, .int .i64 x4, .int .i64 x5, .int .i64 x6, .int .i64 x7, .int .i64 x8, .int .i64 xs, .int .i64 xn, .int .u64 xq] 28)) (.cells #[.int .u64 k0, .int .i64 y0, .int .i64 y1, .int .i64 y2, .int .i64 y3, .int .i64 y4, .int .i64 y5, .int .i64 y6, .int .i64 y7, .int .i64 y8, .int .i64 ys, .int .i64 yn, .int .u64 yq] 28)
    simpa using this
  obtain ⟨wa, hwa⟩ : ∃ wa, ((w.alloc (.cells #[.int .u64 m0, .int .i64 x0, .int .i64 x1, .int .i64 x2, .int .i64 x3, .int .i64 x4, .int .i64 x5, .int .i64 x6, .int .i64 x7, .int .i64 x8, .int .i64 xs, .int .i64 xn, .int .u64 xq] 28)).alloc (.cells #[.int .u64 k0, .int .i64 y0, .int .i64 y1, .int .i64 y2, .int .i64 y3, .int .i64 y4, .int .i64 y5, .int .i64 y6, .int .i64 y7, .int .i64 y8, .int .i64 ys, .int .i64 yn, .int .u64 yq] 28)) = wa := ⟨_, rfl⟩
  obtain ⟨ab, hab⟩ : ∃ ab, w.heap.size = ab := ⟨_, rfl⟩
  rw [hwa] at hba hra hrt
  rw [hab] at hra hrt
  have BA := Lib.hid hba
  have RA := Lib.hid hra
  have RT := Lib.hid hrt
  have HWA := Lib.hid hwa
  have HAB := Lib.hid hab
  clear hba hra hrt hwa hab
  go_enter Try.func6, Try.ntmps6
  go_wp2_with fail
  rw [HWA.out, HAB.out]
  refine (known20 wa).mono ?_
  rintro e w1 ⟨rfl, hb1⟩
  have RA1 := Lib.hid (row_keep RA.out hb1)
  have RT1 := Lib.hid (row_keep RT.out hb1)
  have B1 := Lib.hid (Below.call BA.out hb1)
  clear hb1 RA RT BA
  go_wp2_with fail
  refine (shape20_any w1).mono ?_
  rintro e w2 ⟨rfl, hb2⟩
  have RA2 := Lib.hid (row_keep RA1.out hb2)
  have RT2 := Lib.hid (row_keep RT1.out hb2)
  have B2 := Lib.hid (Below.call B1.out hb2)
  clear hb2 RA1 RT1 B1
  obtain ⟨p0, p1, p2, p3, p4, p5, p6, p7, p8, p9, p10, p11, p12⟩ := cells13 RA2.out
  have hfz : ∀ i, w2.frozen? ⟨ab, i, none⟩ = false := fun i => frozen_of_row w2 (ab) i _ _ RA2.out
  have hg := sets_grown (b := ab) [(1, .int .i64 40), (2, .int .i64 128), (3, .int .i64 4), (4, .int .i64 2), (5, .int .i64 16), (6, .int .i64 4), (7, .int .i64 2), (8, .int .i64 2), (9, .int .i64 4)] w2
  have hr := sets_row [(1, .int .i64 40), (2, .int .i64 128), (3, .int .i64 4), (4, .int .i64 2), (5, .int .i64 16), (6, .int .i64 4), (7, .int .i64 2), (8, .int .i64 2), (9, .int .i64 4)] RA2.out
  obtain ⟨w3, hw⟩ : ∃ w3, sets w2 (ab) [(1, .int .i64 40), (2, .int .i64 128), (3, .int .i64 4), (4, .int .i64 2), (5, .int .i64 16), (6, .int .i64 4), (7, .int .i64 2), (8, .int .i64 2), (9, .int .i64 4)] = w3 := ⟨_, rfl⟩
  rw [hw] at hg hr
  have hr' : w3.heap[ab]? = some (.cells #[.int .u64 m0, .int .i64 40, .int .i64 128, .int .i64 4, .int .i64 2, .int .i64 16, .int .i64 4, .int .i64 2, .int .i64 2, .int .i64 4, .int .i64 xs, .int .i64 xn, .int .u64 xq] 28 (0, 0)) := by rw [hr]; rw [fold9]
  have RA3 := Lib.hid hr'
  have RT3 : Hid (w3.heap[ab + 1]? = some (.cells #[.int .u64 k0, .int .i64 y0, .int .i64 y1, .int .i64 y2, .int .i64 y3, .int .i64 y4, .int .i64 y5, .int .i64 y6, .int .i64 y7, .int .i64 y8, .int .i64 ys, .int .i64 yn, .int .u64 yq] 28 (0, 0))) := (hg.block (ab + 1) (Array.getElem?_eq_some_iff.1 RT2.out).1 (fun e => by injection e with e; omega)).trans RT2.out
  have B3 : Hid (Below w.heap.size w w3) := Below.grown B2.out hg B2.out.size (fun k e => by injection e with e; have := HAB.out; omega)
  have HW3 := Lib.hid hw
  clear hg hr hr' hw
  have hw : (((((((((w2).setCell ⟨ab, 1, none⟩ (.int .i64 40)).setCell ⟨ab, 2, none⟩ (.int .i64 128)).setCell ⟨ab, 3, none⟩ (.int .i64 4)).setCell ⟨ab, 4, none⟩ (.int .i64 2)).setCell ⟨ab, 5, none⟩ (.int .i64 16)).setCell ⟨ab, 6, none⟩ (.int .i64 4)).setCell ⟨ab, 7, none⟩ (.int .i64 2)).setCell ⟨ab, 8, none⟩ (.int .i64 2)).setCell ⟨ab, 9, none⟩ (.int .i64 4) = w3 := HW3.out
  go_wp2_with (rw [hw])
  clear hw hfz
  clear p0 p1 p2 p3 p4 p5 p6 p7 p8 p9 p10 p11 p12
  refine (shape20_any w3).mono ?_
  rintro e w4 ⟨rfl, hb4⟩
  have RA4 := Lib.hid (row_keep RA3.out hb4)
  have RT4 := Lib.hid (row_keep RT3.out hb4)
  have B4 := Lib.hid (Below.call B3.out hb4)
  clear hb4 RA3 RT3 B3 RA2 RT2 B2 HW3
  obtain ⟨r0, r1, r2, r3, r4, r5, r6, r7, r8, r9, r10, r11, r12⟩ := cells13 RT4.out
  have hfz : ∀ i, w4.frozen? ⟨ab + 1, i, none⟩ = false := fun i => frozen_of_row w4 (ab + 1) i _ _ RT4.out
  have hg := sets_grown (b := ab + 1) [(1, .int .i64 40), (2, .int .i64 128), (3, .int .i64 4), (4, .int .i64 2), (5, .int .i64 16), (6, .int .i64 4), (7, .int .i64 2), (8, .int .i64 2), (9, .int .i64 4)] w4
  have hr := sets_row [(1, .int .i64 40), (2, .int .i64 128), (3, .int .i64 4), (4, .int .i64 2), (5, .int .i64 16), (6, .int .i64 4), (7, .int .i64 2), (8, .int .i64 2), (9, .int .i64 4)] RT4.out
  obtain ⟨w5, hw⟩ : ∃ w5, sets w4 (ab + 1) [(1, .int .i64 40), (2, .int .i64 128), (3, .int .i64 4), (4, .int .i64 2), (5, .int .i64 16), (6, .int .i64 4), (7, .int .i64 2), (8, .int .i64 2), (9, .int .i64 4)] = w5 := ⟨_, rfl⟩
  rw [hw] at hg hr
  have hr' : w5.heap[ab + 1]? = some (.cells #[.int .u64 k0, .int .i64 40, .int .i64 128, .int .i64 4, .int .i64 2, .int .i64 16, .int .i64 4, .int .i64 2, .int .i64 2, .int .i64 4, .int .i64 ys, .int .i64 yn, .int .u64 yq] 28 (0, 0)) := by rw [hr]; rw [fold9]
  have RT5 := Lib.hid hr'
  have RA5 : Hid (w5.heap[ab]? = some (.cells #[.int .u64 m0, .int .i64 40, .int .i64 128, .int .i64 4, .int .i64 2, .int .i64 16, .int .i64 4, .int .i64 2, .int .i64 2, .int .i64 4, .int .i64 xs, .int .i64 xn, .int .u64 xq] 28 (0, 0))) := (hg.block (ab) (Array.getElem?_eq_some_iff.1 RA4.out).1 (fun e => by injection e with e; omega)).trans RA4.out
  have B5 : Hid (Below w.heap.size w w5) := Below.grown B4.out hg B4.out.size (fun k e => by injection e with e; have := HAB.out; omega)
  have HW5 := Lib.hid hw
  clear hg hr hr' hw
  have hw : (((((((((w4).setCell ⟨ab + 1, 1, none⟩ (.int .i64 40)).setCell ⟨ab + 1, 2, none⟩ (.int .i64 128)).setCell ⟨ab + 1, 3, none⟩ (.int .i64 4)).setCell ⟨ab + 1, 4, none⟩ (.int .i64 2)).setCell ⟨ab + 1, 5, none⟩ (.int .i64 16)).setCell ⟨ab + 1, 6, none⟩ (.int .i64 4)).setCell ⟨ab + 1, 7, none⟩ (.int .i64 2)).setCell ⟨ab + 1, 8, none⟩ (.int .i64 2)).setCell ⟨ab + 1, 9, none⟩ (.int .i64 4) = w5 := HW5.out
  obtain ⟨p0, p1, p2, p3, p4, p5, p6, p7, p8, p9, p10, p11, p12⟩ := cells13 RT5.out
  obtain ⟨q0, q1, q2, q3, q4, q5, q6, q7, q8, q9, q10, q11, q12⟩ := cells13 RA5.out
  have hfz2 : ∀ i, w5.frozen? ⟨ab, i, none⟩ = false := fun i => frozen_of_row w5 ab i _ _ RA5.out
  have hfz3 : ∀ i, w5.frozen? ⟨ab + 1, i, none⟩ = false := fun i => frozen_of_row w5 (ab + 1) i _ _ RT5.out
  clear RA4 RT4 B4 HW5
  go_wp2_with (rw [hw])
  go_ret
  exact ⟨rfl, B5.out⟩
set_option linter.unusedSimpArgs false in
set_option linter.unusedVariables false in
set_option maxRecDepth 100000 in
set_option maxHeartbeats 2000000 in
theorem supercuts_neg3 (b t : Blk) (n : Int) (a : Option Addr) (len c : Nat) (kl : List Bool) (w : World) (hb : b.Wf) (ht : t.Wf) (hk : RdB w a len c kl) (hlen : len ≤ 100) (hn : -9223372036854775808 ≤ n ∧ n ≤ 9223372036854775807) (hneg : 0 ≤ b.rs ∧ 0 ≤ b.rn ∧ 0 ≤ t.rs ∧ t.rn < 0) :
    Calls Try.prog 6 #[b.val, t.val, .int .i64 n, .slice a len c] w fun e w' => e = .returned (.bool true) ∧ Below w.heap.size w w' := by
  obtain ⟨hn1, hn2⟩ := hn
  obtain ⟨g1, g2, g3, g4⟩ := hneg
  have HB := Lib.hid hb
  have HT := Lib.hid ht
  have HK := Lib.hid hk
  clear hb ht hk
  have d1 : decide ((100 : Int) < (len : Int)) = false := decide_eq_false (by omega)
  obtain ⟨m0, x0, x1, x2, x3, x4, x5, x6, x7, x8, xs, xn, xq⟩ := b
  obtain ⟨k0, y0, y1, y2, y3, y4, y5, y6, y7, y8, ys, yn, yq⟩ := t
  replace g1 : 0 ≤ xs := g1
  replace g2 : 0 ≤ xn := g2
  replace g3 : 0 ≤ ys := g3
  replace g4 : yn < 0 := g4
  have f1 : decide (xs < 0) = false := decide_eq_false (by omega)
  have f2 : decide (xn < 0) = false := decide_eq_false (by omega)
  have f3 : decide (ys < 0) = false := decide_eq_false (by omega)
  have f4 : decide (yn < 0) = true := decide_eq_true (by omega)
  obtain ⟨e1, e2⟩ := HB.out.ep
  replace e1 : 0 ≤ m0 := e1
  replace e2 : m0 ≤ 18446744073709551615 := e2
  rw [show (⟨m0, x0, x1, x2, x3, x4, x5, x6, x7, x8, xs, xn, xq⟩ : Blk).val = .agg #[.int .u64 m0, .int .i64 x0, .int .i64 x1, .int .i64 x2, .int .i64 x3, .int .i64 x4, .int .i64 x5, .int .i64 x6, .int .i64 x7, .int .i64 x8, .int .i64 xs, .int .i64 xn, .int .u64 xq] from rfl, show (⟨k0, y0, y1, y2, y3, y4, y5, y6, y7, y8, ys, yn, yq⟩ : Blk).val = .agg #[.int .u64 k0, .int .i64 y0, .int .i64 y1, .int .i64 y2, .int .i64 y3, .int .i64 y4, .int .i64 y5, .int .i64 y6, .int .i64 y7, .int .i64 y8, .int .i64 ys, .int .i64 yn, .int .u64 yq] from rfl]
  have hba : Below w.heap.size w ((w.alloc (.cells #[.int .u64 m0, .int .i64 x0, .int .i64 x1, .int .i64 x2, .int .i64 x3, .int .i64 x4, .int .i64 x5, .int .i64 x6, .int .i64 x7, .int .i64 x8, .int .i64 xs, .int .i64 xn, .int .u64 xq] 28)).alloc (.cells #[.int .u64 k0, .int .i64 y0, .int .i64 y1, .int .i64 y2, .int .i64 y3, .int .i64 y4, .int .i64 y5, .int .i64 y6, .int .i64 y7, .int .i64 y8, .int .i64 ys, .int .i64 yn, .int .u64 yq] 28)) := ((Below.refl _ _).alloc (Nat.le_refl _) _).alloc (by simp) _
  have hra : (((w.alloc (.cells #[.int .u64 m0, .int .i64 x0, .int .i64 x1, .int .i64 x2, .int .i64 x3, .int .i64 x4, .int .i64 x5, .int .i64 x6, .int .i64 x7, .int .i64 x8, .int .i64 xs, .int .i64 xn, .int .u64 xq] 28)).alloc (.cells #[.int .u64 k0, .int .i64 y0, .int .i64 y1, .int .i64 y2, .int .i64 y3, .int .i64 y4, .int .i64 y5, .int .i64 y6, .int .i64 y7, .int .i64 y8, .int .i64 ys, .int .i64 yn, .int .u64 yq] 28))).heap[w.heap.size]? = some (.cells #[.int .u64 m0, .int .i64 x0, .int .i64 x1, .int .i64 x2, .int .i64 x3, .int .i64 x4, .int .i64 x5, .int .i64 x6, .int .i64 x7, .int .i64 x8, .int .i64 xs, .int .i64 xn, .int .u64 xq] 28 (0, 0)) := by
    rw [heap_old _ _ (by simp)]
    exact heap_alloc_new _ _
  have hrt : (((w.alloc (.cells #[.int .u64 m0, .int .i64 x0, .int .i64 x1, .int .i64 x2, .int .i64 x3, .int .i64 x4, .int .i64 x5, .int .i64 x6, .int .i64 x7, .int .i64 x8, .int .i64 xs, .int .i64 xn, .int .u64 xq] 28)).alloc (.cells #[.int .u64 k0, .int .i64 y0, .int .i64 y1, .int .i64 y2, .int .i64 y3, .int .i64 y4, .int .i64 y5, .int .i64 y6, .int .i64 y7, .int .i64 y8, .int .i64 ys, .int .i64 yn, .int .u64 yq] 28))).heap[w.heap.size + 1]? = some (.cells #[.int .u64 k0, .int .i64 y0, .int .i64 y1, .int .i64 y2, .int .i64 y3, .int .i64 y4, .int .i64 y5, .int .i64 y6, .int .i64 y7, .int .i64 y8, .int .i64 ys, .int .i64 yn, .int .u64 yq] 28 (0, 0)) := by
    have := heap_alloc_new (w.alloc (.cells #[.int .u64 m0, .int .i64 x0, .int .i64 x1, .int .i64 x2, .int .i64 x3, .int .i64 x4, .int .i64 x5, .int .i64 x6, .int .i64 x7, .int .i64 x8, .int .i64 xs, .int .i64 xn, .int .u64 xq] 28)) (.cells #[.int .u64 k0, .int .i64 y0, .int .i64 y1, .int .i64 y2, .int .i64 y3, .int .i64 y4, .int .i64 y5, .int .i64 y6, .int .i64 y7, .int .i64 y8, .int .i64 ys, .int .i64 yn, .int .u64 yq] 28)
    simpa using this
  obtain ⟨wa, hwa⟩ : ∃ wa, ((w.alloc (.cells #[.int .u64 m0, .int .i64 x0, .int .i64 x1, .int .i64 x2, .int .i64 x3, .int .i64 x4, .int .i64 x5, .int .i64 x6, .int .i64 x7, .int .i64 x8, .int .i64 xs, .int .i64 xn, .int .u64 xq] 28)).alloc (.cells #[.int .u64 k0, .int .i64 y0, .int .i64 y1, .int .i64 y2, .int .i64 y3, .int .i64 y4, .int .i64 y5, .int .i64 y6, .int .i64 y7, .int .i64 y8, .int .i64 ys, .int .i64 yn, .int .u64 yq] 28)) = wa := ⟨_, rfl⟩
  obtain ⟨ab, hab⟩ : ∃ ab, w.heap.size = ab := ⟨_, rfl⟩
  rw [hwa] at hba hra hrt
  rw [hab] at hra hrt
  have BA := Lib.hid hba
  have RA := Lib.hid hra
  have RT := Lib.hid hrt
  have HWA := Lib.hid hwa
  have HAB := Lib.hid hab
  clear hba hra hrt hwa hab
  go_enter Try.func6, Try.ntmps6
  go_wp2_with fail
  rw [HWA.out, HAB.out]
  refine (known20 wa).mono ?_
  rintro e w1 ⟨rfl, hb1⟩
  have RA1 := Lib.hid (row_keep RA.out hb1)
  have RT1 := Lib.hid (row_keep RT.out hb1)
  have B1 := Lib.hid (Below.call BA.out hb1)
  clear hb1 RA RT BA
  go_wp2_with fail
  refine (shape20_any w1).mono ?_
  rintro e w2 ⟨rfl, hb2⟩
  have RA2 := Lib.hid (row_keep RA1.out hb2)
  have RT2 := Lib.hid (row_keep RT1.out hb2)
  have B2 := Lib.hid (Below.call B1.out hb2)
  clear hb2 RA1 RT1 B1
  obtain ⟨p0, p1, p2, p3, p4, p5, p6, p7, p8, p9, p10, p11, p12⟩ := cells13 RA2.out
  have hfz : ∀ i, w2.frozen? ⟨ab, i, none⟩ = false := fun i => frozen_of_row w2 (ab) i _ _ RA2.out
  have hg := sets_grown (b := ab) [(1, .int .i64 40), (2, .int .i64 128), (3, .int .i64 4), (4, .int .i64 2), (5, .int .i64 16), (6, .int .i64 4), (7, .int .i64 2), (8, .int .i64 2), (9, .int .i64 4)] w2
  have hr := sets_row [(1, .int .i64 40), (2, .int .i64 128), (3, .int .i64 4), (4, .int .i64 2), (5, .int .i64 16), (6, .int .i64 4), (7, .int .i64 2), (8, .int .i64 2), (9, .int .i64 4)] RA2.out
  obtain ⟨w3, hw⟩ : ∃ w3, sets w2 (ab) [(1, .int .i64 40), (2, .int .i64 128), (3, .int .i64 4), (4, .int .i64 2), (5, .int .i64 16), (6, .int .i64 4), (7, .int .i64 2), (8, .int .i64 2), (9, .int .i64 4)] = w3 := ⟨_, rfl⟩
  rw [hw] at hg hr
  have hr' : w3.heap[ab]? = some (.cells #[.int .u64 m0, .int .i64 40, .int .i64 128, .int .i64 4, .int .i64 2, .int .i64 16, .int .i64 4, .int .i64 2, .int .i64 2, .int .i64 4, .int .i64 xs, .int .i64 xn, .int .u64 xq] 28 (0, 0)) := by rw [hr]; rw [fold9]
  have RA3 := Lib.hid hr'
  have RT3 : Hid (w3.heap[ab + 1]? = some (.cells #[.int .u64 k0, .int .i64 y0, .int .i64 y1, .int .i64 y2, .int .i64 y3, .int .i64 y4, .int .i64 y5, .int .i64 y6, .int .i64 y7, .int .i64 y8, .int .i64 ys, .int .i64 yn, .int .u64 yq] 28 (0, 0))) := (hg.block (ab + 1) (Array.getElem?_eq_some_iff.1 RT2.out).1 (fun e => by injection e with e; omega)).trans RT2.out
  have B3 : Hid (Below w.heap.size w w3) := Below.grown B2.out hg B2.out.size (fun k e => by injection e with e; have := HAB.out; omega)
  have HW3 := Lib.hid hw
  clear hg hr hr' hw
  have hw : (((((((((w2).setCell ⟨ab, 1, none⟩ (.int .i64 40)).setCell ⟨ab, 2, none⟩ (.int .i64 128)).setCell ⟨ab, 3, none⟩ (.int .i64 4)).setCell ⟨ab, 4, none⟩ (.int .i64 2)).setCell ⟨ab, 5, none⟩ (.int .i64 16)).setCell ⟨ab, 6, none⟩ (.int .i64 4)).setCell ⟨ab, 7, none⟩ (.int .i64 2)).setCell ⟨ab, 8, none⟩ (.int .i64 2)).setCell ⟨ab, 9, none⟩ (.int .i64 4) = w3 := HW3.out
  go_wp2_with (rw [hw])
  clear hw hfz
  clear p0 p1 p2 p3 p4 p5 p6 p7 p8 p9 p10 p11 p12
  refine (shape20_any w3).mono ?_
  rintro e w4 ⟨rfl, hb4⟩
  have RA4 := Lib.hid (row_keep RA3.out hb4)
  have RT4 := Lib.hid (row_keep RT3.out hb4)
  have B4 := Lib.hid (Below.call B3.out hb4)
  clear hb4 RA3 RT3 B3 RA2 RT2 B2 HW3
  obtain ⟨r0, r1, r2, r3, r4, r5, r6, r7, r8, r9, r10, r11, r12⟩ := cells13 RT4.out
  have hfz : ∀ i, w4.frozen? ⟨ab + 1, i, none⟩ = false := fun i => frozen_of_row w4 (ab + 1) i _ _ RT4.out
  have hg := sets_grown (b := ab + 1) [(1, .int .i64 40), (2, .int .i64 128), (3, .int .i64 4), (4, .int .i64 2), (5, .int .i64 16), (6, .int .i64 4), (7, .int .i64 2), (8, .int .i64 2), (9, .int .i64 4)] w4
  have hr := sets_row [(1, .int .i64 40), (2, .int .i64 128), (3, .int .i64 4), (4, .int .i64 2), (5, .int .i64 16), (6, .int .i64 4), (7, .int .i64 2), (8, .int .i64 2), (9, .int .i64 4)] RT4.out
  obtain ⟨w5, hw⟩ : ∃ w5, sets w4 (ab + 1) [(1, .int .i64 40), (2, .int .i64 128), (3, .int .i64 4), (4, .int .i64 2), (5, .int .i64 16), (6, .int .i64 4), (7, .int .i64 2), (8, .int .i64 2), (9, .int .i64 4)] = w5 := ⟨_, rfl⟩
  rw [hw] at hg hr
  have hr' : w5.heap[ab + 1]? = some (.cells #[.int .u64 k0, .int .i64 40, .int .i64 128, .int .i64 4, .int .i64 2, .int .i64 16, .int .i64 4, .int .i64 2, .int .i64 2, .int .i64 4, .int .i64 ys, .int .i64 yn, .int .u64 yq] 28 (0, 0)) := by rw [hr]; rw [fold9]
  have RT5 := Lib.hid hr'
  have RA5 : Hid (w5.heap[ab]? = some (.cells #[.int .u64 m0, .int .i64 40, .int .i64 128, .int .i64 4, .int .i64 2, .int .i64 16, .int .i64 4, .int .i64 2, .int .i64 2, .int .i64 4, .int .i64 xs, .int .i64 xn, .int .u64 xq] 28 (0, 0))) := (hg.block (ab) (Array.getElem?_eq_some_iff.1 RA4.out).1 (fun e => by injection e with e; omega)).trans RA4.out
  have B5 : Hid (Below w.heap.size w w5) := Below.grown B4.out hg B4.out.size (fun k e => by injection e with e; have := HAB.out; omega)
  have HW5 := Lib.hid hw
  clear hg hr hr' hw
  have hw : (((((((((w4).setCell ⟨ab + 1, 1, none⟩ (.int .i64 40)).setCell ⟨ab + 1, 2, none⟩ (.int .i64 128)).setCell ⟨ab + 1, 3, none⟩ (.int .i64 4)).setCell ⟨ab + 1, 4, none⟩ (.int .i64 2)).setCell ⟨ab + 1, 5, none⟩ (.int .i64 16)).setCell ⟨ab + 1, 6, none⟩ (.int .i64 4)).setCell ⟨ab + 1, 7, none⟩ (.int .i64 2)).setCell ⟨ab + 1, 8, none⟩ (.int .i64 2)).setCell ⟨ab + 1, 9, none⟩ (.int .i64 4) = w5 := HW5.out
  obtain ⟨p0, p1, p2, p3, p4, p5, p6, p7, p8, p9, p10, p11, p12⟩ := cells13 RT5.out
  obtain ⟨q0, q1, q2, q3, q4, q5, q6, q7, q8, q9, q10, q11, q12⟩ := cells13 RA5.out
  have hfz2 : ∀ i, w5.frozen? ⟨ab, i, none⟩ = false := fun i => frozen_of_row w5 ab i _ _ RA5.out
  have hfz3 : ∀ i, w5.frozen? ⟨ab + 1, i, none⟩ = false := fun i => frozen_of_row w5 (ab + 1) i _ _ RT5.out
  clear RA4 RT4 B4 HW5
  go_wp2_with (rw [hw])
  go_ret
  exact ⟨rfl, B5.out⟩
set_option linter.unusedSimpArgs false in
set_option linter.unusedVariables false in
set_option maxRecDepth 100000 in
set_option maxHeartbeats 2000000 in
theorem supercuts_long (b t : Blk) (n : Int) (a : Option Addr) (len c : Nat) (kl : List Bool) (w : World) (hb : b.Wf) (ht : t.Wf) (hk : RdB w a len c kl) (hlen : 100 < len) (hn : -9223372036854775808 ≤ n ∧ n ≤ 9223372036854775807) :
    Calls Try.prog 6 #[b.val, t.val, .int .i64 n, .slice a len c] w fun e w' => e = .returned (.bool true) ∧ Below w.heap.size w w' := by
  obtain ⟨hn1, hn2⟩ := hn
  have HB := Lib.hid hb
  have HT := Lib.hid ht
  have HK := Lib.hid hk
  clear hb ht hk
  have d1 : decide ((100 : Int) < (len : Int)) = true := decide_eq_true (by omega)
  obtain ⟨m0, x0, x1, x2, x3, x4, x5, x6, x7, x8, xs, xn, xq⟩ := b
  obtain ⟨k0, y0, y1, y2, y3, y4, y5, y6, y7, y8, ys, yn, yq⟩ := t
  obtain ⟨e1, e2⟩ := HB.out.ep
  replace e1 : 0 ≤ m0 := e1
  replace e2 : m0 ≤ 18446744073709551615 := e2
  rw [show (⟨m0, x0, x1, x2, x3, x4, x5, x6, x7, x8, xs, xn, xq⟩ : Blk).val = .agg #[.int .u64 m0, .int .i64 x0, .int .i64 x1, .int .i64 x2, .int .i64 x3, .int .i64 x4, .int .i64 x5, .int .i64 x6, .int .i64 x7, .int .i64 x8, .int .i64 xs, .int .i64 xn, .int .u64 xq] from rfl, show (⟨k0, y0, y1, y2, y3, y4, y5, y6, y7, y8, ys, yn, yq⟩ : Blk).val = .agg #[.int .u64 k0, .int .i64 y0, .int .i64 y1, .int .i64 y2, .int .i64 y3, .int .i64 y4, .int .i64 y5, .int .i64 y6, .int .i64 y7, .int .i64 y8, .int .i64 ys, .int .i64 yn, .int .u64 yq] from rfl]
  have hba : Below w.heap.size w ((w.alloc (.cells #[.int .u64 m0, .int .i64 x0, .int .i64 x1, .int .i64 x2, .int .i64 x3, .int .i64 x4, .int .i64 x5, .int .i64 x6, .int .i64 x7, .int .i64 x8, .int .i64 xs, .int .i64 xn, .int .u64 xq] 28)).alloc (.cells #[.int .u64 k0, .int .i64 y0, .int .i64 y1, .int .i64 y2, .int .i64 y3, .int .i64 y4, .int .i64 y5, .int .i64 y6, .int .i64 y7, .int .i64 y8, .int .i64 ys, .int .i64 yn, .int .u64 yq] 28)) := ((Below.refl _ _).alloc (Nat.le_refl _) _).alloc (by simp) _
  have hra : (((w.alloc (.cells #[.int .u64 m0, .int .i64 x0, .int .i64 x1, .int .i64 x2, .int .i64 x3, .int .i64 x4, .int .i64 x5, .int .i64 x6, .int .i64 x7, .int .i64 x8, .int .i64 xs, .int .i64 xn, .int .u64 xq] 28)).alloc (.cells #[.int .u64 k0, .int .i64 y0, .int .i64 y1, .int .i64 y2, .int .i64 y3, .int .i64 y4, .int .i64 y5, .int .i64 y6, .int .i64 y7, .int .i64 y8, .int .i64 ys, .int .i64 yn, .int .u64 yq] 28))).heap[w.heap.size]? = some (.cells #[.int .u64 m0, .int .i64 x0, .int .i64 x1, .int .i64 x2, .int .i64 x3, .int .i64 x4, .int .i64 x5, .int .i64 x6, .int .i64 x7, .int .i64 x8, .int .i64 xs, .int .i64 xn, .int .u64 xq] 28 (0, 0)) := by
    rw [heap_old _ _ (by simp)]
    exact heap_alloc_new _ _
  have hrt : (((w.alloc (.cells #[.int .u64 m0, .int .i64 x0, .int .i64 x1, .int .i64 x2, .int .i64 x3, .int .i64 x4, .int .i64 x5, .int .i64 x6, .int .i64 x7, .int .i64 x8, .int .i64 xs, .int .i64 xn, .int .u64 xq] 28)).alloc (.cells #[.int .u64 k0, .int .i64 y0, .int .i64 y1, .int .i64 y2, .int .i64 y3, .int .i64 y4, .int .i64 y5, .int .i64 y6, .int .i64 y7, .int .i64 y8, .int .i64 ys, .int .i64 yn, .int .u64 yq] 28))).heap[w.heap.size + 1]? = some (.cells #[.int .u64 k0, .int .i64 y0, .int .i64 y1, .int .i64 y2, .int .i64 y3, .int .i64 y4, .int .i64 y5, .int .i64 y6, .int .i64 y7, .int .i64 y8, .int .i64 ys, .int .i64 yn, .int .u64 yq] 28 (0, 0)) := by
    have := heap_alloc_new (w.alloc (.cells #[.int .u64 m0, .int .i64 x0, .int .i64 x1, .int .i64 x2, .int .i64 x3, .int .i64 x4, .int .i64 x5, .int .i64 x6, .int .i64 x7, .int .i64 x8, .int .i64 xs, .int .i64 xn, .int .u64 xq] 28)) (.cells #[.int .u64 k0, .int .i64 y0, .int .i64 y1, .int .i64 y2, .int .i64 y3, .int .i64 y4, .int .i64 y5, .int .i64 y6, .int .i64 y7, .int .i64 y8, .int .i64 ys, .int .i64 yn, .int .u64 yq] 28)
    simpa using this
  obtain ⟨wa, hwa⟩ : ∃ wa, ((w.alloc (.cells #[.int .u64 m0, .int .i64 x0, .int .i64 x1, .int .i64 x2, .int .i64 x3, .int .i64 x4, .int .i64 x5, .int .i64 x6, .int .i64 x7, .int .i64 x8, .int .i64 xs, .int .i64 xn, .int .u64 xq] 28)).alloc (.cells #[.int .u64 k0, .int .i64 y0, .int .i64 y1, .int .i64 y2, .int .i64 y3, .int .i64 y4, .int .i64 y5, .int .i64 y6, .int .i64 y7, .int .i64 y8, .int .i64 ys, .int .i64 yn, .int .u64 yq] 28)) = wa := ⟨_, rfl⟩
  obtain ⟨ab, hab⟩ : ∃ ab, w.heap.size = ab := ⟨_, rfl⟩
  rw [hwa] at hba hra hrt
  rw [hab] at hra hrt
  have BA := Lib.hid hba
  have RA := Lib.hid hra
  have RT := Lib.hid hrt
  have HWA := Lib.hid hwa
  have HAB := Lib.hid hab
  clear hba hra hrt hwa hab
  go_enter Try.func6, Try.ntmps6
  go_wp2_with fail
  rw [HWA.out, HAB.out]
  refine (known20 wa).mono ?_
  rintro e w1 ⟨rfl, hb1⟩
  have RA1 := Lib.hid (row_keep RA.out hb1)
  have RT1 := Lib.hid (row_keep RT.out hb1)
  have B1 := Lib.hid (Below.call BA.out hb1)
  clear hb1 RA RT BA
  go_wp2_with fail
  go_ret
  exact ⟨rfl, B1.out⟩
set_option maxRecDepth 100000 in
theorem superCuts_walk (b t : Blk) (n : Int) (a : Option Addr) (len c : Nat) (kl : List Bool) (w : World) (hb : b.Wf) (ht : t.Wf) (hn : (Lit.int .i64 n).wf = true) (hk : RdB w a len c kl) :
    Calls Try.prog 6 #[b.val, t.val, .int .i64 n, .slice a len c] w fun e w' => e = .returned (.bool true) ∧ Below w.heap.size w w' := by
  by_cases h : 100 < len
  · exact supercuts_long b t n a len c kl w hb ht hk h (wf_i64_bd hn)
  · by_cases h1 : b.rs < 0
    · exact supercuts_neg0 b t n a len c kl w hb ht hk (by omega) (wf_i64_bd hn) h1
    · by_cases h2 : b.rn < 0
      · exact supercuts_neg1 b t n a len c kl w hb ht hk (by omega) (wf_i64_bd hn) ⟨by omega, h2⟩
      · by_cases h3 : t.rs < 0
        · exact supercuts_neg2 b t n a len c kl w hb ht hk (by omega) (wf_i64_bd hn) ⟨by omega, by omega, h3⟩
        · by_cases h4 : t.rn < 0
          · exact supercuts_neg3 b t n a len c kl w hb ht hk (by omega) (wf_i64_bd hn) ⟨by omega, by omega, by omega, h4⟩
          · exact supercuts_in b t n a len c kl w hb ht hk (by omega) (wf_i64_bd hn) ⟨by omega, by omega, by omega, by omega⟩
end Go.Proofs.Ytcbnebcooiagmaa
