/- Joined: The walk of almanaclaw20.SuperBytes. SuperBytes: for every input the law returns true, and every argument reads as it did: the row round the walk. -/
import Derived.Test.YtcbnebcooiagmaaJy19
import Derived.Deep.DeepCutAuto
import Derived.Test.YtcbnebcooiagmaaJy9
import Derived.Test.YtcbnebcooiagmaaRows
import Derived.WalkKit
import Derived.ProofKit
import Derived.OpenShut
import Derived.ShutString
import Derived.ChangeOld
import Derived.Below
namespace Go.Proofs.Ytcbnebcooiagmaa
open Go.RowKit
theorem putL_four {S : Int} (h : 0 ≤ S ∧ S ≤ 4294967295) : putL S 4 = [S % 256, S / 256 % 256, S / 65536 % 256, S / 16777216] := by
  have h9 : S / 16777216 % 256 = S / 16777216 := by omega
  simp [putL, h9]
/-- What the walk of SuperBytes carries to its last test. -/
structure SbSt (w wr : World) (ab kb : Nat) (ra ro : Array Value) (ks : Array Value) : Prop where
  b : Below w.heap.size w wr
  ra : wr.heap[ab]? = some (.cells ra 28 (0, 0))
  ro : wr.heap[ab + 1]? = some (.cells ro 28 (0, 0))
  rk : wr.heap[kb]? = some (.cells ks 42 (0, 0))
  rw : wr.heap[kb + 1]? = some (.cells ks 42 (0, 0))
set_option linter.unusedSimpArgs false in
set_option linter.unusedVariables false in
set_option maxRecDepth 100000 in
set_option maxHeartbeats 6000000 in
theorem superbytes_long (b : Blk) (a : Option Addr) (n c : Nat) (l : List Int) (o : Blk) (w : World) (hb : b.Wf) (hl : RdAt .u8 w a n c l) (ho : o.Wf) (hn : 8192 < n) :
    Calls Try.prog 3 #[b.val, .slice a n c, o.val] w fun e w' => e = .returned (.bool true) ∧ Below w.heap.size w w' := by
  have d1 : decide ((8192 : Int) < (n : Int)) = true := decide_eq_true (by omega)
  have HB := Lib.hid hb
  have HL := Lib.hid hl
  clear hb hl ho
  obtain ⟨m0, x0, x1, x2, x3, x4, x5, x6, x7, x8, xs, xn, xq⟩ := b
  obtain ⟨k0, y0, y1, y2, y3, y4, y5, y6, y7, y8, ys, yn, yq⟩ := o
  obtain ⟨e1, e2⟩ := HB.out.ep
  replace e1 : 0 ≤ m0 := e1
  replace e2 : m0 ≤ 18446744073709551615 := e2
  rw [show (⟨m0, x0, x1, x2, x3, x4, x5, x6, x7, x8, xs, xn, xq⟩ : Blk).val = .agg #[.int .u64 m0, .int .i64 x0, .int .i64 x1, .int .i64 x2, .int .i64 x3, .int .i64 x4, .int .i64 x5, .int .i64 x6, .int .i64 x7, .int .i64 x8, .int .i64 xs, .int .i64 xn, .int .u64 xq] from rfl, show (⟨k0, y0, y1, y2, y3, y4, y5, y6, y7, y8, ys, yn, yq⟩ : Blk).val = .agg #[.int .u64 k0, .int .i64 y0, .int .i64 y1, .int .i64 y2, .int .i64 y3, .int .i64 y4, .int .i64 y5, .int .i64 y6, .int .i64 y7, .int .i64 y8, .int .i64 ys, .int .i64 yn, .int .u64 yq] from rfl]
  have hba : Below w.heap.size w ((w.alloc (.cells #[.int .u64 m0, .int .i64 x0, .int .i64 x1, .int .i64 x2, .int .i64 x3, .int .i64 x4, .int .i64 x5, .int .i64 x6, .int .i64 x7, .int .i64 x8, .int .i64 xs, .int .i64 xn, .int .u64 xq] 28)).alloc (.cells #[.int .u64 k0, .int .i64 y0, .int .i64 y1, .int .i64 y2, .int .i64 y3, .int .i64 y4, .int .i64 y5, .int .i64 y6, .int .i64 y7, .int .i64 y8, .int .i64 ys, .int .i64 yn, .int .u64 yq] 28)) := ((Below.refl _ _).alloc (Nat.le_refl _) _).alloc (by simp) _
  have hra : (((w.alloc (.cells #[.int .u64 m0, .int .i64 x0, .int .i64 x1, .int .i64 x2, .int .i64 x3, .int .i64 x4, .int .i64 x5, .int .i64 x6, .int .i64 x7, .int .i64 x8, .int .i64 xs, .int .i64 xn, .int .u64 xq] 28)).alloc (.cells #[.int .u64 k0, .int .i64 y0, .int .i64 y1, .int .i64 y2, .int .i64 y3, .int .i64 y4, .int .i64 y5, .int .i64 y6, .int .i64 y7, .int .i64 y8, .int .i64 ys, .int .i64 yn, .int .u64 yq] 28))).heap[w.heap.size]? = some (.cells #[.int .u64 m0, .int .i64 x0, .int .i64 x1, .int .i64 x2, .int .i64 x3, .int .i64 x4, .int .i64 x5, .int .i64 x6, .int .i64 x7, .int .i64 x8, .int .i64 xs, .int .i64 xn, .int .u64 xq] 28 (0, 0)) := by
    rw [heap_old _ _ (by simp)]
    exact heap_alloc_new _ _
  have hrt : (((w.alloc (.cells #[.int .u64 m0, .int .i64 x0, .int .i64 x1, .int .i64 x2, .int .i64 x3, .int .i64 x4, .int .i64 x5, .int .i64 x6, .int .i64 x7, .int .i64 x8, .int .i64 xs, .int .i64 xn, .int .u64 xq] 28)).alloc (.cells #[.int .u64 k0, .int .i64 y0, .int .i64 y1, .int .i64 y2, .int .i64 y3, .int .i64 y4, .int .i64 y5, .int .i64 y6, .int .i64 y7, .int .i64 y8, .int .i64 ys, .int .i64 yn, .int .u64 yq] 28))).heap[w.heap.size + 1]? = some (.cells #[.int .u64 k0, .int .i64 y0, .int .i64 y1, .int .i64 y2, .int .i64 y3, .int .i64 y4, .int .i64 y5, .int .i64 y6, .int .i64 y7, .int .i64 y8, .int .i64 ys, .int .i64 yn, .int .u64 yq] 28 (0, 0)) := by
    have := heap_alloc_new (w.alloc (.cells #[.int .u64 m0, .int .i64 x0, .int .i64 x1, .int .i64 x2, .int .i64 x3, .int .i64 x4, .int .i64 x5, .int .i64 x6, .int .i64 x7, .int .i64 x8, .int .i64 xs, .int .i64 xn, .int .u64 xq] 28)) (.cells #[.int .u64 k0, .int .i64 y0, .int .i64 y1, .int .i64 y2, .int .i64 y3, .int .i64 y4, .int .i64 y5, .int .i64 y6, .int .i64 y7, .int .i64 y8, .int .i64 ys, .int .i64 yn, .int .u64 yq] 28)
    simpa using this
  obtain ⟨wa, hwa⟩ : ∃ wa, ((w.alloc (.cells #[.int .u64 m0, .int .i64 x0, .int .i64 x1, .int .i64 x2, .int .i64 x3, .int .i64 x4, .int .i64 x5, .int .i64 x6, .int .i64 x7, .int .i64 x8, .int .i64 xs, .int .i64 xn, .int .u64 xq] 28)).alloc (.cells #[.int .u64 k0, .int .i64 y0, .int .i64 y1, .int .i64 y2, .int .i64 y3, .int .i64 y4, .int .i64 y5, .int .i64 y6, .int .i64 y7, .int .i64 y8, .int .i64 ys, .int .i64 yn, .int .u64 yq] 28)) = wa := ⟨_, rfl⟩
  obtain ⟨ab, hab⟩ : ∃ ab, w.heap.size = ab := ⟨_, rfl⟩
  rw [hwa] at hba hra hrt
  rw [hab] at hra hrt
  have B0 := Lib.hid hba
  have RA0 := Lib.hid hra
  have RT0 := Lib.hid hrt
  have S0 := Lib.hid (HL.out.below hba)
  have HWA := Lib.hid hwa
  have HAB := Lib.hid hab
  clear hba hra hrt hwa hab HL
  go_enter Try.func3, Try.ntmps3
  go_wp2_with fail
  rw [HWA.out, HAB.out]
  refine (known20 wa).mono ?_
  rintro e w1 ⟨rfl, hb1⟩
  have B1 := Lib.hid (Below.call B0.out hb1)
  clear hb1
  go_wp2_with fail
  go_ret
  exact ⟨rfl, B1.out⟩
set_option linter.unusedSimpArgs false in
set_option linter.unusedVariables false in
set_option maxRecDepth 100000 in
set_option maxHeartbeats 6000000 in
theorem superbytes_in (b : Blk) (a : Option Addr) (n c : Nat) (l : List Int) (o : Blk) (w : World) (hb : b.Wf) (hl : RdAt .u8 w a n c l) (ho : o.Wf) (hn : n ≤ 8192) :
    Calls Try.prog 3 #[b.val, .slice a n c, o.val] w fun e w' => e = .returned (.bool true) ∧ Below w.heap.size w w' := by
  have d1 : decide ((8192 : Int) < (n : Int)) = false := decide_eq_false (by omega)
  have HB := Lib.hid hb
  have HL := Lib.hid hl
  clear hb hl ho
  obtain ⟨m0, x0, x1, x2, x3, x4, x5, x6, x7, x8, xs, xn, xq⟩ := b
  obtain ⟨k0, y0, y1, y2, y3, y4, y5, y6, y7, y8, ys, yn, yq⟩ := o
  obtain ⟨e1, e2⟩ := HB.out.ep
  replace e1 : 0 ≤ m0 := e1
  replace e2 : m0 ≤ 18446744073709551615 := e2
  rw [show (⟨m0, x0, x1, x2, x3, x4, x5, x6, x7, x8, xs, xn, xq⟩ : Blk).val = .agg #[.int .u64 m0, .int .i64 x0, .int .i64 x1, .int .i64 x2, .int .i64 x3, .int .i64 x4, .int .i64 x5, .int .i64 x6, .int .i64 x7, .int .i64 x8, .int .i64 xs, .int .i64 xn, .int .u64 xq] from rfl, show (⟨k0, y0, y1, y2, y3, y4, y5, y6, y7, y8, ys, yn, yq⟩ : Blk).val = .agg #[.int .u64 k0, .int .i64 y0, .int .i64 y1, .int .i64 y2, .int .i64 y3, .int .i64 y4, .int .i64 y5, .int .i64 y6, .int .i64 y7, .int .i64 y8, .int .i64 ys, .int .i64 yn, .int .u64 yq] from rfl]
  have hba : Below w.heap.size w ((w.alloc (.cells #[.int .u64 m0, .int .i64 x0, .int .i64 x1, .int .i64 x2, .int .i64 x3, .int .i64 x4, .int .i64 x5, .int .i64 x6, .int .i64 x7, .int .i64 x8, .int .i64 xs, .int .i64 xn, .int .u64 xq] 28)).alloc (.cells #[.int .u64 k0, .int .i64 y0, .int .i64 y1, .int .i64 y2, .int .i64 y3, .int .i64 y4, .int .i64 y5, .int .i64 y6, .int .i64 y7, .int .i64 y8, .int .i64 ys, .int .i64 yn, .int .u64 yq] 28)) := ((Below.refl _ _).alloc (Nat.le_refl _) _).alloc (by simp) _
  have hra : (((w.alloc (.cells #[.int .u64 m0, .int .i64 x0, .int .i64 x1, .int .i64 x2, .int .i64 x3, .int .i64 x4, .int .i64 x5, .int .i64 x6, .int .i64 x7, .int .i64 x8, .int .i64 xs, .int .i64 xn, .int .u64 xq] 28)).alloc (.cells #[.int .u64 k0, .int .i64 y0, .int .i64 y1, .int .i64 y2, .int .i64 y3, .int .i64 y4, .int .i64 y5, .int .i64 y6, .int .i64 y7, .int .i64 y8, .int .i64 ys, .int .i64 yn, .int .u64 yq] 28))).heap[w.heap.size]? = some (.cells #[.int .u64 m0, .int .i64 x0, .int .i64 x1, .int .i64 x2, .int .i64 x3, .int .i64 x4, .int .i64 x5, .int .i64 x6, .int .i64 x7, .int .i64 x8, .int .i64 xs, .int .i64 xn, .int .u64 xq] 28 (0, 0)) := by
    rw [heap_old _ _ (by simp)]
    exact heap_alloc_new _ _
  have hrt : (((w.alloc (.cells #[.int .u64 m0, .int .i64 x0, .int .i64 x1, .int .i64 x2, .int .i64 x3, .int .i64 x4, .int .i64 x5, .int .i64 x6, .int .i64 x7, .int .i64 x8, .int .i64 xs, .int .i64 xn, .int .u64 xq] 28)).alloc (.cells #[.int .u64 k0, .int .i64 y0, .int .i64 y1, .int .i64 y2, .int .i64 y3, .int .i64 y4, .int .i64 y5, .int .i64 y6, .int .i64 y7, .int .i64 y8, .int .i64 ys, .int .i64 yn, .int .u64 yq] 28))).heap[w.heap.size + 1]? = some (.cells #[.int .u64 k0, .int .i64 y0, .int .i64 y1, .int .i64 y2, .int .i64 y3, .int .i64 y4, .int .i64 y5, .int .i64 y6, .int .i64 y7, .int .i64 y8, .int .i64 ys, .int .i64 yn, .int .u64 yq] 28 (0, 0)) := by
    have := heap_alloc_new (w.alloc (.cells #[.int .u64 m0, .int .i64 x0, .int .i64 x1, .int .i64 x2, .int .i64 x3, .int .i64 x4, .int .i64 x5, .int .i64 x6, .int .i64 x7, .int .i64 x8, .int .i64 xs, .int .i64 xn, .int .u64 xq] 28)) (.cells #[.int .u64 k0, .int .i64 y0, .int .i64 y1, .int .i64 y2, .int .i64 y3, .int .i64 y4, .int .i64 y5, .int .i64 y6, .int .i64 y7, .int .i64 y8, .int .i64 ys, .int .i64 yn, .int .u64 yq] 28)
    simpa using this
  obtain ⟨wa, hwa⟩ : ∃ wa, ((w.alloc (.cells #[.int .u64 m0, .int .i64 x0, .int .i64 x1, .int .i64 x2, .int .i64 x3, .int .i64 x4, .int .i64 x5, .int .i64 x6, .int .i64 x7, .int .i64 x8, .int .i64 xs, .int .i64 xn, .int .u64 xq] 28)).alloc (.cells #[.int .u64 k0, .int .i64 y0, .int .i64 y1, .int .i64 y2, .int .i64 y3, .int .i64 y4, .int .i64 y5, .int .i64 y6, .int .i64 y7, .int .i64 y8, .int .i64 ys, .int .i64 yn, .int .u64 yq] 28)) = wa := ⟨_, rfl⟩
  obtain ⟨ab, hab⟩ : ∃ ab, w.heap.size = ab := ⟨_, rfl⟩
  rw [hwa] at hba hra hrt
  rw [hab] at hra hrt
  have B0 := Lib.hid hba
  have RA0 := Lib.hid hra
  have RT0 := Lib.hid hrt
  have S0 := Lib.hid (HL.out.below hba)
  have HWA := Lib.hid hwa
  have HAB := Lib.hid hab
  clear hba hra hrt hwa hab HL
  go_enter Try.func3, Try.ntmps3
  go_wp2_with fail
  rw [HWA.out, HAB.out]
  refine (known20 wa).mono ?_
  rintro e w1 ⟨rfl, hb1⟩
  have RA1 := Lib.hid (row_keep RA0.out hb1)
  have RT1 := Lib.hid (row_keep RT0.out hb1)
  have S1 := Lib.hid (S0.out.below hb1)
  have B1 := Lib.hid (Below.call B0.out hb1)
  clear RA0 RT0 S0 B0 hb1
  obtain ⟨p0, p1, p2, p3, p4, p5, p6, p7, p8, p9, p10, p11, p12⟩ := cells13 RA1.out
  go_wp2_with fail
  clear p0 p1 p2 p3 p4 p5 p6 p7 p8 p9 p10 p11 p12
  have h1 := supenc_any (⟨m0, x0, x1, x2, x3, x4, x5, x6, x7, x8, xs, xn, xq⟩ : Blk) w1 HB.out
  rw [show (⟨m0, x0, x1, x2, x3, x4, x5, x6, x7, x8, xs, xn, xq⟩ : Blk).val = .agg #[.int .u64 m0, .int .i64 x0, .int .i64 x1, .int .i64 x2, .int .i64 x3, .int .i64 x4, .int .i64 x5, .int .i64 x6, .int .i64 x7, .int .i64 x8, .int .i64 xs, .int .i64 xn, .int .u64 xq] from rfl] at h1
  refine h1.mono ?_
  rintro e w2 ⟨v2, rfl, ho2, hb2⟩
  obtain ⟨EA, hEA⟩ : ∃ x, supE (⟨m0, x0, x1, x2, x3, x4, x5, x6, x7, x8, xs, xn, xq⟩ : Blk) = x := ⟨_, rfl⟩
  obtain ⟨VA, hVA⟩ : ∃ x, supV (⟨m0, x0, x1, x2, x3, x4, x5, x6, x7, x8, xs, xn, xq⟩ : Blk) = x := ⟨_, rfl⟩
  have HEA := Lib.hid hEA
  have HVA := Lib.hid hVA
  rw [hVA] at ho2
  rw [hEA]
  obtain ⟨nx, hnx⟩ : ∃ x, VA.length = x := ⟨_, rfl⟩
  obtain ⟨ax, cx, rfl⟩ := ho2.shapeN nx hnx
  have HNX := Lib.hid hnx
  have X2 := Lib.hid ho2.rd
  clear h1 ho2 hnx hEA hVA
  have RA2 := Lib.hid (row_keep RA1.out hb2)
  have RT2 := Lib.hid (row_keep RT1.out hb2)
  have S2 := Lib.hid (S1.out.below hb2)
  have B2 := Lib.hid (Below.call B1.out hb2)
  clear RA1 RT1 S1 B1 hb2
  obtain ⟨p0, p1, p2, p3, p4, p5, p6, p7, p8, p9, p10, p11, p12⟩ := cells13 RA2.out
  go_wp2_with fail
  clear p0 p1 p2 p3 p4 p5 p6 p7 p8 p9 p10 p11 p12
  have h1 := of_any (⟨m0, x0, x1, x2, x3, x4, x5, x6, x7, x8, xs, xn, xq⟩ : Blk) w2
  rw [show (⟨m0, x0, x1, x2, x3, x4, x5, x6, x7, x8, xs, xn, xq⟩ : Blk).val = .agg #[.int .u64 m0, .int .i64 x0, .int .i64 x1, .int .i64 x2, .int .i64 x3, .int .i64 x4, .int .i64 x5, .int .i64 x6, .int .i64 x7, .int .i64 x8, .int .i64 xs, .int .i64 xn, .int .u64 xq] from rfl] at h1
  refine h1.mono ?_
  rintro e w3 ⟨rfl, hb3⟩
  clear h1
  have RA3 := Lib.hid (row_keep RA2.out hb3)
  have RT3 := Lib.hid (row_keep RT2.out hb3)
  have S3 := Lib.hid (S2.out.below hb3)
  have B3 := Lib.hid (Below.call B2.out hb3)
  have X3 := Lib.hid (X2.out.below hb3)
  clear RA2 RT2 S2 B2 X2 hb3
  go_wp2_with fail
  have h1 := refenc_any (⟨m0, x0, x1, x2, x3, x4, x5, x6, x7, x8, xs, xn, xq⟩ : Blk) w3 HB.out
  rw [show (⟨m0, x0, x1, x2, x3, x4, x5, x6, x7, x8, xs, xn, xq⟩ : Blk).val = .agg #[.int .u64 m0, .int .i64 x0, .int .i64 x1, .int .i64 x2, .int .i64 x3, .int .i64 x4, .int .i64 x5, .int .i64 x6, .int .i64 x7, .int .i64 x8, .int .i64 xs, .int .i64 xn, .int .u64 xq] from rfl] at h1
  refine h1.mono ?_
  rintro e w4 ⟨v4, rfl, ho4, hb4⟩
  rw [HVA.out] at ho4
  rw [HEA.out]
  obtain ⟨ay, cy, rfl⟩ := ho4.shapeN nx HNX.out
  have Y4 := Lib.hid ho4.rd
  clear h1 ho4
  have RA4 := Lib.hid (row_keep RA3.out hb4)
  have RT4 := Lib.hid (row_keep RT3.out hb4)
  have S4 := Lib.hid (S3.out.below hb4)
  have B4 := Lib.hid (Below.call B3.out hb4)
  have X4 := Lib.hid (X3.out.below hb4)
  clear RA3 RT3 S3 B3 X3 hb4
  go_wp2_with fail
  refine (supdec_any a n c l w4 S4.out (by omega)).mono ?_
  rintro e w5 ⟨rfl, hb5⟩
  obtain ⟨r1, r2⟩ := sup_ref S4.out.bytes
  obtain ⟨ED, hED⟩ : ∃ x, supDE l = x := ⟨_, rfl⟩
  obtain ⟨VD, hVD⟩ : ∃ x, supD l = x := ⟨_, rfl⟩
  rw [hED, hVD]
  rw [hED] at r1
  rw [hVD] at r2
  have HR1 := Lib.hid r1
  have HR2 := Lib.hid r2
  clear r1 r2 hED hVD
  obtain ⟨g0, g1, g2, g3, g4, g5, g6, g7, g8, g9, g10, g11, g12⟩ := VD
  rw [show (⟨g0, g1, g2, g3, g4, g5, g6, g7, g8, g9, g10, g11, g12⟩ : Blk).val = .agg #[.int .u64 g0, .int .i64 g1, .int .i64 g2, .int .i64 g3, .int .i64 g4, .int .i64 g5, .int .i64 g6, .int .i64 g7, .int .i64 g8, .int .i64 g9, .int .i64 g10, .int .i64 g11, .int .u64 g12] from rfl]
  have RA5 := Lib.hid (row_keep RA4.out hb5)
  have RT5 := Lib.hid (row_keep RT4.out hb5)
  have S5 := Lib.hid (S4.out.below hb5)
  have B5 := Lib.hid (Below.call B4.out hb5)
  have X5 := Lib.hid (X4.out.below hb5)
  have Y5 := Lib.hid (Y4.out.below hb5)
  clear RA4 RT4 S4 B4 X4 Y4 hb5
  have hal := (Below.refl w5.heap.size w5).alloc (Nat.le_refl _) (.cells #[.int .u64 g0, .int .i64 g1, .int .i64 g2, .int .i64 g3, .int .i64 g4, .int .i64 g5, .int .i64 g6, .int .i64 g7, .int .i64 g8, .int .i64 g9, .int .i64 g10, .int .i64 g11, .int .u64 g12] 28)
  have hrow := heap_alloc_new w5 (.cells #[.int .u64 g0, .int .i64 g1, .int .i64 g2, .int .i64 g3, .int .i64 g4, .int .i64 g5, .int .i64 g6, .int .i64 g7, .int .i64 g8, .int .i64 g9, .int .i64 g10, .int .i64 g11, .int .u64 g12] 28)
  have RA6 := Lib.hid (row_keep RA5.out hal)
  have RT6 := Lib.hid (row_keep RT5.out hal)
  have S6 := Lib.hid (S5.out.below hal)
  have B6 := Lib.hid (Below.call B5.out hal)
  have X6 := Lib.hid (X5.out.below hal)
  have Y6 := Lib.hid (Y5.out.below hal)
  clear RA5 RT5 S5 B5 X5 Y5
  obtain ⟨w6, hw6⟩ : ∃ z, w5.alloc (.cells #[.int .u64 g0, .int .i64 g1, .int .i64 g2, .int .i64 g3, .int .i64 g4, .int .i64 g5, .int .i64 g6, .int .i64 g7, .int .i64 g8, .int .i64 g9, .int .i64 g10, .int .i64 g11, .int .u64 g12] 28) = z := ⟨_, rfl⟩
  obtain ⟨db, hdb⟩ : ∃ z, w5.heap.size = z := ⟨_, rfl⟩
  rw [hw6] at RA6 RT6 S6 B6 X6 Y6 hrow
  rw [hdb] at hrow
  have RD6 := Lib.hid hrow
  clear hal hrow
  go_wp2_with (first | (rw [hw6]) | fail)
  refine (refdec_any a n c l w6 S6.out (by omega)).mono ?_
  rintro e w7 ⟨rfl, hb7⟩
  rw [← HR1.out, ← HR2.out]
  rw [show (⟨g0, g1, g2, g3, g4, g5, g6, g7, g8, g9, g10, g11, g12⟩ : Blk).val = .agg #[.int .u64 g0, .int .i64 g1, .int .i64 g2, .int .i64 g3, .int .i64 g4, .int .i64 g5, .int .i64 g6, .int .i64 g7, .int .i64 g8, .int .i64 g9, .int .i64 g10, .int .i64 g11, .int .u64 g12] from rfl]
  clear hw6 hdb
  have RA7 := Lib.hid (row_keep RA6.out hb7)
  have RT7 := Lib.hid (row_keep RT6.out hb7)
  have B7 := Lib.hid (Below.call B6.out hb7)
  have X7 := Lib.hid (X6.out.below hb7)
  have Y7 := Lib.hid (Y6.out.below hb7)
  have RD7 := Lib.hid (row_keep RD6.out hb7)
  clear RA6 RT6 B6 X6 Y6 RD6 hb7
  have hal := (Below.refl w7.heap.size w7).alloc (Nat.le_refl _) (.cells #[.int .u64 g0, .int .i64 g1, .int .i64 g2, .int .i64 g3, .int .i64 g4, .int .i64 g5, .int .i64 g6, .int .i64 g7, .int .i64 g8, .int .i64 g9, .int .i64 g10, .int .i64 g11, .int .u64 g12] 36)
  have hrow := heap_alloc_new w7 (.cells #[.int .u64 g0, .int .i64 g1, .int .i64 g2, .int .i64 g3, .int .i64 g4, .int .i64 g5, .int .i64 g6, .int .i64 g7, .int .i64 g8, .int .i64 g9, .int .i64 g10, .int .i64 g11, .int .u64 g12] 36)
  have RA8 := Lib.hid (row_keep RA7.out hal)
  have RT8 := Lib.hid (row_keep RT7.out hal)
  have B8 := Lib.hid (Below.call B7.out hal)
  have X8 := Lib.hid (X7.out.below hal)
  have Y8 := Lib.hid (Y7.out.below hal)
  have RD8 := Lib.hid (row_keep RD7.out hal)
  clear RA7 RT7 B7 X7 Y7 RD7
  obtain ⟨w8, hw8⟩ : ∃ z, w7.alloc (.cells #[.int .u64 g0, .int .i64 g1, .int .i64 g2, .int .i64 g3, .int .i64 g4, .int .i64 g5, .int .i64 g6, .int .i64 g7, .int .i64 g8, .int .i64 g9, .int .i64 g10, .int .i64 g11, .int .u64 g12] 36) = z := ⟨_, rfl⟩
  obtain ⟨sb, hsb⟩ : ∃ z, w7.heap.size = z := ⟨_, rfl⟩
  rw [hw8] at RA8 RT8 B8 X8 Y8 RD8 hrow
  rw [hsb] at hrow
  have RW8 := Lib.hid hrow
  clear hal hrow
  go_wp2_with (first | (rw [hw8]) | fail)
  clear hw8 hsb
  have hBd : Below w.heap.size w w8.drew := belowD B8.out 1
  refine' reg_free (G := Kept) (pickF [eqV _, eqV _, eqV _, eqV _, eqV _, eqV _, eqV _, eqV _, eqV _, eqV _, eqV _, eqV _, eqV _, eqV _, eqV _, eqV _, eqV _, eqV _, eqV _, eqV _, eqV _]) [44, 45, 46, 47, 48, 49, 50, 51, 52, 53, 54, 55, 56, 57, 58, 59, 60, 61, 62, 63, 64] [[], [0], [], [2], [1, 3], [4], [5], [5], [5, 6, 7], [5, 8], [9], [10], [10, 11], [10], [10, 12, 13], [10, 14], [15], [16], [16], [16, 17, 18], [16, 19]] [0, 1, 2, 3, 4, 5, 6, 7, 8, 9, 10, 11, 12, 13, 14, 15, 16, 17, 18, 19, 20] (by kernel_rfl) Kept.refl Kept.trans (pick_stays ⟨eqV_stays _, eqV_stays _, eqV_stays _, eqV_stays _, eqV_stays _, eqV_stays _, eqV_stays _, eqV_stays _, eqV_stays _, eqV_stays _, eqV_stays _, eqV_stays _, eqV_stays _, eqV_stays _, eqV_stays _, eqV_stays _, eqV_stays _, eqV_stays _, eqV_stays _, eqV_stays _, eqV_stays _, trivial⟩) 107 rfl (by kernel_rfl) (by kernel_rfl) rfl rfl ?r1obl ?r1fin
  case r1obl =>
    refine And.intro ?r1o0 (And.intro ?r1o1 (And.intro ?r1o2 (And.intro ?r1o3 (And.intro ?r1o4 (And.intro ?r1o5 (And.intro ?r1o6 (And.intro ?r1o7 (And.intro ?r1o8 (And.intro ?r1o9 (And.intro ?r1o10 (And.intro ?r1o11 (And.intro ?r1o12 (And.intro ?r1o13 (And.intro ?r1o14 (And.intro ?r1o15 (And.intro ?r1o16 (And.intro ?r1o17 (And.intro ?r1o18 (And.intro ?r1o19 (And.intro ?r1o20 (True.intro)))))))))))))))))))))
    case r1o0 =>
      intro w1 hG
      refine turn_on (by rfl) ?_
      intro K hK
      go_simp
      refine hK _ _ ⟨rfl, Kept.refl _, ?_⟩
      show _ = _
      simp only [List.getD_cons_zero, List.getD_cons_succ, Array.getD_eq_getD_getElem?, List.getElem?_toArray, List.getElem?_cons_zero, List.getElem?_cons_succ, Option.getD_some]
      rfl
    case r1o1 =>
      intro w1 hG
      intro v0 h0
      change _ = _ at h0
      subst h0
      refine turn_on (by rfl) ?_
      intro K hK
      simp only [List.getD_cons_zero, List.getD_cons_succ, List.setIfInBounds_toArray, List.set_cons_zero, List.set_cons_succ]
      refine wp_conv 45 rfl u8T s8 su _ rfl rfl (X8.out.keptD hG) ?_
      refine hK _ _ ⟨rfl, Kept.refl _, ?_⟩
      show _ = _
      simp only [List.getD_cons_zero, List.getD_cons_succ, Array.getD_eq_getD_getElem?, List.getElem?_toArray, List.getElem?_cons_zero, List.getElem?_cons_succ, Option.getD_some]
      rfl
    case r1o2 =>
      intro w1 hG
      refine turn_on (by rfl) ?_
      intro K hK
      go_simp
      refine hK _ _ ⟨rfl, Kept.refl _, ?_⟩
      show _ = _
      simp only [List.getD_cons_zero, List.getD_cons_succ, Array.getD_eq_getD_getElem?, List.getElem?_toArray, List.getElem?_cons_zero, List.getElem?_cons_succ, Option.getD_some]
      rfl
    case r1o3 =>
      intro w1 hG
      intro v2 h2
      change _ = _ at h2
      subst h2
      refine turn_on (by rfl) ?_
      intro K hK
      simp only [List.getD_cons_zero, List.getD_cons_succ, List.setIfInBounds_toArray, List.set_cons_zero, List.set_cons_succ]
      refine wp_conv 47 rfl u8T s8 su _ rfl rfl (Y8.out.keptD hG) ?_
      refine hK _ _ ⟨rfl, Kept.refl _, ?_⟩
      show _ = _
      simp only [List.getD_cons_zero, List.getD_cons_succ, Array.getD_eq_getD_getElem?, List.getElem?_toArray, List.getElem?_cons_zero, List.getElem?_cons_succ, Option.getD_some]
      rfl
    case r1o4 =>
      intro w1 hG
      intro v1 h1
      change _ = _ at h1
      subst h1
      intro v3 h3
      change _ = _ at h3
      subst h3
      refine turn_on (by rfl) ?_
      intro K hK
      simp only [List.getD_cons_zero, List.getD_cons_succ, List.setIfInBounds_toArray, List.set_cons_zero, List.set_cons_succ]
      go_simp
      refine hK _ _ ⟨rfl, Kept.refl _, ?_⟩
      show _ = _
      simp only [List.getD_cons_zero, List.getD_cons_succ, Array.getD_eq_getD_getElem?, List.getElem?_toArray, List.getElem?_cons_zero, List.getElem?_cons_succ, Option.getD_some]
      rfl
    case r1o5 =>
      intro w1 hG
      intro v4 h4
      change _ = _ at h4
      subst h4
      refine turn_on (by rfl) ?_
      intro K hK
      simp only [List.getD_cons_zero, List.getD_cons_succ, List.setIfInBounds_toArray, List.set_cons_zero, List.set_cons_succ]
      go_simp
      refine hK _ _ ⟨rfl, Kept.refl _, ?_⟩
      show _ = _
      simp only [List.getD_cons_zero, List.getD_cons_succ, Array.getD_eq_getD_getElem?, List.getElem?_toArray, List.getElem?_cons_zero, List.getElem?_cons_succ, Option.getD_some]
      rfl
    case r1o6 =>
      intro w1 hG
      intro v5 h5
      change _ = _ at h5
      subst h5
      refine turn_on (by rfl) ?_
      intro K hK
      simp only [List.getD_cons_zero, List.getD_cons_succ, List.setIfInBounds_toArray, List.set_cons_zero, List.set_cons_succ]
      go_simp
      refine hK _ _ ⟨rfl, Kept.refl _, ?_⟩
      show _ = _
      simp only [List.getD_cons_zero, List.getD_cons_succ, Array.getD_eq_getD_getElem?, List.getElem?_toArray, List.getElem?_cons_zero, List.getElem?_cons_succ, Option.getD_some]
      rfl
    case r1o7 =>
      intro w1 hG
      intro v5 h5
      change _ = _ at h5
      subst h5
      refine turn_on (by rfl) ?_
      intro K hK
      simp only [List.getD_cons_zero, List.getD_cons_succ, List.setIfInBounds_toArray, List.set_cons_zero, List.set_cons_succ]
      go_simp
      refine hK _ _ ⟨rfl, Kept.refl _, ?_⟩
      show _ = _
      simp only [List.getD_cons_zero, List.getD_cons_succ, Array.getD_eq_getD_getElem?, List.getElem?_toArray, List.getElem?_cons_zero, List.getElem?_cons_succ, Option.getD_some]
      rfl
    case r1o8 =>
      intro w1 hG
      intro v5 h5
      change _ = _ at h5
      subst h5
      intro v6 h6
      change _ = _ at h6
      subst h6
      intro v7 h7
      change _ = _ at h7
      subst h7
      refine turn_on (by rfl) ?_
      intro K hK
      simp only [List.getD_cons_zero, List.getD_cons_succ, List.setIfInBounds_toArray, List.set_cons_zero, List.set_cons_succ]
      go_simp
      refine hK _ _ ⟨rfl, Kept.refl _, ?_⟩
      show _ = _
      simp only [List.getD_cons_zero, List.getD_cons_succ, Array.getD_eq_getD_getElem?, List.getElem?_toArray, List.getElem?_cons_zero, List.getElem?_cons_succ, Option.getD_some]
      rfl
    case r1o9 =>
      intro w1 hG
      intro v5 h5
      change _ = _ at h5
      subst h5
      intro v8 h8
      change _ = _ at h8
      subst h8
      refine turn_on (by rfl) ?_
      intro K hK
      simp only [List.getD_cons_zero, List.getD_cons_succ, List.setIfInBounds_toArray, List.set_cons_zero, List.set_cons_succ]
      go_simp
      refine hK _ _ ⟨rfl, Kept.refl _, ?_⟩
      show _ = _
      simp only [List.getD_cons_zero, List.getD_cons_succ, Array.getD_eq_getD_getElem?, List.getElem?_toArray, List.getElem?_cons_zero, List.getElem?_cons_succ, Option.getD_some]
      rfl
    case r1o10 =>
      intro w1 hG
      intro v9 h9
      change _ = _ at h9
      subst h9
      refine turn_on (by rfl) ?_
      intro K hK
      simp only [List.getD_cons_zero, List.getD_cons_succ, List.setIfInBounds_toArray, List.set_cons_zero, List.set_cons_succ]
      go_simp
      refine hK _ _ ⟨rfl, Kept.refl _, ?_⟩
      show _ = _
      simp only [List.getD_cons_zero, List.getD_cons_succ, Array.getD_eq_getD_getElem?, List.getElem?_toArray, List.getElem?_cons_zero, List.getElem?_cons_succ, Option.getD_some]
      rfl
    case r1o11 =>
      intro w1 hG
      intro v10 h10
      change _ = _ at h10
      subst h10
      refine turn_on (by rfl) ?_
      intro K hK
      simp only [List.getD_cons_zero, List.getD_cons_succ, List.setIfInBounds_toArray, List.set_cons_zero, List.set_cons_succ]
      obtain ⟨p0, p1, p2, p3, p4, p5, p6, p7, p8, p9, p10, p11, p12⟩ := cells13 (row_keep (w := w8.drew) RD8.out hG)
      go_simp
      refine hK _ _ ⟨rfl, Kept.refl _, ?_⟩
      show _ = _
      simp only [List.getD_cons_zero, List.getD_cons_succ, Array.getD_eq_getD_getElem?, List.getElem?_toArray, List.getElem?_cons_zero, List.getElem?_cons_succ, Option.getD_some]
      rfl
    case r1o12 =>
      intro w1 hG
      intro v10 h10
      change _ = _ at h10
      subst h10
      intro v11 h11
      change _ = _ at h11
      subst h11
      refine turn_on (by rfl) ?_
      intro K hK
      simp only [List.getD_cons_zero, List.getD_cons_succ, List.setIfInBounds_toArray, List.set_cons_zero, List.set_cons_succ]
      go_simp
      have hof := of_any (⟨g0, g1, g2, g3, g4, g5, g6, g7, g8, g9, g10, g11, g12⟩ : Blk) w1
      rw [show (⟨g0, g1, g2, g3, g4, g5, g6, g7, g8, g9, g10, g11, g12⟩ : Blk).val = .agg #[.int .u64 g0, .int .i64 g1, .int .i64 g2, .int .i64 g3, .int .i64 g4, .int .i64 g5, .int .i64 g6, .int .i64 g7, .int .i64 g8, .int .i64 g9, .int .i64 g10, .int .i64 g11, .int .u64 g12] from rfl] at hof
      refine Calls.mono hof ?_
      rintro e w2 ⟨rfl, hbx⟩
      refine hK _ _ ⟨rfl, hbx, ?_⟩
      show _ = _
      simp only [List.getD_cons_zero, List.getD_cons_succ, Array.getD_eq_getD_getElem?, List.getElem?_toArray, List.getElem?_cons_zero, List.getElem?_cons_succ, Option.getD_some]
      rfl
    case r1o13 =>
      intro w1 hG
      intro v10 h10
      change _ = _ at h10
      subst h10
      refine turn_on (by rfl) ?_
      intro K hK
      simp only [List.getD_cons_zero, List.getD_cons_succ, List.setIfInBounds_toArray, List.set_cons_zero, List.set_cons_succ]
      obtain ⟨p0, p1, p2, p3, p4, p5, p6, p7, p8, p9, p10, p11, p12⟩ := cells13 (row_keep (w := w8.drew) RW8.out hG)
      go_simp
      refine hK _ _ ⟨rfl, Kept.refl _, ?_⟩
      show _ = _
      simp only [List.getD_cons_zero, List.getD_cons_succ, Array.getD_eq_getD_getElem?, List.getElem?_toArray, List.getElem?_cons_zero, List.getElem?_cons_succ, Option.getD_some]
      rfl
    case r1o14 =>
      intro w1 hG
      intro v10 h10
      change _ = _ at h10
      subst h10
      intro v12 h12
      change _ = _ at h12
      subst h12
      intro v13 h13
      change _ = _ at h13
      subst h13
      refine turn_on (by rfl) ?_
      intro K hK
      simp only [List.getD_cons_zero, List.getD_cons_succ, List.setIfInBounds_toArray, List.set_cons_zero, List.set_cons_succ]
      go_simp
      refine hK _ _ ⟨rfl, Kept.refl _, ?_⟩
      show _ = _
      simp only [List.getD_cons_zero, List.getD_cons_succ, Array.getD_eq_getD_getElem?, List.getElem?_toArray, List.getElem?_cons_zero, List.getElem?_cons_succ, Option.getD_some]
      rfl
    case r1o15 =>
      intro w1 hG
      intro v10 h10
      change _ = _ at h10
      subst h10
      intro v14 h14
      change _ = _ at h14
      subst h14
      refine turn_on (by rfl) ?_
      intro K hK
      simp only [List.getD_cons_zero, List.getD_cons_succ, List.setIfInBounds_toArray, List.set_cons_zero, List.set_cons_succ]
      go_simp
      refine hK _ _ ⟨rfl, Kept.refl _, ?_⟩
      show _ = _
      simp only [List.getD_cons_zero, List.getD_cons_succ, Array.getD_eq_getD_getElem?, List.getElem?_toArray, List.getElem?_cons_zero, List.getElem?_cons_succ, Option.getD_some]
      rfl
    case r1o16 =>
      intro w1 hG
      intro v15 h15
      change _ = _ at h15
      subst h15
      refine turn_on (by rfl) ?_
      intro K hK
      simp only [List.getD_cons_zero, List.getD_cons_succ, List.setIfInBounds_toArray, List.set_cons_zero, List.set_cons_succ]
      go_simp
      refine hK _ _ ⟨rfl, Kept.refl _, ?_⟩
      show _ = _
      simp only [List.getD_cons_zero, List.getD_cons_succ, Array.getD_eq_getD_getElem?, List.getElem?_toArray, List.getElem?_cons_zero, List.getElem?_cons_succ, Option.getD_some]
      rfl
    case r1o17 =>
      intro w1 hG
      intro v16 h16
      change _ = _ at h16
      subst h16
      refine turn_on (by rfl) ?_
      intro K hK
      simp only [List.getD_cons_zero, List.getD_cons_succ, List.setIfInBounds_toArray, List.set_cons_zero, List.set_cons_succ]
      go_simp
      refine hK _ _ ⟨rfl, Kept.refl _, ?_⟩
      show _ = _
      simp only [List.getD_cons_zero, List.getD_cons_succ, Array.getD_eq_getD_getElem?, List.getElem?_toArray, List.getElem?_cons_zero, List.getElem?_cons_succ, Option.getD_some]
      rfl
    case r1o18 =>
      intro w1 hG
      intro v16 h16
      change _ = _ at h16
      subst h16
      refine turn_on (by rfl) ?_
      intro K hK
      simp only [List.getD_cons_zero, List.getD_cons_succ, List.setIfInBounds_toArray, List.set_cons_zero, List.set_cons_succ]
      go_simp
      refine hK _ _ ⟨rfl, Kept.refl _, ?_⟩
      show _ = _
      simp only [List.getD_cons_zero, List.getD_cons_succ, Array.getD_eq_getD_getElem?, List.getElem?_toArray, List.getElem?_cons_zero, List.getElem?_cons_succ, Option.getD_some]
      rfl
    case r1o19 =>
      intro w1 hG
      intro v16 h16
      change _ = _ at h16
      subst h16
      intro v17 h17
      change _ = _ at h17
      subst h17
      intro v18 h18
      change _ = _ at h18
      subst h18
      refine turn_on (by rfl) ?_
      intro K hK
      simp only [List.getD_cons_zero, List.getD_cons_succ, List.setIfInBounds_toArray, List.set_cons_zero, List.set_cons_succ]
      go_simp
      refine hK _ _ ⟨rfl, Kept.refl _, ?_⟩
      show _ = _
      simp only [List.getD_cons_zero, List.getD_cons_succ, Array.getD_eq_getD_getElem?, List.getElem?_toArray, List.getElem?_cons_zero, List.getElem?_cons_succ, Option.getD_some]
      rfl
    case r1o20 =>
      intro w1 hG
      intro v16 h16
      change _ = _ at h16
      subst h16
      intro v19 h19
      change _ = _ at h19
      subst h19
      refine turn_on (by rfl) ?_
      intro K hK
      simp only [List.getD_cons_zero, List.getD_cons_succ, List.setIfInBounds_toArray, List.set_cons_zero, List.set_cons_succ]
      go_simp
      refine hK _ _ ⟨rfl, Kept.refl _, ?_⟩
      show _ = _
      simp only [List.getD_cons_zero, List.getD_cons_succ, Array.getD_eq_getD_getElem?, List.getElem?_toArray, List.getElem?_cons_zero, List.getElem?_cons_succ, Option.getD_some]
      rfl
  intro w1 hG
  intro v0 h0
  change _ = _ at h0
  subst h0
  intro v1 h1
  change _ = _ at h1
  subst h1
  intro v2 h2
  change _ = _ at h2
  subst h2
  intro v3 h3
  change _ = _ at h3
  subst h3
  intro v4 h4
  change _ = _ at h4
  subst h4
  intro v5 h5
  change _ = _ at h5
  subst h5
  intro v6 h6
  change _ = _ at h6
  subst h6
  intro v7 h7
  change _ = _ at h7
  subst h7
  intro v8 h8
  change _ = _ at h8
  subst h8
  intro v9 h9
  change _ = _ at h9
  subst h9
  intro v10 h10
  change _ = _ at h10
  subst h10
  intro v11 h11
  change _ = _ at h11
  subst h11
  intro v12 h12
  change _ = _ at h12
  subst h12
  intro v13 h13
  change _ = _ at h13
  subst h13
  intro v14 h14
  change _ = _ at h14
  subst h14
  intro v15 h15
  change _ = _ at h15
  subst h15
  intro v16 h16
  change _ = _ at h16
  subst h16
  intro v17 h17
  change _ = _ at h17
  subst h17
  intro v18 h18
  change _ = _ at h18
  subst h18
  intro v19 h19
  change _ = _ at h19
  subst h19
  intro v20 h20
  change _ = _ at h20
  subst h20
  simp only [Given, List.getD_cons_zero, List.getD_cons_succ, List.setIfInBounds_toArray, List.set_cons_zero, List.set_cons_succ]
  have RA9 := Lib.hid (row_keep (w := w8.drew) RA8.out hG)
  have RT9 := Lib.hid (row_keep (w := w8.drew) RT8.out hG)
  have B9 := Lib.hid (Below.call hBd hG)
  have Y9 := Lib.hid (Y8.out.keptD hG)
  obtain ⟨w9, hw9⟩ : ∃ z, w1 = z := ⟨_, rfl⟩
  rw [hw9] at RA9 RT9 B9 Y9 ⊢
  clear hG hw9 hBd RA8 RT8 B8 Y8 X8 RD8 RW8
  obtain ⟨p0, p1, p2, p3, p4, p5, p6, p7, p8, p9, p10, p11, p12⟩ := cells13 RA9.out
  go_wp2_with fail
  clear p0 p1 p2 p3 p4 p5 p6 p7 p8 p9 p10 p11 p12
  have h1 := key_any (⟨m0, x0, x1, x2, x3, x4, x5, x6, x7, x8, xs, xn, xq⟩ : Blk) w9 HB.out
  have hkl : keyL (⟨m0, x0, x1, x2, x3, x4, x5, x6, x7, x8, xs, xn, xq⟩ : Blk) = if EA = 0 then putL (rnum (sumB VA)) 4 else [0, 0, 0, 0] := by unfold keyL; rw [HEA.out, HVA.out]
  obtain ⟨z0, z1, z2, z3, hky⟩ := key_four (⟨m0, x0, x1, x2, x3, x4, x5, x6, x7, x8, xs, xn, xq⟩ : Blk)
  rw [hky] at h1 hkl
  rw [show (⟨m0, x0, x1, x2, x3, x4, x5, x6, x7, x8, xs, xn, xq⟩ : Blk).val = .agg #[.int .u64 m0, .int .i64 x0, .int .i64 x1, .int .i64 x2, .int .i64 x3, .int .i64 x4, .int .i64 x5, .int .i64 x6, .int .i64 x7, .int .i64 x8, .int .i64 xs, .int .i64 xn, .int .u64 xq] from rfl, show keyV [z0, z1, z2, z3] = .agg #[.int .u8 z0, .int .u8 z1, .int .u8 z2, .int .u8 z3] from rfl] at h1
  refine h1.mono ?_
  rintro e w10 ⟨rfl, hb10⟩
  have HKL := Lib.hid hkl
  clear h1 hkl hky
  have RA10 := Lib.hid (row_keep RA9.out hb10)
  have RT10 := Lib.hid (row_keep RT9.out hb10)
  have B10 := Lib.hid (Below.call B9.out hb10)
  have Y10 := Lib.hid (Y9.out.below hb10)
  clear RA9 RT9 B9 Y9 hb10
  have hba : Below w10.heap.size w10 ((w10.alloc (.cells #[.int .u8 z0, .int .u8 z1, .int .u8 z2, .int .u8 z3] 42)).alloc (.cells #[.int .u8 0, .int .u8 0, .int .u8 0, .int .u8 0] 42)) := ((Below.refl _ _).alloc (Nat.le_refl _) _).alloc (by simp) _
  have hrk : ((w10.alloc (.cells #[.int .u8 z0, .int .u8 z1, .int .u8 z2, .int .u8 z3] 42)).alloc (.cells #[.int .u8 0, .int .u8 0, .int .u8 0, .int .u8 0] 42)).heap[w10.heap.size]? = some (.cells #[.int .u8 z0, .int .u8 z1, .int .u8 z2, .int .u8 z3] 42 (0, 0)) := by
    rw [heap_old _ _ (by simp)]
    exact heap_alloc_new _ _
  have hrz : ((w10.alloc (.cells #[.int .u8 z0, .int .u8 z1, .int .u8 z2, .int .u8 z3] 42)).alloc (.cells #[.int .u8 0, .int .u8 0, .int .u8 0, .int .u8 0] 42)).heap[w10.heap.size + 1]? = some (.cells #[.int .u8 0, .int .u8 0, .int .u8 0, .int .u8 0] 42 (0, 0)) := by
    have := heap_alloc_new (w10.alloc (.cells #[.int .u8 z0, .int .u8 z1, .int .u8 z2, .int .u8 z3] 42)) (.cells #[.int .u8 0, .int .u8 0, .int .u8 0, .int .u8 0] 42)
    simpa using this
  have RA11 := Lib.hid (row_keep RA10.out hba)
  have RT11 := Lib.hid (row_keep RT10.out hba)
  have B11 := Lib.hid (Below.call B10.out hba)
  have Y11 := Lib.hid (Y10.out.below hba)
  obtain ⟨w11, hw11⟩ : ∃ z, ((w10.alloc (.cells #[.int .u8 z0, .int .u8 z1, .int .u8 z2, .int .u8 z3] 42)).alloc (.cells #[.int .u8 0, .int .u8 0, .int .u8 0, .int .u8 0] 42)) = z := ⟨_, rfl⟩
  obtain ⟨kb, hkb⟩ : ∃ z, w10.heap.size = z := ⟨_, rfl⟩
  rw [hw11] at RA11 RT11 B11 Y11 hrk hrz
  rw [hkb] at hrk hrz
  have HAK : Hid (ab + 1 < kb) := by show _ < _; rw [← hkb]; exact (Array.getElem?_eq_some_iff.1 RT10.out).1
  have RK11 := Lib.hid hrk
  have RZ11 := Lib.hid hrz
  have HBK : Hid (w.heap.size ≤ kb) := by show _ ≤ _; rw [← hkb]; exact B10.out.size
  clear hba hrk hrz RA10 RT10 B10 Y10
  go_upto_if 68 with (first | (rw [hw11, hkb]) | fail)
  clear hw11 hkb
  go_cut [] (fun wc => Hid (SbSt w wc ab kb #[.int .u64 m0, .int .i64 x0, .int .i64 x1, .int .i64 x2, .int .i64 x3, .int .i64 x4, .int .i64 x5, .int .i64 x6, .int .i64 x7, .int .i64 x8, .int .i64 xs, .int .i64 xn, .int .u64 xq] #[.int .u64 k0, .int .i64 y0, .int .i64 y1, .int .i64 y2, .int .i64 y3, .int .i64 y4, .int .i64 y5, .int .i64 y6, .int .i64 y7, .int .i64 y8, .int .i64 ys, .int .i64 yn, .int .u64 yq] #[.int .u8 z0, .int .u8 z1, .int .u8 z2, .int .u8 z3]))
  case first =>
    by_cases h0 : EA = 0
    · subst h0
      go_wp2_with fail
      refine (refsum_any ay nx cy VA w11 Y11.out).mono ?_
      rintro e w' ⟨rfl, rfl⟩
      obtain ⟨S, hS⟩ : ∃ S, rnum (sumB VA) = S := ⟨_, rfl⟩
      have hS0 : 0 ≤ S ∧ S ≤ 4294967295 := by rw [← hS]; exact u32_bd _
      have hkl := HKL.out
      simp only [if_true, hS, putL_four hS0] at hkl
      rw [hS]
      injection hkl with q0 hkl
      injection hkl with q1 hkl
      injection hkl with q2 hkl
      injection hkl with q3 hkl
      have HZ0 := Lib.hid q0
      have HZ1 := Lib.hid q1
      have HZ2 := Lib.hid q2
      have HZ3 := Lib.hid q3
      clear hkl q0 q1 q2 q3 hS
      obtain ⟨hs1, hs2⟩ := hS0
      have f0 : IntKind.u8.wrap S = S % 256 := rfl
      obtain ⟨j0, j1, j2, j3⟩ := cells4 RZ11.out
      have hrf : ∀ i, w11.frozen? ⟨kb + 1, i, none⟩ = false := fun i => frozen_of_row w11 _ i _ _ RZ11.out
      go_wp2_with fail
      have hg := sets_grown (b := kb + 1) [(0, .int .u8 (S % 256)), (1, .int .u8 (S / 256 % 256)), (2, .int .u8 (S / 65536 % 256)), (3, .int .u8 (S / 16777216))] w11
      have hst : Hid (SbSt w (sets w11 (kb + 1) [(0, .int .u8 (S % 256)), (1, .int .u8 (S / 256 % 256)), (2, .int .u8 (S / 65536 % 256)), (3, .int .u8 (S / 16777216))]) ab kb #[.int .u64 m0, .int .i64 x0, .int .i64 x1, .int .i64 x2, .int .i64 x3, .int .i64 x4, .int .i64 x5, .int .i64 x6, .int .i64 x7, .int .i64 x8, .int .i64 xs, .int .i64 xn, .int .u64 xq] #[.int .u64 k0, .int .i64 y0, .int .i64 y1, .int .i64 y2, .int .i64 y3, .int .i64 y4, .int .i64 y5, .int .i64 y6, .int .i64 y7, .int .i64 y8, .int .i64 ys, .int .i64 yn, .int .u64 yq] #[.int .u8 z0, .int .u8 z1, .int .u8 z2, .int .u8 z3]) :=
        Lib.hid ⟨Below.grown B11.out hg B11.out.size (fun k e => by injection e with e; have := HBK.out; omega),
          (hg.block ab (Array.getElem?_eq_some_iff.1 RA11.out).1 (fun e => by injection e with e; have := HAK.out; omega)).trans RA11.out,
          (hg.block (ab + 1) (Array.getElem?_eq_some_iff.1 RT11.out).1 (fun e => by injection e with e; have := HAK.out; omega)).trans RT11.out,
          (hg.block kb (Array.getElem?_eq_some_iff.1 RK11.out).1 (fun e => by injection e with e; omega)).trans RK11.out,
          by rw [sets_row [(0, .int .u8 (S % 256)), (1, .int .u8 (S / 256 % 256)), (2, .int .u8 (S / 65536 % 256)), (3, .int .u8 (S / 16777216))] RZ11.out, fold4, HZ0.out, HZ1.out, HZ2.out, HZ3.out]⟩
      clear hg
      go_meet
      case rel => exact hst
    · have d0 : (EA == 0) = false := by simpa using h0
      have hkl := HKL.out
      rw [if_neg h0] at hkl
      injection hkl with q0 hkl
      injection hkl with q1 hkl
      injection hkl with q2 hkl
      injection hkl with q3 hkl
      have hst : Hid (SbSt w w11 ab kb #[.int .u64 m0, .int .i64 x0, .int .i64 x1, .int .i64 x2, .int .i64 x3, .int .i64 x4, .int .i64 x5, .int .i64 x6, .int .i64 x7, .int .i64 x8, .int .i64 xs, .int .i64 xn, .int .u64 xq] #[.int .u64 k0, .int .i64 y0, .int .i64 y1, .int .i64 y2, .int .i64 y3, .int .i64 y4, .int .i64 y5, .int .i64 y6, .int .i64 y7, .int .i64 y8, .int .i64 ys, .int .i64 yn, .int .u64 yq] #[.int .u8 z0, .int .u8 z1, .int .u8 z2, .int .u8 z3]) := Lib.hid ⟨B11.out, RA11.out, RT11.out, RK11.out, by rw [RZ11.out, q0, q1, q2, q3]⟩
      clear h0 hkl q0 q1 q2 q3
      go_wp2_with fail
      go_meet
      case rel => exact hst
  case rest =>
  have hbw : Below w.heap.size w wc.drew := belowD hcut.out.b 1
  have ht2 : m0.tmod 2 = m0 % 2 := Int.tmod_eq_emod_of_nonneg e1
  have hw2 : IntKind.i64.wrap (m0 % 2) = m0 % 2 := IntWalk.i64_in _ (by omega)
  clear B11 RA11 RT11 RK11 RZ11 Y11 HB HWA HAB HKL HVA HEA HNX HR1 HR2 HAK HBK
  go_wp2_with fail
  refine' reg_free (G := Kept) (pickF [eqV _, eqV _, eqV _, eqV _, eqV _, eqV _, eqV _, eqV _, eqV _, eqV _, eqV _, eqV _, eqV _, eqV _, eqV _, eqV _, eqV _, eqV _, eqV _, eqV _, eqV _, eqV _, eqV _, eqV _, eqV _]) [83, 84, 85, 86, 87, 88, 89, 90, 91, 92, 93, 94, 95, 96, 97, 98, 99, 100, 101, 102, 103, 104, 105, 106, 6] [[], [], [0, 1], [2], [3], [3, 4], [3, 5], [3], [3, 7], [3, 8], [3, 9], [3, 6, 10], [3, 11], [12], [13], [13], [13, 14, 15], [13], [13, 17], [13], [13, 19], [13, 18, 20], [13, 16, 21], [13, 22], [23]] [0, 1, 2, 3, 4, 5, 6, 7, 8, 9, 10, 11, 12, 13, 14, 15, 16, 17, 18, 19, 20, 21, 22, 23, 24] (by kernel_rfl) Kept.refl Kept.trans (pick_stays ⟨eqV_stays _, eqV_stays _, eqV_stays _, eqV_stays _, eqV_stays _, eqV_stays _, eqV_stays _, eqV_stays _, eqV_stays _, eqV_stays _, eqV_stays _, eqV_stays _, eqV_stays _, eqV_stays _, eqV_stays _, eqV_stays _, eqV_stays _, eqV_stays _, eqV_stays _, eqV_stays _, eqV_stays _, eqV_stays _, eqV_stays _, eqV_stays _, eqV_stays _, trivial⟩) 107 rfl (by kernel_rfl) (by kernel_rfl) rfl rfl ?r2obl ?r2fin
  case r2obl =>
    refine And.intro ?r2o0 (And.intro ?r2o1 (And.intro ?r2o2 (And.intro ?r2o3 (And.intro ?r2o4 (And.intro ?r2o5 (And.intro ?r2o6 (And.intro ?r2o7 (And.intro ?r2o8 (And.intro ?r2o9 (And.intro ?r2o10 (And.intro ?r2o11 (And.intro ?r2o12 (And.intro ?r2o13 (And.intro ?r2o14 (And.intro ?r2o15 (And.intro ?r2o16 (And.intro ?r2o17 (And.intro ?r2o18 (And.intro ?r2o19 (And.intro ?r2o20 (And.intro ?r2o21 (And.intro ?r2o22 (And.intro ?r2o23 (And.intro ?r2o24 (True.intro)))))))))))))))))))))))))
    case r2o0 =>
      intro w1 hG
      refine turn_on (by rfl) ?_
      intro K hK
      obtain ⟨j0, j1, j2, j3⟩ := cells4 (row_keep (w := wc.drew) hcut.out.rk hG)
      go_simp
      refine hK _ _ ⟨rfl, Kept.refl _, ?_⟩
      show _ = _
      simp only [List.getD_cons_zero, List.getD_cons_succ, Array.getD_eq_getD_getElem?, List.getElem?_toArray, List.getElem?_cons_zero, List.getElem?_cons_succ, Option.getD_some]
      rfl
    case r2o1 =>
      intro w1 hG
      refine turn_on (by rfl) ?_
      intro K hK
      obtain ⟨j0, j1, j2, j3⟩ := cells4 (row_keep (w := wc.drew) hcut.out.rw hG)
      go_simp
      refine hK _ _ ⟨rfl, Kept.refl _, ?_⟩
      show _ = _
      simp only [List.getD_cons_zero, List.getD_cons_succ, Array.getD_eq_getD_getElem?, List.getElem?_toArray, List.getElem?_cons_zero, List.getElem?_cons_succ, Option.getD_some]
      rfl
    case r2o2 =>
      intro w1 hG
      intro v0 h0
      change _ = _ at h0
      subst h0
      intro v1 h1
      change _ = _ at h1
      subst h1
      refine turn_on (by rfl) ?_
      intro K hK
      simp only [List.getD_cons_zero, List.getD_cons_succ, List.setIfInBounds_toArray, List.set_cons_zero, List.set_cons_succ]
      go_simp
      rw [eq_four w1 z0 z1 z2 z3 z0 z1 z2 z3]
      simp only [Result.andThen_ok, beq_self_eq_true, Bool.and_self]
      refine hK _ _ ⟨rfl, Kept.refl _, ?_⟩
      show _ = _
      simp only [List.getD_cons_zero, List.getD_cons_succ, Array.getD_eq_getD_getElem?, List.getElem?_toArray, List.getElem?_cons_zero, List.getElem?_cons_succ, Option.getD_some]
      rfl
    case r2o3 =>
      intro w1 hG
      intro v2 h2
      change _ = _ at h2
      subst h2
      refine turn_on (by rfl) ?_
      intro K hK
      simp only [List.getD_cons_zero, List.getD_cons_succ, List.setIfInBounds_toArray, List.set_cons_zero, List.set_cons_succ]
      go_simp
      refine hK _ _ ⟨rfl, Kept.refl _, ?_⟩
      show _ = _
      simp only [List.getD_cons_zero, List.getD_cons_succ, Array.getD_eq_getD_getElem?, List.getElem?_toArray, List.getElem?_cons_zero, List.getElem?_cons_succ, Option.getD_some]
      rfl
    case r2o4 =>
      intro w1 hG
      intro v3 h3
      change _ = _ at h3
      subst h3
      refine turn_on (by rfl) ?_
      intro K hK
      simp only [List.getD_cons_zero, List.getD_cons_succ, List.setIfInBounds_toArray, List.set_cons_zero, List.set_cons_succ]
      go_simp
      refine hK _ _ ⟨rfl, Kept.refl _, ?_⟩
      show _ = _
      simp only [List.getD_cons_zero, List.getD_cons_succ, Array.getD_eq_getD_getElem?, List.getElem?_toArray, List.getElem?_cons_zero, List.getElem?_cons_succ, Option.getD_some]
      rfl
    case r2o5 =>
      intro w1 hG
      intro v3 h3
      change _ = _ at h3
      subst h3
      intro v4 h4
      change _ = _ at h4
      subst h4
      refine turn_on (by rfl) ?_
      intro K hK
      simp only [List.getD_cons_zero, List.getD_cons_succ, List.setIfInBounds_toArray, List.set_cons_zero, List.set_cons_succ]
      obtain ⟨p0, p1, p2, p3, p4, p5, p6, p7, p8, p9, p10, p11, p12⟩ := cells13 (row_keep (w := wc.drew) hcut.out.ra hG)
      go_simp
      refine hK _ _ ⟨rfl, Kept.refl _, ?_⟩
      show _ = _
      simp only [List.getD_cons_zero, List.getD_cons_succ, Array.getD_eq_getD_getElem?, List.getElem?_toArray, List.getElem?_cons_zero, List.getElem?_cons_succ, Option.getD_some]
      rfl
    case r2o6 =>
      intro w1 hG
      intro v3 h3
      change _ = _ at h3
      subst h3
      intro v5 h5
      change _ = _ at h5
      subst h5
      refine turn_on (by rfl) ?_
      intro K hK
      simp only [List.getD_cons_zero, List.getD_cons_succ, List.setIfInBounds_toArray, List.set_cons_zero, List.set_cons_succ]
      go_simp
      refine Calls.mono (slot_any m0 w1 ⟨e1, e2⟩) ?_
      rintro e w' ⟨rfl, rfl⟩
      refine hK _ _ ⟨rfl, Kept.refl _, ?_⟩
      show _ = _
      simp only [List.getD_cons_zero, List.getD_cons_succ, Array.getD_eq_getD_getElem?, List.getElem?_toArray, List.getElem?_cons_zero, List.getElem?_cons_succ, Option.getD_some]
      rfl
    case r2o7 =>
      intro w1 hG
      intro v3 h3
      change _ = _ at h3
      subst h3
      refine turn_on (by rfl) ?_
      intro K hK
      simp only [List.getD_cons_zero, List.getD_cons_succ, List.setIfInBounds_toArray, List.set_cons_zero, List.set_cons_succ]
      go_simp
      refine hK _ _ ⟨rfl, Kept.refl _, ?_⟩
      show _ = _
      simp only [List.getD_cons_zero, List.getD_cons_succ, Array.getD_eq_getD_getElem?, List.getElem?_toArray, List.getElem?_cons_zero, List.getElem?_cons_succ, Option.getD_some]
      rfl
    case r2o8 =>
      intro w1 hG
      intro v3 h3
      change _ = _ at h3
      subst h3
      intro v7 h7
      change _ = _ at h7
      subst h7
      refine turn_on (by rfl) ?_
      intro K hK
      simp only [List.getD_cons_zero, List.getD_cons_succ, List.setIfInBounds_toArray, List.set_cons_zero, List.set_cons_succ]
      obtain ⟨p0, p1, p2, p3, p4, p5, p6, p7, p8, p9, p10, p11, p12⟩ := cells13 (row_keep (w := wc.drew) hcut.out.ra hG)
      go_simp
      refine hK _ _ ⟨rfl, Kept.refl _, ?_⟩
      show _ = _
      simp only [List.getD_cons_zero, List.getD_cons_succ, Array.getD_eq_getD_getElem?, List.getElem?_toArray, List.getElem?_cons_zero, List.getElem?_cons_succ, Option.getD_some]
      rfl
    case r2o9 =>
      intro w1 hG
      intro v3 h3
      change _ = _ at h3
      subst h3
      intro v8 h8
      change _ = _ at h8
      subst h8
      refine turn_on (by rfl) ?_
      intro K hK
      simp only [List.getD_cons_zero, List.getD_cons_succ, List.setIfInBounds_toArray, List.set_cons_zero, List.set_cons_succ]
      go_simp
      refine hK _ _ ⟨rfl, Kept.refl _, ?_⟩
      show _ = _
      simp only [List.getD_cons_zero, List.getD_cons_succ, Array.getD_eq_getD_getElem?, List.getElem?_toArray, List.getElem?_cons_zero, List.getElem?_cons_succ, Option.getD_some]
      rfl
    case r2o10 =>
      intro w1 hG
      intro v3 h3
      change _ = _ at h3
      subst h3
      intro v9 h9
      change _ = _ at h9
      subst h9
      refine turn_on (by rfl) ?_
      intro K hK
      simp only [List.getD_cons_zero, List.getD_cons_succ, List.setIfInBounds_toArray, List.set_cons_zero, List.set_cons_succ]
      go_simp
      refine hK _ _ ⟨rfl, Kept.refl _, ?_⟩
      show _ = _
      simp only [List.getD_cons_zero, List.getD_cons_succ, Array.getD_eq_getD_getElem?, List.getElem?_toArray, List.getElem?_cons_zero, List.getElem?_cons_succ, Option.getD_some]
      rfl
    case r2o11 =>
      intro w1 hG
      intro v3 h3
      change _ = _ at h3
      subst h3
      intro v6 h6
      change _ = _ at h6
      subst h6
      intro v10 h10
      change _ = _ at h10
      subst h10
      refine turn_on (by rfl) ?_
      intro K hK
      simp only [List.getD_cons_zero, List.getD_cons_succ, List.setIfInBounds_toArray, List.set_cons_zero, List.set_cons_succ]
      go_simp
      refine hK _ _ ⟨rfl, Kept.refl _, ?_⟩
      show _ = _
      simp only [List.getD_cons_zero, List.getD_cons_succ, Array.getD_eq_getD_getElem?, List.getElem?_toArray, List.getElem?_cons_zero, List.getElem?_cons_succ, Option.getD_some]
      rfl
    case r2o12 =>
      intro w1 hG
      intro v3 h3
      change _ = _ at h3
      subst h3
      intro v11 h11
      change _ = _ at h11
      subst h11
      refine turn_on (by rfl) ?_
      intro K hK
      simp only [List.getD_cons_zero, List.getD_cons_succ, List.setIfInBounds_toArray, List.set_cons_zero, List.set_cons_succ]
      go_simp
      refine hK _ _ ⟨rfl, Kept.refl _, ?_⟩
      show _ = _
      simp only [List.getD_cons_zero, List.getD_cons_succ, Array.getD_eq_getD_getElem?, List.getElem?_toArray, List.getElem?_cons_zero, List.getElem?_cons_succ, Option.getD_some]
      rfl
    case r2o13 =>
      intro w1 hG
      intro v12 h12
      change _ = _ at h12
      subst h12
      refine turn_on (by rfl) ?_
      intro K hK
      simp only [List.getD_cons_zero, List.getD_cons_succ, List.setIfInBounds_toArray, List.set_cons_zero, List.set_cons_succ]
      go_simp
      refine hK _ _ ⟨rfl, Kept.refl _, ?_⟩
      show _ = _
      simp only [List.getD_cons_zero, List.getD_cons_succ, Array.getD_eq_getD_getElem?, List.getElem?_toArray, List.getElem?_cons_zero, List.getElem?_cons_succ, Option.getD_some]
      rfl
    case r2o14 =>
      intro w1 hG
      intro v13 h13
      change _ = _ at h13
      subst h13
      refine turn_on (by rfl) ?_
      intro K hK
      simp only [List.getD_cons_zero, List.getD_cons_succ, List.setIfInBounds_toArray, List.set_cons_zero, List.set_cons_succ]
      obtain ⟨p0, p1, p2, p3, p4, p5, p6, p7, p8, p9, p10, p11, p12⟩ := cells13 (row_keep (w := wc.drew) hcut.out.ra hG)
      go_simp
      refine hK _ _ ⟨rfl, Kept.refl _, ?_⟩
      show _ = _
      simp only [List.getD_cons_zero, List.getD_cons_succ, Array.getD_eq_getD_getElem?, List.getElem?_toArray, List.getElem?_cons_zero, List.getElem?_cons_succ, Option.getD_some]
      rfl
    case r2o15 =>
      intro w1 hG
      intro v13 h13
      change _ = _ at h13
      subst h13
      refine turn_on (by rfl) ?_
      intro K hK
      simp only [List.getD_cons_zero, List.getD_cons_succ, List.setIfInBounds_toArray, List.set_cons_zero, List.set_cons_succ]
      obtain ⟨p0, p1, p2, p3, p4, p5, p6, p7, p8, p9, p10, p11, p12⟩ := cells13 (row_keep (w := wc.drew) hcut.out.ro hG)
      go_simp
      refine hK _ _ ⟨rfl, Kept.refl _, ?_⟩
      show _ = _
      simp only [List.getD_cons_zero, List.getD_cons_succ, Array.getD_eq_getD_getElem?, List.getElem?_toArray, List.getElem?_cons_zero, List.getElem?_cons_succ, Option.getD_some]
      rfl
    case r2o16 =>
      intro w1 hG
      intro v13 h13
      change _ = _ at h13
      subst h13
      intro v14 h14
      change _ = _ at h14
      subst h14
      intro v15 h15
      change _ = _ at h15
      subst h15
      refine turn_on (by rfl) ?_
      intro K hK
      simp only [List.getD_cons_zero, List.getD_cons_succ, List.setIfInBounds_toArray, List.set_cons_zero, List.set_cons_succ]
      go_simp
      have hnw : Calls Try.prog 17 #[.agg #[.int .u64 m0, .int .i64 x0, .int .i64 x1, .int .i64 x2, .int .i64 x3, .int .i64 x4, .int .i64 x5, .int .i64 x6, .int .i64 x7, .int .i64 x8, .int .i64 xs, .int .i64 xn, .int .u64 xq], .agg #[.int .u64 k0, .int .i64 y0, .int .i64 y1, .int .i64 y2, .int .i64 y3, .int .i64 y4, .int .i64 y5, .int .i64 y6, .int .i64 y7, .int .i64 y8, .int .i64 ys, .int .i64 yn, .int .u64 yq]] w1 (fun e w' => e = .returned (.bool (decide (k0 < m0))) ∧ Below w1.heap.size w1 w') := newer_any (⟨m0, x0, x1, x2, x3, x4, x5, x6, x7, x8, xs, xn, xq⟩ : Blk) (⟨k0, y0, y1, y2, y3, y4, y5, y6, y7, y8, ys, yn, yq⟩ : Blk) w1
      refine Calls.mono hnw ?_
      rintro e w2 ⟨rfl, hbx⟩
      refine hK _ _ ⟨rfl, hbx, ?_⟩
      show _ = _
      simp only [List.getD_cons_zero, List.getD_cons_succ, Array.getD_eq_getD_getElem?, List.getElem?_toArray, List.getElem?_cons_zero, List.getElem?_cons_succ, Option.getD_some]
      rfl
    case r2o17 =>
      intro w1 hG
      intro v13 h13
      change _ = _ at h13
      subst h13
      refine turn_on (by rfl) ?_
      intro K hK
      simp only [List.getD_cons_zero, List.getD_cons_succ, List.setIfInBounds_toArray, List.set_cons_zero, List.set_cons_succ]
      go_simp
      refine hK _ _ ⟨rfl, Kept.refl _, ?_⟩
      show _ = _
      simp only [List.getD_cons_zero, List.getD_cons_succ, Array.getD_eq_getD_getElem?, List.getElem?_toArray, List.getElem?_cons_zero, List.getElem?_cons_succ, Option.getD_some]
      rfl
    case r2o18 =>
      intro w1 hG
      intro v13 h13
      change _ = _ at h13
      subst h13
      intro v17 h17
      change _ = _ at h17
      subst h17
      refine turn_on (by rfl) ?_
      intro K hK
      simp only [List.getD_cons_zero, List.getD_cons_succ, List.setIfInBounds_toArray, List.set_cons_zero, List.set_cons_succ]
      obtain ⟨p0, p1, p2, p3, p4, p5, p6, p7, p8, p9, p10, p11, p12⟩ := cells13 (row_keep (w := wc.drew) hcut.out.ra hG)
      go_simp
      refine hK _ _ ⟨rfl, Kept.refl _, ?_⟩
      show _ = _
      simp only [List.getD_cons_zero, List.getD_cons_succ, Array.getD_eq_getD_getElem?, List.getElem?_toArray, List.getElem?_cons_zero, List.getElem?_cons_succ, Option.getD_some]
      rfl
    case r2o19 =>
      intro w1 hG
      intro v13 h13
      change _ = _ at h13
      subst h13
      refine turn_on (by rfl) ?_
      intro K hK
      simp only [List.getD_cons_zero, List.getD_cons_succ, List.setIfInBounds_toArray, List.set_cons_zero, List.set_cons_succ]
      go_simp
      refine hK _ _ ⟨rfl, Kept.refl _, ?_⟩
      show _ = _
      simp only [List.getD_cons_zero, List.getD_cons_succ, Array.getD_eq_getD_getElem?, List.getElem?_toArray, List.getElem?_cons_zero, List.getElem?_cons_succ, Option.getD_some]
      rfl
    case r2o20 =>
      intro w1 hG
      intro v13 h13
      change _ = _ at h13
      subst h13
      intro v19 h19
      change _ = _ at h19
      subst h19
      refine turn_on (by rfl) ?_
      intro K hK
      simp only [List.getD_cons_zero, List.getD_cons_succ, List.setIfInBounds_toArray, List.set_cons_zero, List.set_cons_succ]
      obtain ⟨p0, p1, p2, p3, p4, p5, p6, p7, p8, p9, p10, p11, p12⟩ := cells13 (row_keep (w := wc.drew) hcut.out.ro hG)
      go_simp
      refine hK _ _ ⟨rfl, Kept.refl _, ?_⟩
      show _ = _
      simp only [List.getD_cons_zero, List.getD_cons_succ, Array.getD_eq_getD_getElem?, List.getElem?_toArray, List.getElem?_cons_zero, List.getElem?_cons_succ, Option.getD_some]
      rfl
    case r2o21 =>
      intro w1 hG
      intro v13 h13
      change _ = _ at h13
      subst h13
      intro v18 h18
      change _ = _ at h18
      subst h18
      intro v20 h20
      change _ = _ at h20
      subst h20
      refine turn_on (by rfl) ?_
      intro K hK
      simp only [List.getD_cons_zero, List.getD_cons_succ, List.setIfInBounds_toArray, List.set_cons_zero, List.set_cons_succ]
      go_simp
      refine hK _ _ ⟨rfl, Kept.refl _, ?_⟩
      show _ = _
      simp only [List.getD_cons_zero, List.getD_cons_succ, Array.getD_eq_getD_getElem?, List.getElem?_toArray, List.getElem?_cons_zero, List.getElem?_cons_succ, Option.getD_some]
      rfl
    case r2o22 =>
      intro w1 hG
      intro v13 h13
      change _ = _ at h13
      subst h13
      intro v16 h16
      change _ = _ at h16
      subst h16
      intro v21 h21
      change _ = _ at h21
      subst h21
      refine turn_on (by rfl) ?_
      intro K hK
      simp only [List.getD_cons_zero, List.getD_cons_succ, List.setIfInBounds_toArray, List.set_cons_zero, List.set_cons_succ]
      go_simp
      refine hK _ _ ⟨rfl, Kept.refl _, ?_⟩
      show _ = _
      simp only [List.getD_cons_zero, List.getD_cons_succ, Array.getD_eq_getD_getElem?, List.getElem?_toArray, List.getElem?_cons_zero, List.getElem?_cons_succ, Option.getD_some]
      rfl
    case r2o23 =>
      intro w1 hG
      intro v13 h13
      change _ = _ at h13
      subst h13
      intro v22 h22
      change _ = _ at h22
      subst h22
      refine turn_on (by rfl) ?_
      intro K hK
      simp only [List.getD_cons_zero, List.getD_cons_succ, List.setIfInBounds_toArray, List.set_cons_zero, List.set_cons_succ]
      go_simp
      refine hK _ _ ⟨rfl, Kept.refl _, ?_⟩
      show _ = _
      simp only [List.getD_cons_zero, List.getD_cons_succ, Array.getD_eq_getD_getElem?, List.getElem?_toArray, List.getElem?_cons_zero, List.getElem?_cons_succ, Option.getD_some]
      rfl
    case r2o24 =>
      intro w1 hG
      intro v23 h23
      change _ = _ at h23
      subst h23
      refine turn_on (by rfl) ?_
      intro K hK
      simp only [List.getD_cons_zero, List.getD_cons_succ, List.setIfInBounds_toArray, List.set_cons_zero, List.set_cons_succ]
      go_simp
      refine hK _ _ ⟨rfl, Kept.refl _, ?_⟩
      show _ = _
      simp only [List.getD_cons_zero, List.getD_cons_succ, Array.getD_eq_getD_getElem?, List.getElem?_toArray, List.getElem?_cons_zero, List.getElem?_cons_succ, Option.getD_some]
      rfl
  intro w1 hG
  intro v0 h0
  change _ = _ at h0
  subst h0
  intro v1 h1
  change _ = _ at h1
  subst h1
  intro v2 h2
  change _ = _ at h2
  subst h2
  intro v3 h3
  change _ = _ at h3
  subst h3
  intro v4 h4
  change _ = _ at h4
  subst h4
  intro v5 h5
  change _ = _ at h5
  subst h5
  intro v6 h6
  change _ = _ at h6
  subst h6
  intro v7 h7
  change _ = _ at h7
  subst h7
  intro v8 h8
  change _ = _ at h8
  subst h8
  intro v9 h9
  change _ = _ at h9
  subst h9
  intro v10 h10
  change _ = _ at h10
  subst h10
  intro v11 h11
  change _ = _ at h11
  subst h11
  intro v12 h12
  change _ = _ at h12
  subst h12
  intro v13 h13
  change _ = _ at h13
  subst h13
  intro v14 h14
  change _ = _ at h14
  subst h14
  intro v15 h15
  change _ = _ at h15
  subst h15
  intro v16 h16
  change _ = _ at h16
  subst h16
  intro v17 h17
  change _ = _ at h17
  subst h17
  intro v18 h18
  change _ = _ at h18
  subst h18
  intro v19 h19
  change _ = _ at h19
  subst h19
  intro v20 h20
  change _ = _ at h20
  subst h20
  intro v21 h21
  change _ = _ at h21
  subst h21
  intro v22 h22
  change _ = _ at h22
  subst h22
  intro v23 h23
  change _ = _ at h23
  subst h23
  intro v24 h24
  change _ = _ at h24
  subst h24
  simp only [Given, List.getD_cons_zero, List.getD_cons_succ, List.setIfInBounds_toArray, List.set_cons_zero, List.set_cons_succ]
  go_wp2_with fail
  go_ret
  exact ⟨rfl, Below.call hbw hG⟩
set_option maxRecDepth 100000 in
theorem superBytes_walk (b : Blk) (a : Option Addr) (n c : Nat) (l : List Int) (o : Blk) (w : World) (hb : b.Wf) (hl : RdAt .u8 w a n c l) (ho : o.Wf) :
    Calls Try.prog 3 #[b.val, .slice a n c, o.val] w fun e w' => e = .returned (.bool true) ∧ Below w.heap.size w w' := by
  by_cases h : 8192 < n
  · exact superbytes_long b a n c l o w hb hl ho h
  · exact superbytes_in b a n c l o w hb hl ho (by omega)
end Go.Proofs.Ytcbnebcooiagmaa
namespace Go.Proofs.Ytcbnebcooiagmaa.superBytes
open Go.ChangeShapes Go.WideShapes Go.ChangeAt Go.RowKit
set_option linter.unusedVariables false

set_option maxRecDepth 100000 in
theorem own : ownKnob Try.prog.godebug = none := by kernel_rfl
set_option maxRecDepth 100000 in
theorem laidOut : laidOutB Try.prog = true := by kernel_rfl

set_option maxRecDepth 100000 in
theorem lifted (os : Os) (started : os.Started) (H : Type) (enc : TypeId × Value → H) :
    ReturnsInHanded {} Try.checked os 3 .any (Rows.superBytesSpec.pre6 enc Try.prog Try.f3 Rows.superBytesRow.domain false) (Rows.superBytesSpec.post enc Try.prog Try.f3 false true false false) := by
  refine returnsInHanded_of_change (C := Try.checked) own started (by kernel_rfl) Try.func3
    (ChangeSpec.witness6 (enc := enc) (C := Try.checked) false ⟨#[], #[.agg #[.int .u64 0, .int .i64 0, .int .i64 0, .int .i64 0, .int .i64 0, .int .i64 0, .int .i64 0, .int .i64 0, .int .i64 0, .int .i64 0, .int .i64 0, .int .i64 0, .int .u64 0], .slice none 0 0, .agg #[.int .u64 0, .int .i64 0, .int .i64 0, .int .i64 0, .int .i64 0, .int .i64 0, .int .i64 0, .int .i64 0, .int .i64 0, .int .i64 0, .int .i64 0, .int .i64 0, .int .u64 0]], []⟩ 8 (by kernel_rfl) (by kernel_rfl) (by kernel_rfl) (by kernel_rfl)) ?_
  intro W base args ds gs before hval0 hW hcnd _
  have hval : ∀ (j : Nat) t v, Try.f3.params[j]? = some t → args[j]? = some v → Value.okWide Try.prog W .any base t v := hval0
  have hW' := hW
  obtain ⟨p, q, hA0, hV, rfl, hfz, hnd⟩ := hW
  have hA : DataW.TrodAll enc Try.prog W 0 (fun _ => true) true Try.f3.params.toList args.toList ds p := hA0
  rw [Try.params3] at hA hval
  obtain ⟨v0, vs0, d0, ds0, p0, q0, hargs, rfl, rfl, h0, r0⟩ := trodAll_cons hA
  obtain ⟨v1, vs1, d1, ds1, p1, q1, rfl, rfl, rfl, h1, r1⟩ := trodAll_cons r0
  obtain ⟨v2, vs2, d2, ds2, p2, q2, rfl, rfl, rfl, h2, r2⟩ := trodAll_cons r1
  obtain ⟨rfl, rfl, rfl⟩ := trodAll_nil r2
  obtain rfl : args = #[v0, v1, v2] := by cases args; simp_all
  obtain ⟨rfl, rfl⟩ := trodVars_none hV
  have k0 := h0
  have lt0 : ∀ x ∈ p0, x.block < W.heap.size := by obtain ⟨m, hm⟩ := k0; exact DataW.trod_lt m _ _ _ hm
  obtain ⟨b0, rfl, w0⟩ := open_blk Try.underlying28 (by kernel_rfl) (u := 22) (cT := 24) (aT := 26) (e := 3) (by kernel_rfl) Try.underlying22 Try.underlying24 (by kernel_rfl) Try.underlying26 (by kernel_rfl) Try.underlying3 (hval 0 28 v0 rfl rfl) h0
  obtain ⟨a1, len1, cap1, rfl⟩ := okWide_slice Try.underlying29 (hval 1 29 v1 rfl rfl)
  have k1 := h1
  have lt1 : ∀ x ∈ p1, x.block < W.heap.size := by obtain ⟨m, hm⟩ := k1; exact DataW.trod_lt m _ _ _ hm
  obtain ⟨z1, w1⟩ : ∃ zs, RdAt .u8 W a1 len1 cap1 zs := by
    obtain ⟨fuel, hf⟩ := h1
    rcases open_ints Try.underlying29 Try.underlying5 (by kernel_rfl) hf with ⟨hcs, _⟩ | ⟨x, l, c, zs, hcs, _, hl, hm, hz, _, hcell, hwz⟩
    · simp [Value.cells] at hcs
      obtain ⟨rfl, rfl, rfl⟩ := hcs
      exact ⟨[], RdAt.nil _ _⟩
    · simp [Value.cells] at hcs
      obtain ⟨rfl, rfl, rfl⟩ := hcs
      exact ⟨_, RdAt.of_row hl hm (by simpa using hz) hcell hwz⟩
  have k2 := h2
  have lt2 : ∀ x ∈ p2, x.block < W.heap.size := by obtain ⟨m, hm⟩ := k2; exact DataW.trod_lt m _ _ _ hm
  obtain ⟨b2, rfl, w2⟩ := open_blk Try.underlying28 (by kernel_rfl) (u := 22) (cT := 24) (aT := 26) (e := 3) (by kernel_rfl) Try.underlying22 Try.underlying24 (by kernel_rfl) Try.underlying26 (by kernel_rfl) Try.underlying3 (hval 2 28 v2 rfl rfl) h2
  clear hA0 hval0
  refine (superBytes_walk b0 a1 len1 cap1 z1 b2 W w0 w1 w2).mono fun e W' ⟨he, bel⟩ => ?_
  subst he
  exact ⟨_, rfl, _, _, _, [], _, [], hW', trodAll_mk1 (shut_bool Try.underlying4 _), (trodAll_cons_mk (Below.trod laidOut (by kernel_rfl) (of_decide_eq_true (by kernel_rfl)) k0 bel lt0) (trodAll_cons_mk (Below.trod laidOut (by kernel_rfl) (of_decide_eq_true (by kernel_rfl)) k1 bel lt1) (trodAll_cons_mk (Below.trod laidOut (by kernel_rfl) (of_decide_eq_true (by kernel_rfl)) k2 bel lt2) trodAll_mk0))), rfl, bel.frame _, fun h => by cases h⟩

set_option maxRecDepth 100000 in
theorem over : Rows.superBytesRow.holds Try.pinned (OpenSpec.ofChange Rows.superBytesSpec) :=
  OpenClaim.holds_of_wide 3 Try.f3 rfl rfl rfl rfl rfl rfl rfl ⟨rfl, rfl, rfl, rfl, rfl⟩ rfl rfl rfl rfl rfl (by kernel_rfl) Try.func3 (by kernel_rfl)
    (of_decide_eq_true (by kernel_rfl)) (by unfold Func.isWrapper; first | (rw [if_pos (by decide +kernel)]; kernel_rfl) | (rw [if_neg (by decide +kernel)]; exact ⟨rfl, rfl⟩))
    (fun os started H enc _ => lifted os started H enc)

/-- SuperBytes holds for every input. -/
theorem proved : Rows.SuperBytesSaid := over
end Go.Proofs.Ytcbnebcooiagmaa.superBytes
