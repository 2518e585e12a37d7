/- Joined: the reference's super: Decode. disk: the power, Cut, Flush, New. disk: goes, bytes, Read. -/
import Derived.Test.YtcbnebcooiagmaaJc14
import Derived.Test.YtcbnebcooiagmaaJc13
import Derived.Test.YtcbnebcooiagmaaJc3
import Derived.OwnWalk
import Derived.Carry
namespace Go.Proofs.Ytcbnebcooiagmaa
open Go.RowKit
theorem magic_is {M : List Int} (hb : Bytes M) : ((strOfNums M).toList == [65, 76, 77, 65, 78, 65, 67, 49]) = decide (M = magicL) := by
  have e : (strOfNums magicL).toList = [65, 76, 77, 65, 78, 65, 67, 49] := by rw [ByteArray.toList_eq, strOfNums_data]; rfl
  rw [← e]
  by_cases h : M = magicL
  · rw [h]; simp
  · rw [decide_eq_false h]
    rw [beq_eq_false_iff_ne]
    exact fun e2 => h (str_inj hb (by intro y hy; simp [magicL] at hy; omega) e2)
theorem no8 (x0 x1 x2 x3 x4 x5 x6 x7 x8 x9 x10 x11 x12 v : Int) (i : Nat) : (#[Value.int .u64 x0, .int .i64 x1, .int .i64 x2, .int .i64 x3, .int .i64 x4, .int .i64 x5, .int .i64 x6, .int .i64 x7, .int .i64 x8, .int .i64 x9, .int .i64 x10, .int .i64 x11, .int .u64 x12] : Array Value)[i]? ≠ some (.int .u8 v) := by
  intro h
  rcases i with _ | _ | _ | _ | _ | _ | _ | _ | _ | _ | _ | _ | _ | i <;> simp at h
theorem RRIn.apartB {w w' : World} {h bb : Nat} {l : List Int} {e : Int} {T : TypeId} {x0 x1 x2 x3 x4 x5 x6 x7 x8 x9 x10 x11 x12 : Int} (r : RRIn w h l e) (row : w.heap[bb]? = some (.cells #[.int .u64 x0, .int .i64 x1, .int .i64 x2, .int .i64 x3, .int .i64 x4, .int .i64 x5, .int .i64 x6, .int .i64 x7, .int .i64 x8, .int .i64 x9, .int .i64 x10, .int .i64 x11, .int .u64 x12] T (0, 0))) (hg : w.grownBy w' (some bb)) (hk : h ≠ bb) : RRIn w' h l e := by
  obtain ⟨a, n, c, r⟩ := r
  refine ⟨a, n, c, r.apart hg hk (fun q hq hn hb => ?_)⟩
  obtain ⟨b, o, e1, hc⟩ := r.rd.cell 0 hn
  rw [hq] at e1
  injection e1 with e1
  subst e1
  replace hb : b = bb := hb
  subst hb
  rw [cell_of_row w _ _ _ _ _ row] at hc
  exact no8 _ _ _ _ _ _ _ _ _ _ _ _ _ _ _ hc
set_option linter.unusedSimpArgs false in
set_option linter.unusedVariables false in
set_option maxRecDepth 100000 in
set_option maxHeartbeats 8000000 in
theorem refdec_short (a : Option Addr) (n c : Nat) (s : List Int) (w : World) (hr : RdAt .u8 w a n c s) (hn : n ≤ 100000) (h : n < 64) :
    Calls Try.prog 13 #[.slice a n c] w fun e w' => e = .returned (.tuple #[(refD s).val, .int .i64 (refDE s)]) ∧ Below w.heap.size w w' := by
  have hE : refDE s = 23 := by unfold refDE; rw [if_pos (.inl (by rw [hr.len]; exact h))]
  have hD : refD s = blk0 := by unfold refD; rw [if_neg (by rw [hE]; decide)]
  rw [hE, hD]
  clear hE hD hr
  go_enter Try.func13, Try.ntmps13
  go_wp2_with fail
  refine bodyPost_ret (v := .tuple #[.agg #[.int .u64 0, .int .i64 0, .int .i64 0, .int .i64 0, .int .i64 0, .int .i64 0, .int .i64 0, .int .i64 0, .int .i64 0, .int .i64 0, .int .i64 0, .int .i64 0, .int .u64 0], .int .i64 23]) (by simp [results, Try.results13, go_sem]) rfl ⟨rfl, (Below.refl _ _).alloc (Nat.le_refl _) _⟩
set_option linter.unusedSimpArgs false in
set_option linter.unusedVariables false in
set_option maxRecDepth 100000 in
set_option maxHeartbeats 8000000 in
theorem refdec_unsealed (a : Option Addr) (n c : Nat) (s : List Int) (w : World) (hr : RdAt .u8 w a n c s) (hn : n ≤ 100000) (h : 64 ≤ n) (ho : openOk s = false) :
    Calls Try.prog 13 #[.slice a n c] w fun e w' => e = .returned (.tuple #[(refD s).val, .int .i64 (refDE s)]) ∧ Below w.heap.size w w' := by
  have hE : refDE s = 23 := by unfold refDE; rw [if_pos (.inr ho)]
  have hD : refD s = blk0 := by unfold refD; rw [if_neg (by rw [hE]; decide)]
  have hoe : openE s = 23 := by unfold openE; rw [if_neg (by rw [hr.len]; omega), if_neg (by rw [ho]; decide)]
  have hol : openL s = [] := by unfold openL; rw [if_neg (by rw [ho]; decide)]
  have HOE := Lib.hid hoe
  have HOL := Lib.hid hol
  rw [hE, hD]
  clear hE hD hoe hol ho
  have hba : Below w.heap.size w (w.alloc (.cells #[.int .u64 0, .int .i64 0, .int .i64 0, .int .i64 0, .int .i64 0, .int .i64 0, .int .i64 0, .int .i64 0, .int .i64 0, .int .i64 0, .int .i64 0, .int .i64 0, .int .u64 0] 36)) := (Below.refl _ _).alloc (Nat.le_refl _) _
  have hrow := heap_alloc_new w (.cells #[.int .u64 0, .int .i64 0, .int .i64 0, .int .i64 0, .int .i64 0, .int .i64 0, .int .i64 0, .int .i64 0, .int .i64 0, .int .i64 0, .int .i64 0, .int .i64 0, .int .u64 0] 36)
  have hr1 := hr.below hba
  have hrb0 := fun w' (b : Below w.heap.size w w') => hr.below b
  obtain ⟨rb, hrb⟩ : ∃ rb, w.heap.size = rb := ⟨_, rfl⟩
  obtain ⟨wa, hwa⟩ : ∃ wa, w.alloc (.cells #[.int .u64 0, .int .i64 0, .int .i64 0, .int .i64 0, .int .i64 0, .int .i64 0, .int .i64 0, .int .i64 0, .int .i64 0, .int .i64 0, .int .i64 0, .int .i64 0, .int .u64 0] 36) = wa := ⟨_, rfl⟩
  rw [hwa, hrb] at hba hrow
  rw [hwa] at hr1
  rw [hrb] at hrb0
  have HBA := Lib.hid hba
  have HROW := Lib.hid hrow
  have HRB := Lib.hid hrb
  have HWA := Lib.hid hwa
  have HR1 := Lib.hid hr1
  have HS := Lib.hid hrb0
  have HLEN := Lib.hid hr.len
  have hlt : rb < wa.heap.size := (Array.getElem?_eq_some_iff.1 hrow).1
  clear hba hrow hrb hwa hr1 hrb0 hr
  go_enter Try.func13, Try.ntmps13
  go_wp2_with fail
  rw [HWA.out, HRB.out]
  refine (refopen_any a n c s wa HR1.out (by omega)).mono ?_
  rintro e w1 ⟨v1, rfl, ho1, hb1⟩
  rw [HOE.out]
  rw [HOL.out] at ho1
  obtain ⟨a1, c1, rfl⟩ := ho1.shapeN 0 rfl
  have ROW1 := Lib.hid (row_keep HROW.out hb1)
  have B1 := Lib.hid (Below.trans HBA.out (hb1.mono (Nat.le_of_lt hlt)))
  clear ho1 hb1
  obtain ⟨r0, r1, r2, r3, r4, r5, r6, r7, r8, r9, r10, r11, r12⟩ := cells13 ROW1.out
  have hrf : ∀ i, w1.frozen? ⟨rb, i, none⟩ = false := fun i => frozen_of_row w1 rb i _ _ ROW1.out
  go_wp2_with fail
  change bodyPost _ _ _ _ _ (sets w1 rb [(0, .int .u64 0), (1, .int .i64 0), (2, .int .i64 0), (3, .int .i64 0), (4, .int .i64 0), (5, .int .i64 0), (6, .int .i64 0), (7, .int .i64 0), (8, .int .i64 0), (9, .int .i64 0), (10, .int .i64 0), (11, .int .i64 0), (12, .int .u64 0)])
  obtain ⟨hrow, hbel⟩ := res_end ROW1.out B1.out [(0, .int .u64 0), (1, .int .i64 0), (2, .int .i64 0), (3, .int .i64 0), (4, .int .i64 0), (5, .int .i64 0), (6, .int .i64 0), (7, .int .i64 0), (8, .int .i64 0), (9, .int .i64 0), (10, .int .i64 0), (11, .int .i64 0), (12, .int .u64 0)]
  generalize sets w1 rb [(0, .int .u64 0), (1, .int .i64 0), (2, .int .i64 0), (3, .int .i64 0), (4, .int .i64 0), (5, .int .i64 0), (6, .int .i64 0), (7, .int .i64 0), (8, .int .i64 0), (9, .int .i64 0), (10, .int .i64 0), (11, .int .i64 0), (12, .int .u64 0)] = w9 at *
  rw [fold13] at hrow
  clear r0 r1 r2 r3 r4 r5 r6 r7 r8 r9 r10 r11 r12 hrf
  obtain ⟨r0, r1, r2, r3, r4, r5, r6, r7, r8, r9, r10, r11, r12⟩ := cells13 hrow
  refine bodyPost_ret (v := .tuple #[.agg #[.int .u64 0, .int .i64 0, .int .i64 0, .int .i64 0, .int .i64 0, .int .i64 0, .int .i64 0, .int .i64 0, .int .i64 0, .int .i64 0, .int .i64 0, .int .i64 0, .int .u64 0], .int .i64 23]) (by simp [results, Try.results13, go_sem, r0, r1, r2, r3, r4, r5, r6, r7, r8, r9, r10, r11, r12]) rfl ?_
  rw [HRB.out]
  exact ⟨rfl, hbel⟩
set_option linter.unusedSimpArgs false in
set_option linter.unusedVariables false in
set_option maxRecDepth 100000 in
set_option maxHeartbeats 8000000 in
theorem refdec_long (a : Option Addr) (n c : Nat) (s : List Int) (w : World) (hr : RdAt .u8 w a n c s) (hn : n ≤ 100000) (h64 : 64 ≤ n) (ho : openOk s = true) :
    Calls Try.prog 13 #[.slice a n c] w fun e w' => e = .returned (.tuple #[(refD s).val, .int .i64 (refDE s)]) ∧ Below w.heap.size w w' := by
  have hoe : openE s = 0 := by unfold openE; rw [if_neg (by rw [hr.len]; omega), if_pos ho]
  have hol : openL s = front s := by unfold openL; rw [if_pos ho]; rfl
  have hbs := hr.bytes
  have HBS := Lib.hid hbs
  have HOK := Lib.hid ho
  have HOE := Lib.hid hoe
  have HOL := Lib.hid hol
  clear hoe hol ho hbs
  have hba : Below w.heap.size w (w.alloc (.cells #[.int .u64 0, .int .i64 0, .int .i64 0, .int .i64 0, .int .i64 0, .int .i64 0, .int .i64 0, .int .i64 0, .int .i64 0, .int .i64 0, .int .i64 0, .int .i64 0, .int .u64 0] 36)) := (Below.refl _ _).alloc (Nat.le_refl _) _
  have hrow := heap_alloc_new w (.cells #[.int .u64 0, .int .i64 0, .int .i64 0, .int .i64 0, .int .i64 0, .int .i64 0, .int .i64 0, .int .i64 0, .int .i64 0, .int .i64 0, .int .i64 0, .int .i64 0, .int .u64 0] 36)
  have hr1 := hr.below hba
  have hrb0 := fun w' (b : Below w.heap.size w w') => hr.below b
  obtain ⟨rb, hrb⟩ : ∃ rb, w.heap.size = rb := ⟨_, rfl⟩
  obtain ⟨wa, hwa⟩ : ∃ wa, w.alloc (.cells #[.int .u64 0, .int .i64 0, .int .i64 0, .int .i64 0, .int .i64 0, .int .i64 0, .int .i64 0, .int .i64 0, .int .i64 0, .int .i64 0, .int .i64 0, .int .i64 0, .int .u64 0] 36) = wa := ⟨_, rfl⟩
  rw [hwa, hrb] at hba hrow
  rw [hwa] at hr1
  rw [hrb] at hrb0
  have HBA := Lib.hid hba
  have HROW := Lib.hid hrow
  have HRB := Lib.hid hrb
  have HWA := Lib.hid hwa
  have HR1 := Lib.hid hr1
  have HS := Lib.hid hrb0
  have HLEN := Lib.hid hr.len
  have hlt : rb < wa.heap.size := (Array.getElem?_eq_some_iff.1 hrow).1
  clear hba hrow hrb hwa hr1 hrb0 hr
  obtain ⟨x, hx⟩ : ∃ x, front s = x := ⟨_, rfl⟩
  obtain ⟨nx, hnx⟩ : ∃ nx, n - 4 = nx := ⟨_, rfl⟩
  have hxl : x.length = nx := by rw [← hx]; unfold front; rw [List.length_take, HLEN.out]; omega
  have hbx : Bytes x := by rw [← hx]; exact front_bytes HBS.out
  have HX := Lib.hid hx
  have HXL := Lib.hid hxl
  have HBX := Lib.hid hbx
  have hn60 : 60 ≤ nx := by omega
  have hn61 : nx ≤ 100000 := by omega
  clear hx hnx hxl hbx
  go_enter Try.func13, Try.ntmps13
  go_wp2_with fail
  rw [HWA.out, HRB.out]
  refine (refopen_any a n c s wa HR1.out (by omega)).mono ?_
  rintro e w1 ⟨v1, rfl, ho1, hb1⟩
  rw [HOE.out]
  rw [HOL.out, HX.out] at ho1
  obtain ⟨a1, cx, rfl⟩ := ho1.shapeN nx HXL.out
  obtain ⟨gx, rfl, hgx1, hgx2, _, _⟩ := ho1.cellAt 0 (by rw [HXL.out]; omega)
  have hcx := ho1.rd.cap
  have hmx := ho1.rd.max
  unfold maxLen at hmx
  have h8 : ¬ cx = 8 := by omega
  have h16 : ¬ cx = 16 := by omega
  have h24 : ¬ cx = 24 := by omega
  obtain ⟨bb, hbb⟩ : ∃ bb, w1.heap.size = bb := ⟨_, rfl⟩
  have ST0 : Hid (DecSt 36 w (w1.alloc (.cells #[.int .u64 0, .int .i64 0, .int .i64 0, .int .i64 0, .int .i64 0, .int .i64 0, .int .i64 0, .int .i64 0, .int .i64 0, .int .i64 0, .int .i64 0, .int .i64 0, .int .u64 0] 36)) rb bb #[.int .u64 0, .int .i64 0, .int .i64 0, .int .i64 0, .int .i64 0, .int .i64 0, .int .i64 0, .int .i64 0, .int .i64 0, .int .i64 0, .int .i64 0, .int .i64 0, .int .u64 0] gx nx cx x) := by
    have hal := (Below.refl w1.heap.size w1).alloc (Nat.le_refl _) (.cells #[.int .u64 0, .int .i64 0, .int .i64 0, .int .i64 0, .int .i64 0, .int .i64 0, .int .i64 0, .int .i64 0, .int .i64 0, .int .i64 0, .int .i64 0, .int .i64 0, .int .u64 0] 36)
    refine ⟨row_keep (row_keep HROW.out hb1) hal, by rw [← hbb]; exact heap_alloc_new _ _, ho1.rd.below hal, Below.trans (Below.trans HBA.out (hb1.mono (Nat.le_of_lt hlt))) (hal.mono (by have := hb1.size; omega)), by omega⟩
  obtain ⟨w2, hw2⟩ : ∃ w2, w1.alloc (.cells #[.int .u64 0, .int .i64 0, .int .i64 0, .int .i64 0, .int .i64 0, .int .i64 0, .int .i64 0, .int .i64 0, .int .i64 0, .int .i64 0, .int .i64 0, .int .i64 0, .int .u64 0] 36) = w2 := ⟨_, rfl⟩
  rw [hw2] at ST0
  have HBB := Lib.hid hbb
  have HW2 := Lib.hid hw2
  clear hbb hw2 ho1 hb1 hgx1
  obtain ⟨EP, hEP⟩ : ∃ EP, getK (x.drop 8) 8 = EP := ⟨_, rfl⟩
  obtain ⟨SQ, hSQ⟩ : ∃ SQ, getK (x.drop 16) 8 = SQ := ⟨_, rfl⟩
  have HG8 : Hid (getV (x.drop 8) (nx - 8) 8 = EP) := by show _ = _; unfold getV getOk; rw [if_pos (by simp; omega)]; exact hEP
  have HG16 : Hid (getV (x.drop 16) (nx - 16) 8 = SQ) := by show _ = _; unfold getV getOk; rw [if_pos (by simp; omega)]; exact hSQ
  have HEP := Lib.hid hEP
  have HSQ := Lib.hid hSQ
  clear hEP hSQ
  have hrt := RdAt.take ST0.out.rd 8 (by omega)
  have k0 := conv_rd (P := Try.prog) u8T s8 su hrt
  obtain ⟨M, hM⟩ : ∃ M, x.take 8 = M := ⟨_, rfl⟩
  have hbm : Bytes M := by rw [← hM]; exact fun y hy => HBX.out y (List.mem_of_mem_take hy)
  have hmm := magic_is hbm
  rw [hM] at k0
  have HM := Lib.hid hM
  rw [← HW2.out] at k0
  clear hM hrt hbm
  have hlong := refDE_long (s := s) (by rw [HLEN.out]; exact h64) HOK.out
  rw [HX.out, HXL.out, HM.out] at hlong
  by_cases hmg : M = magicL
  rotate_left
  · have hE : refDE s = 22 := by rw [hlong]; exact if_neg (fun e => hmg e.1)
    have hD : refD s = blk0 := by unfold refD; rw [if_neg (by rw [hE]; decide)]
    have dM : ((strOfNums M).toList == [65, 76, 77, 65, 78, 65, 67, 49]) = false := by rw [hmm]; exact decide_eq_false hmg
    have HE := Lib.hid hE
    have HD := Lib.hid hD
    clear hE hD hlong hmm hmg
    have hra : (w1.alloc (.cells #[.int .u64 0, .int .i64 0, .int .i64 0, .int .i64 0, .int .i64 0, .int .i64 0, .int .i64 0, .int .i64 0, .int .i64 0, .int .i64 0, .int .i64 0, .int .i64 0, .int .u64 0] 36)).heap[rb]? = some (.cells #[.int .u64 0, .int .i64 0, .int .i64 0, .int .i64 0, .int .i64 0, .int .i64 0, .int .i64 0, .int .i64 0, .int .i64 0, .int .i64 0, .int .i64 0, .int .i64 0, .int .u64 0] 36 (0, 0)) := by rw [HW2.out]; exact ST0.out.res
    obtain ⟨r0, r1, r2, r3, r4, r5, r6, r7, r8, r9, r10, r11, r12⟩ := cells13 hra
    have hrf : ∀ i, (w1.alloc (.cells #[.int .u64 0, .int .i64 0, .int .i64 0, .int .i64 0, .int .i64 0, .int .i64 0, .int .i64 0, .int .i64 0, .int .i64 0, .int .i64 0, .int .i64 0, .int .i64 0, .int .u64 0] 36)).frozen? ⟨rb, i, none⟩ = false := fun i => frozen_of_row _ rb i _ _ hra
    clear hra
    go_wp2_with fail
    rw [HW2.out]
    change bodyPost _ _ _ _ _ (sets w2 rb [(0, .int .u64 0), (1, .int .i64 0), (2, .int .i64 0), (3, .int .i64 0), (4, .int .i64 0), (5, .int .i64 0), (6, .int .i64 0), (7, .int .i64 0), (8, .int .i64 0), (9, .int .i64 0), (10, .int .i64 0), (11, .int .i64 0), (12, .int .u64 0)])
    obtain ⟨hrow, hbel⟩ := res_end ST0.out.res ST0.out.below [(0, .int .u64 0), (1, .int .i64 0), (2, .int .i64 0), (3, .int .i64 0), (4, .int .i64 0), (5, .int .i64 0), (6, .int .i64 0), (7, .int .i64 0), (8, .int .i64 0), (9, .int .i64 0), (10, .int .i64 0), (11, .int .i64 0), (12, .int .u64 0)]
    generalize sets w2 rb [(0, .int .u64 0), (1, .int .i64 0), (2, .int .i64 0), (3, .int .i64 0), (4, .int .i64 0), (5, .int .i64 0), (6, .int .i64 0), (7, .int .i64 0), (8, .int .i64 0), (9, .int .i64 0), (10, .int .i64 0), (11, .int .i64 0), (12, .int .u64 0)] = w19 at *
    rw [fold13] at hrow
    clear r0 r1 r2 r3 r4 r5 r6 r7 r8 r9 r10 r11 r12 hrf
    obtain ⟨r0, r1, r2, r3, r4, r5, r6, r7, r8, r9, r10, r11, r12⟩ := cells13 hrow
    refine bodyPost_ret (v := .tuple #[.agg #[.int .u64 0, .int .i64 0, .int .i64 0, .int .i64 0, .int .i64 0, .int .i64 0, .int .i64 0, .int .i64 0, .int .i64 0, .int .i64 0, .int .i64 0, .int .i64 0, .int .u64 0], .int .i64 22]) (by simp [results, Try.results13, go_sem, r0, r1, r2, r3, r4, r5, r6, r7, r8, r9, r10, r11, r12]) rfl ?_
    rw [HE.out, HD.out, HRB.out]
    exact ⟨rfl, hbel⟩
  have dM : ((strOfNums M).toList == [65, 76, 77, 65, 78, 65, 67, 49]) = true := by rw [hmm]; exact decide_eq_true hmg
  have HMG := Lib.hid hmg
  have HLG := Lib.hid hlong
  clear hmm hmg hlong
  go_wp2_with fail
  rw [HW2.out, HBB.out]
  clear dM k0
  refine (rget_any (some ⟨gx, 8, none⟩) (nx - 8) (cx - 8) _ 8 w2 (show RdAt .u8 w2 (some ⟨gx, 8, none⟩) (nx - 8) (cx - 8) (x.drop 8) by have := ST0.out.rd.drop 8 (by omega); simpa using this)).mono ?_
  rintro e w' ⟨rfl, rfl⟩
  rw [HG8.out]
  obtain ⟨q0, q1, q2, q3, q4, q5, q6, q7, q8, q9, q10, q11, q12⟩ := cells13 ST0.out.blk
  have hbf : ∀ i, w2.frozen? ⟨bb, i, none⟩ = false := fun i => frozen_of_row w2 bb i _ _ ST0.out.blk
  go_wp2_with fail
  clear q0 q1 q2 q3 q4 q5 q6 q7 q8 q9 q10 q11 q12 hbf
  have ST1 : Hid (DecSt 36 w (sets w2 bb [(0, .int .u64 EP)]) rb bb #[.int .u64 EP, .int .i64 0, .int .i64 0, .int .i64 0, .int .i64 0, .int .i64 0, .int .i64 0, .int .i64 0, .int .i64 0, .int .i64 0, .int .i64 0, .int .i64 0, .int .u64 0] gx nx cx x) := ST0.out.set [(0, .int .u64 EP)]
  obtain ⟨w3, hw3⟩ : ∃ w3, sets w2 bb [(0, .int .u64 EP)] = w3 := ⟨_, rfl⟩
  rw [hw3] at ST1
  have HW3 := Lib.hid hw3
  clear hw3
  change Calls _ _ _ (sets w2 bb [(0, .int .u64 EP)]) _
  rw [HW3.out]
  refine (rget_any (some ⟨gx, 16, none⟩) (nx - 16) (cx - 16) _ 8 w3 (show RdAt .u8 w3 (some ⟨gx, 16, none⟩) (nx - 16) (cx - 16) (x.drop 16) by have := ST1.out.rd.drop 16 (by omega); simpa using this)).mono ?_
  rintro e w' ⟨rfl, rfl⟩
  rw [HG16.out]
  obtain ⟨q0, q1, q2, q3, q4, q5, q6, q7, q8, q9, q10, q11, q12⟩ := cells13 ST1.out.blk
  have hbf : ∀ i, w3.frozen? ⟨bb, i, none⟩ = false := fun i => frozen_of_row w3 bb i _ _ ST1.out.blk
  go_wp2_with fail
  clear q0 q1 q2 q3 q4 q5 q6 q7 q8 q9 q10 q11 q12 hbf
  have ST2 : Hid (DecSt 36 w (sets w3 bb [(12, .int .u64 SQ)]) rb bb #[.int .u64 EP, .int .i64 0, .int .i64 0, .int .i64 0, .int .i64 0, .int .i64 0, .int .i64 0, .int .i64 0, .int .i64 0, .int .i64 0, .int .i64 0, .int .i64 0, .int .u64 SQ] gx nx cx x) := ST1.out.set [(12, .int .u64 SQ)]
  obtain ⟨w4, hw4⟩ : ∃ w4, sets w3 bb [(12, .int .u64 SQ)] = w4 := ⟨_, rfl⟩
  rw [hw4] at ST2
  have HW4 := Lib.hid hw4
  clear hw4
  change Calls _ _ _ ((sets w3 bb [(12, .int .u64 SQ)]).alloc _) _
  rw [HW4.out]
  have hz : w3.heap.size = w4.heap.size := by rw [← HW4.out]; simp [sets]
  rw [hz]
  clear hz
  have hrd := (show RdAt .u8 w4 (some ⟨gx, 24, none⟩) (nx - 24) (cx - 24) (x.drop 24) by have := ST2.out.rd.drop 24 (by omega); simpa using this)
  have hal := (Below.refl w4.heap.size w4).alloc (Nat.le_refl _) (.cells #[.slice (some ⟨gx, 24, none⟩) (nx - 24) (cx - 24), .int .i64 0] 103)
  have R5a : RRIn (w4.alloc (.cells #[.slice (some ⟨gx, 24, none⟩) (nx - 24) (cx - 24), .int .i64 0] 103)) w4.heap.size (x.drop 24) 0 := RRIn.made (heap_alloc_new _ _) (hrd.below hal) (fun q hq _ => by injection hq with hq; rw [← hq]; have h1 := ST2.out.lt; have h2 := ST2.out.bbLt; show gx < _; omega)
  have ST3a := ST2.out.next hal
  have hbh : bb < w4.heap.size := ST2.out.bbLt
  obtain ⟨h, hh⟩ : ∃ h, w4.heap.size = h := ⟨_, rfl⟩
  obtain ⟨w5, hw5⟩ : ∃ w5, w4.alloc (.cells #[.slice (some ⟨gx, 24, none⟩) (nx - 24) (cx - 24), .int .i64 0] 103) = w5 := ⟨_, rfl⟩
  rw [hw5, hh] at R5a ⊢
  rw [hw5] at ST3a
  rw [hh] at hbh
  have R5 := Lib.hid R5a
  have ST3 := Lib.hid ST3a
  have HBH := Lib.hid hbh
  clear R5a ST3a hal hrd hbh hh hw5
  refine (rrBytes_any h nx (x.drop 24) 0 w5 R5.out (by rw [List.length_drop, HXL.out]; omega)).mono ?_
  rintro e w6 ⟨hg6, hr6, v6, rfl, ho6⟩
  obtain ⟨⟨E1, SH, l1⟩, hT1⟩ : ∃ T, rdFrom 0 [] (x.drop 24) (rdBytes nx (x.drop 24)) = T := ⟨_, rfl⟩
  rw [hT1] at hr6 ho6
  have hshl : SH.length ≤ 100000 := by
    have h1 := rdBytes_vlen nx (x.drop 24)
    rw [rdFrom_ok] at hT1
    rw [hT1, List.length_drop, HXL.out] at h1
    have h2 : SH.length ≤ nx - 24 := h1
    omega
  obtain ⟨ns, hns⟩ : ∃ ns, SH.length = ns := ⟨_, rfl⟩
  replace ho6 : Owns .u8 5 w6 w5.heap.size v6 SH := ho6
  obtain ⟨ash, csh, rfl⟩ := ho6.shapeN ns hns
  rw [hns] at hshl
  have HT1 := Lib.hid hT1
  have ST4 := Lib.hid (ST3.out.apart hg6 HBH.out)
  have R6 := Lib.hid hr6
  have O6 := Lib.hid ho6
  have HHL : Hid (h < w5.heap.size) := R5.out.lt
  clear hg6 hr6 ho6 hT1 hns
  go_wp2_with fail
  refine (rrInt_any h l1 E1 w6 R6.out).mono ?_
  rintro e w7 ⟨hg7, hr7, v7, rfl, hv7⟩
  obtain ⟨⟨E2, V1, l2⟩, hT2⟩ : ∃ T, rdFrom E1 0 l1 (rdInt l1) = T := ⟨_, rfl⟩
  rw [hT2] at hr7 hv7
  replace hv7 : v7 = .int .i64 V1 := hv7
  subst hv7
  have HT2 := Lib.hid hT2
  have ST5 := Lib.hid (ST4.out.apart hg7 HBH.out)
  have R7 := Lib.hid hr7
  have O7 := Lib.hid (O6.out.grown hg7 (fun g hg e => by have h1 := (O6.out.at_base g hg).1; have h2 := HHL.out; injection e with e; omega))
  clear hg7 hr7 hT2
  obtain ⟨q0, q1, q2, q3, q4, q5, q6, q7, q8, q9, q10, q11, q12⟩ := cells13 ST5.out.blk
  have hbf : ∀ i, w7.frozen? ⟨bb, i, none⟩ = false := fun i => frozen_of_row w7 bb i _ _ ST5.out.blk
  go_wp2_with fail
  clear q0 q1 q2 q3 q4 q5 q6 q7 q8 q9 q10 q11 q12 hbf
  have ST6 : Hid (DecSt 36 w (sets w7 bb [(10, .int .i64 V1)]) rb bb #[.int .u64 EP, .int .i64 0, .int .i64 0, .int .i64 0, .int .i64 0, .int .i64 0, .int .i64 0, .int .i64 0, .int .i64 0, .int .i64 0, .int .i64 V1, .int .i64 0, .int .u64 SQ] gx nx cx x) := ST5.out.set [(10, .int .i64 V1)]
  obtain ⟨w8, hw8⟩ : ∃ w8, sets w7 bb [(10, .int .i64 V1)] = w8 := ⟨_, rfl⟩
  rw [hw8] at ST6
  have HW8 := Lib.hid hw8
  clear hw8
  change Calls _ _ _ (sets w7 bb [(10, .int .i64 V1)]) _
  have R8 : Hid (RRIn w8 h l2 E2) := by
    show RRIn _ _ _ _
    rw [← HW8.out]
    exact R7.out.apartB ST5.out.blk (sets_grown _ _) (by have := HBH.out; omega)
  have O8 : Hid (Owns .u8 5 w8 w5.heap.size (.slice ash ns csh) SH) := by
    show Owns _ _ _ _ _ _
    rw [← HW8.out]
    exact O7.out.grown (sets_grown _ _) (fun g hg e => by have h1 := (O7.out.at_base g hg).1; have h2 := HHL.out; have h3 := HBH.out; injection e with e; omega)
  rw [HW8.out]
  refine (rrInt_any h l2 E2 w8 R8.out).mono ?_
  rintro e w9 ⟨hg9, hr9, v9, rfl, hv9⟩
  obtain ⟨⟨E3, V2, l3⟩, hT3⟩ : ∃ T, rdFrom E2 0 l2 (rdInt l2) = T := ⟨_, rfl⟩
  rw [hT3] at hr9 hv9
  replace hv9 : v9 = .int .i64 V2 := hv9
  subst hv9
  have HT3 := Lib.hid hT3
  have ST7 := Lib.hid (ST6.out.apart hg9 HBH.out)
  have R9 := Lib.hid hr9
  have O9 := Lib.hid (O8.out.grown hg9 (fun g hg e => by have h1 := (O8.out.at_base g hg).1; have h2 := HHL.out; injection e with e; omega))
  clear hg9 hr9 hT3 R6 R7 R8 O6 O7 O8
  obtain ⟨q0, q1, q2, q3, q4, q5, q6, q7, q8, q9, q10, q11, q12⟩ := cells13 ST7.out.blk
  have hbf : ∀ i, w9.frozen? ⟨bb, i, none⟩ = false := fun i => frozen_of_row w9 bb i _ _ ST7.out.blk
  go_wp2_with fail
  clear q0 q1 q2 q3 q4 q5 q6 q7 q8 q9 q10 q11 q12 hbf
  have ST8 : Hid (DecSt 36 w (sets w9 bb [(11, .int .i64 V2)]) rb bb #[.int .u64 EP, .int .i64 0, .int .i64 0, .int .i64 0, .int .i64 0, .int .i64 0, .int .i64 0, .int .i64 0, .int .i64 0, .int .i64 0, .int .i64 V1, .int .i64 V2, .int .u64 SQ] gx nx cx x) := ST7.out.set [(11, .int .i64 V2)]
  obtain ⟨w10, hw10⟩ : ∃ w10, sets w9 bb [(11, .int .i64 V2)] = w10 := ⟨_, rfl⟩
  rw [hw10] at ST8
  have HW10 := Lib.hid hw10
  clear hw10
  change Calls _ _ _ (sets w9 bb [(11, .int .i64 V2)]) _
  have R10 : Hid (RRIn w10 h l3 E3) := by
    show RRIn _ _ _ _
    rw [← HW10.out]
    exact R9.out.apartB ST7.out.blk (sets_grown _ _) (by have := HBH.out; omega)
  have O10 : Hid (Owns .u8 5 w10 w5.heap.size (.slice ash ns csh) SH) := by
    show Owns _ _ _ _ _ _
    rw [← HW10.out]
    exact O9.out.grown (sets_grown _ _) (fun g hg e => by have h1 := (O9.out.at_base g hg).1; have h2 := HHL.out; have h3 := HBH.out; injection e with e; omega)
  rw [HW10.out]
  refine (rdec_any ash ns csh SH w10 O10.out.rd hshl).mono ?_
  rintro e w11 ⟨rfl, hb11⟩
  have ST9 := Lib.hid (ST8.out.next hb11)
  have R11 := Lib.hid (R10.out.below hb11)
  clear hb11 O9 O10 R9 R10
  have hl8 := ST9.out.lt
  have hne1 : ¬ bb = rb := by omega
  have hne2 : ¬ rb = bb := by omega
  clear hl8
  have hDT : dT nx x = ⟨E1, SH, l1⟩ := HT1.out
  have hI1 : dI1 nx x = ⟨E2, V1, l2⟩ := by unfold dI1; rw [hDT]; exact HT2.out
  have hI2 : dI2 nx x = ⟨E3, V2, l3⟩ := by unfold dI2; rw [hI1]; exact HT3.out
  have hlong := HLG.out
  rw [hDT, hI2] at hlong
  cases hdb : decB SH with
  | false =>
    have hE : refDE s = 22 := by rw [hlong]; exact if_neg (by rw [hdb]; simp)
    have hD : refD s = blk0 := by unfold refD; rw [if_neg (by rw [hE]; decide)]
    have hC : decC SH = .agg #[.int .i64 0, .int .i64 0, .int .i64 0, .int .i64 0, .int .i64 0, .int .i64 0, .int .i64 0, .int .i64 0, .int .i64 0] := by unfold decC; rw [if_neg (by rw [hdb]; decide)]
    have hN : decN SH = 22 := by unfold decN; rw [if_neg (by rw [hdb]; decide)]
    have HE := Lib.hid hE
    have HD := Lib.hid hD
    rw [hC, hN]
    clear hE hD hC hN hDT hI1 hI2 hlong hdb
    have hal := (Below.refl w11.heap.size w11).alloc (Nat.le_refl _) (.cells #[.int .i64 0, .int .i64 0, .int .i64 0, .int .i64 0, .int .i64 0, .int .i64 0, .int .i64 0, .int .i64 0, .int .i64 0] 24)
    have ST10 := Lib.hid (ST9.out.next hal)
    obtain ⟨r0, r1, r2, r3, r4, r5, r6, r7, r8, r9, r10, r11, r12⟩ := cells13 ST10.out.res
    have hrf : ∀ i, (w11.alloc (.cells #[.int .i64 0, .int .i64 0, .int .i64 0, .int .i64 0, .int .i64 0, .int .i64 0, .int .i64 0, .int .i64 0, .int .i64 0] 24)).frozen? ⟨rb, i, none⟩ = false := fun i => frozen_of_row _ rb i _ _ ST10.out.res
    obtain ⟨ar, nr, cr, rr⟩ := R11.out.below hal
    obtain ⟨_, y1, _⟩ := rr.cells
    clear rr hal
    by_cases h3 : E3 = 0
    · subst h3
      go_wp2_with fail
      change bodyPost _ _ _ _ _ (sets (w11.alloc (.cells #[.int .i64 0, .int .i64 0, .int .i64 0, .int .i64 0, .int .i64 0, .int .i64 0, .int .i64 0, .int .i64 0, .int .i64 0] 24)) rb [(0, .int .u64 0), (1, .int .i64 0), (2, .int .i64 0), (3, .int .i64 0), (4, .int .i64 0), (5, .int .i64 0), (6, .int .i64 0), (7, .int .i64 0), (8, .int .i64 0), (9, .int .i64 0), (10, .int .i64 0), (11, .int .i64 0), (12, .int .u64 0)])
      obtain ⟨hrow, hbel⟩ := res_end ST10.out.res ST10.out.below [(0, .int .u64 0), (1, .int .i64 0), (2, .int .i64 0), (3, .int .i64 0), (4, .int .i64 0), (5, .int .i64 0), (6, .int .i64 0), (7, .int .i64 0), (8, .int .i64 0), (9, .int .i64 0), (10, .int .i64 0), (11, .int .i64 0), (12, .int .u64 0)]
      generalize sets (w11.alloc (.cells #[.int .i64 0, .int .i64 0, .int .i64 0, .int .i64 0, .int .i64 0, .int .i64 0, .int .i64 0, .int .i64 0, .int .i64 0] 24)) rb [(0, .int .u64 0), (1, .int .i64 0), (2, .int .i64 0), (3, .int .i64 0), (4, .int .i64 0), (5, .int .i64 0), (6, .int .i64 0), (7, .int .i64 0), (8, .int .i64 0), (9, .int .i64 0), (10, .int .i64 0), (11, .int .i64 0), (12, .int .u64 0)] = w19 at *
      rw [fold13] at hrow
      clear r0 r1 r2 r3 r4 r5 r6 r7 r8 r9 r10 r11 r12 hrf 
      obtain ⟨r0, r1, r2, r3, r4, r5, r6, r7, r8, r9, r10, r11, r12⟩ := cells13 hrow
      refine bodyPost_ret (v := .tuple #[.agg #[.int .u64 0, .int .i64 0, .int .i64 0, .int .i64 0, .int .i64 0, .int .i64 0, .int .i64 0, .int .i64 0, .int .i64 0, .int .i64 0, .int .i64 0, .int .i64 0, .int .u64 0], .int .i64 22]) (by simp [results, Try.results13, go_sem, r0, r1, r2, r3, r4, r5, r6, r7, r8, r9, r10, r11, r12]) rfl ?_
      rw [HE.out, HD.out, HRB.out]
      exact ⟨rfl, hbel⟩
    · have h3b : (E3 != 0) = true := by simpa using h3
      go_wp2_with fail
      change bodyPost _ _ _ _ _ (sets (w11.alloc (.cells #[.int .i64 0, .int .i64 0, .int .i64 0, .int .i64 0, .int .i64 0, .int .i64 0, .int .i64 0, .int .i64 0, .int .i64 0] 24)) rb [(0, .int .u64 0), (1, .int .i64 0), (2, .int .i64 0), (3, .int .i64 0), (4, .int .i64 0), (5, .int .i64 0), (6, .int .i64 0), (7, .int .i64 0), (8, .int .i64 0), (9, .int .i64 0), (10, .int .i64 0), (11, .int .i64 0), (12, .int .u64 0)])
      obtain ⟨hrow, hbel⟩ := res_end ST10.out.res ST10.out.below [(0, .int .u64 0), (1, .int .i64 0), (2, .int .i64 0), (3, .int .i64 0), (4, .int .i64 0), (5, .int .i64 0), (6, .int .i64 0), (7, .int .i64 0), (8, .int .i64 0), (9, .int .i64 0), (10, .int .i64 0), (11, .int .i64 0), (12, .int .u64 0)]
      generalize sets (w11.alloc (.cells #[.int .i64 0, .int .i64 0, .int .i64 0, .int .i64 0, .int .i64 0, .int .i64 0, .int .i64 0, .int .i64 0, .int .i64 0] 24)) rb [(0, .int .u64 0), (1, .int .i64 0), (2, .int .i64 0), (3, .int .i64 0), (4, .int .i64 0), (5, .int .i64 0), (6, .int .i64 0), (7, .int .i64 0), (8, .int .i64 0), (9, .int .i64 0), (10, .int .i64 0), (11, .int .i64 0), (12, .int .u64 0)] = w19 at *
      rw [fold13] at hrow
      clear r0 r1 r2 r3 r4 r5 r6 r7 r8 r9 r10 r11 r12 hrf 
      obtain ⟨r0, r1, r2, r3, r4, r5, r6, r7, r8, r9, r10, r11, r12⟩ := cells13 hrow
      refine bodyPost_ret (v := .tuple #[.agg #[.int .u64 0, .int .i64 0, .int .i64 0, .int .i64 0, .int .i64 0, .int .i64 0, .int .i64 0, .int .i64 0, .int .i64 0, .int .i64 0, .int .i64 0, .int .i64 0, .int .u64 0], .int .i64 22]) (by simp [results, Try.results13, go_sem, r0, r1, r2, r3, r4, r5, r6, r7, r8, r9, r10, r11, r12]) rfl ?_
      rw [HE.out, HD.out, HRB.out]
      exact ⟨rfl, hbel⟩
  | true =>
    have hwf := dB_wf HBX.out (m := nx) (by rw [hDT]; exact hdb)
    have hBK : dB nx x = ⟨EP, decV SH 0, decV SH 1, decV SH 2, decV SH 3, decV SH 4, decV SH 5, decV SH 6, decV SH 7, decV SH 8, V1, V2, SQ⟩ := by
      unfold dB
      rw [hDT, hI1, hI2, HEP.out, HSQ.out]
    have hC : decC SH = .agg #[.int .i64 (decV SH 0), .int .i64 (decV SH 1), .int .i64 (decV SH 2), .int .i64 (decV SH 3), .int .i64 (decV SH 4), .int .i64 (decV SH 5), .int .i64 (decV SH 6), .int .i64 (decV SH 7), .int .i64 (decV SH 8)] := by unfold decC; rw [if_pos hdb]
    have hN : decN SH = 0 := by unfold decN; rw [if_pos hdb]
    rw [hC, hN]
    rw [hBK] at hlong hwf
    have hDD : refD s = if refDE s = 0 then ⟨EP, decV SH 0, decV SH 1, decV SH 2, decV SH 3, decV SH 4, decV SH 5, decV SH 6, decV SH 7, decV SH 8, V1, V2, SQ⟩ else blk0 := by unfold refD; rw [HX.out, HXL.out, hBK]
    generalize decV SH 0 = d0 at *
    generalize decV SH 1 = d1 at *
    generalize decV SH 2 = d2 at *
    generalize decV SH 3 = d3 at *
    generalize decV SH 4 = d4 at *
    generalize decV SH 5 = d5 at *
    generalize decV SH 6 = d6 at *
    generalize decV SH 7 = d7 at *
    generalize decV SH 8 = d8 at *
    have HWF := Lib.hid hwf
    have HDD := Lib.hid hDD
    have HLO : Hid (refDE s = if E3 = 0 ∧ sameB ⟨EP, d0, d1, d2, d3, d4, d5, d6, d7, d8, V1, V2, SQ⟩ s = true then 0 else 22) := by
      show _ = _
      rw [hlong]
      simp only [hdb, HMG.out, true_and]
    clear hC hN hDT hI1 hI2 hlong hdb hBK hwf hDD
    have hal := (Below.refl w11.heap.size w11).alloc (Nat.le_refl _) (.cells #[.int .i64 d0, .int .i64 d1, .int .i64 d2, .int .i64 d3, .int .i64 d4, .int .i64 d5, .int .i64 d6, .int .i64 d7, .int .i64 d8] 24)
    have ST10 := Lib.hid (ST9.out.next hal)
    obtain ⟨r0, r1, r2, r3, r4, r5, r6, r7, r8, r9, r10, r11, r12⟩ := cells13 ST10.out.res
    have hrf : ∀ i, (w11.alloc (.cells #[.int .i64 d0, .int .i64 d1, .int .i64 d2, .int .i64 d3, .int .i64 d4, .int .i64 d5, .int .i64 d6, .int .i64 d7, .int .i64 d8] 24)).frozen? ⟨rb, i, none⟩ = false := fun i => frozen_of_row _ rb i _ _ ST10.out.res
    obtain ⟨ar, nr, cr, rr⟩ := R11.out.below hal
    obtain ⟨_, y1, _⟩ := rr.cells
    clear rr hal
    by_cases h3 : E3 = 0
    rotate_left
    · have h3b : (E3 != 0) = true := by simpa using h3
      have hE : refDE s = 22 := by rw [HLO.out]; exact if_neg (fun e => h3 e.1)
      have hD : refD s = blk0 := by rw [HDD.out, if_neg (by rw [hE]; decide)]
      have HE := Lib.hid hE
      have HD := Lib.hid hD
      clear hE hD h3
      go_wp2_with fail
      change bodyPost _ _ _ _ _ (sets (w11.alloc (.cells #[.int .i64 d0, .int .i64 d1, .int .i64 d2, .int .i64 d3, .int .i64 d4, .int .i64 d5, .int .i64 d6, .int .i64 d7, .int .i64 d8] 24)) rb [(0, .int .u64 0), (1, .int .i64 0), (2, .int .i64 0), (3, .int .i64 0), (4, .int .i64 0), (5, .int .i64 0), (6, .int .i64 0), (7, .int .i64 0), (8, .int .i64 0), (9, .int .i64 0), (10, .int .i64 0), (11, .int .i64 0), (12, .int .u64 0)])
      obtain ⟨hrow, hbel⟩ := res_end ST10.out.res ST10.out.below [(0, .int .u64 0), (1, .int .i64 0), (2, .int .i64 0), (3, .int .i64 0), (4, .int .i64 0), (5, .int .i64 0), (6, .int .i64 0), (7, .int .i64 0), (8, .int .i64 0), (9, .int .i64 0), (10, .int .i64 0), (11, .int .i64 0), (12, .int .u64 0)]
      generalize sets (w11.alloc (.cells #[.int .i64 d0, .int .i64 d1, .int .i64 d2, .int .i64 d3, .int .i64 d4, .int .i64 d5, .int .i64 d6, .int .i64 d7, .int .i64 d8] 24)) rb [(0, .int .u64 0), (1, .int .i64 0), (2, .int .i64 0), (3, .int .i64 0), (4, .int .i64 0), (5, .int .i64 0), (6, .int .i64 0), (7, .int .i64 0), (8, .int .i64 0), (9, .int .i64 0), (10, .int .i64 0), (11, .int .i64 0), (12, .int .u64 0)] = w19 at *
      rw [fold13] at hrow
      clear r0 r1 r2 r3 r4 r5 r6 r7 r8 r9 r10 r11 r12 hrf 
      obtain ⟨r0, r1, r2, r3, r4, r5, r6, r7, r8, r9, r10, r11, r12⟩ := cells13 hrow
      refine bodyPost_ret (v := .tuple #[.agg #[.int .u64 0, .int .i64 0, .int .i64 0, .int .i64 0, .int .i64 0, .int .i64 0, .int .i64 0, .int .i64 0, .int .i64 0, .int .i64 0, .int .i64 0, .int .i64 0, .int .u64 0], .int .i64 22]) (by simp [results, Try.results13, go_sem, r0, r1, r2, r3, r4, r5, r6, r7, r8, r9, r10, r11, r12]) rfl ?_
      rw [HE.out, HD.out, HRB.out]
      exact ⟨rfl, hbel⟩
    subst h3
    obtain ⟨q0, q1, q2, q3, q4, q5, q6, q7, q8, q9, q10, q11, q12⟩ := cells13 ST10.out.blk
    have hbf : ∀ i, (w11.alloc (.cells #[.int .i64 d0, .int .i64 d1, .int .i64 d2, .int .i64 d3, .int .i64 d4, .int .i64 d5, .int .i64 d6, .int .i64 d7, .int .i64 d8] 24)).frozen? ⟨bb, i, none⟩ = false := fun i => frozen_of_row _ bb i _ _ ST10.out.blk
    go_wp2_with fail
    change Calls _ _ _ (sets (w11.alloc (.cells #[.int .i64 d0, .int .i64 d1, .int .i64 d2, .int .i64 d3, .int .i64 d4, .int .i64 d5, .int .i64 d6, .int .i64 d7, .int .i64 d8] 24)) bb [(1, .int .i64 d0), (2, .int .i64 d1), (3, .int .i64 d2), (4, .int .i64 d3), (5, .int .i64 d4), (6, .int .i64 d5), (7, .int .i64 d6), (8, .int .i64 d7), (9, .int .i64 d8)]) _
    have ST11 := Lib.hid (ST10.out.set [(1, .int .i64 d0), (2, .int .i64 d1), (3, .int .i64 d2), (4, .int .i64 d3), (5, .int .i64 d4), (6, .int .i64 d5), (7, .int .i64 d6), (8, .int .i64 d7), (9, .int .i64 d8)])
    obtain ⟨w12, hw12⟩ : ∃ w12, sets (w11.alloc (.cells #[.int .i64 d0, .int .i64 d1, .int .i64 d2, .int .i64 d3, .int .i64 d4, .int .i64 d5, .int .i64 d6, .int .i64 d7, .int .i64 d8] 24)) bb [(1, .int .i64 d0), (2, .int .i64 d1), (3, .int .i64 d2), (4, .int .i64 d3), (5, .int .i64 d4), (6, .int .i64 d5), (7, .int .i64 d6), (8, .int .i64 d7), (9, .int .i64 d8)] = w12 := ⟨_, rfl⟩
    rw [hw12] at ST11 ⊢
    have ST12 := ST11
    rw [fold9] at ST12
    clear r0 r1 r2 r3 r4 r5 r6 r7 r8 r9 r10 r11 r12 q0 q1 q2 q3 q4 q5 q6 q7 q8 q9 q10 q11 q12 hrf hbf hw12 ST11 ST10 ST9 y1 R11
    refine (refenc_any ⟨EP, d0, d1, d2, d3, d4, d5, d6, d7, d8, V1, V2, SQ⟩ w12 HWF.out).mono ?_
    rintro e w13 ⟨v13, rfl, ho13, hb13⟩
    obtain ⟨E5, hE5⟩ : ∃ E5, supE ⟨EP, d0, d1, d2, d3, d4, d5, d6, d7, d8, V1, V2, SQ⟩ = E5 := ⟨_, rfl⟩
    obtain ⟨Y, hY⟩ : ∃ Y, supV ⟨EP, d0, d1, d2, d3, d4, d5, d6, d7, d8, V1, V2, SQ⟩ = Y := ⟨_, rfl⟩
    rw [hY] at ho13
    obtain ⟨n13, hn13⟩ : ∃ n13, Y.length = n13 := ⟨_, rfl⟩
    obtain ⟨a13, c13, rfl⟩ := ho13.shapeN n13 hn13
    rw [hE5]
    have ST13 := Lib.hid (ST12.out.next hb13)
    have k1 := conv_rd (P := Try.prog) u8T s8 su ho13.rd
    have k2 := conv_rd (P := Try.prog) u8T s8 su (HS.out w13 ST13.out.below)
    obtain ⟨D, hD⟩ : ∃ D : Bool, decide (Y = s) = D := ⟨_, rfl⟩
    have dQ : ((strOfNums Y).toList == (strOfNums s).toList) = D := by
      rw [← hD]
      by_cases e : Y = s
      · rw [e]; simp
      · rw [decide_eq_false e, beq_eq_false_iff_ne]
        exact fun e2 => e (str_inj ho13.rd.bytes HBS.out e2)
    have HSM : Hid (sameB ⟨EP, d0, d1, d2, d3, d4, d5, d6, d7, d8, V1, V2, SQ⟩ s = (decide (E5 = 0) && D)) := by show _ = _; unfold sameB; rw [hE5, hY, hD]
    clear ho13 hb13 hE5 hn13 hY hD ST12
    obtain ⟨q0, q1, q2, q3, q4, q5, q6, q7, q8, q9, q10, q11, q12⟩ := cells13 ST13.out.blk
    obtain ⟨r0, r1, r2, r3, r4, r5, r6, r7, r8, r9, r10, r11, r12⟩ := cells13 ST13.out.res
    have hrf : ∀ i, w13.frozen? ⟨rb, i, none⟩ = false := fun i => frozen_of_row w13 rb i _ _ ST13.out.res
    by_cases h5 : E5 = 0
    · subst h5
      cases D with
      | true =>
        have hE : refDE s = 0 := by rw [HLO.out, HSM.out]; rfl
        have hDf : refD s = ⟨EP, d0, d1, d2, d3, d4, d5, d6, d7, d8, V1, V2, SQ⟩ := by rw [HDD.out, if_pos hE]
        have HE := Lib.hid hE
        have HD := Lib.hid hDf
        clear hE hDf
        go_wp2_with fail
        change bodyPost _ _ _ _ _ (sets w13 rb [(0, .int .u64 EP), (1, .int .i64 d0), (2, .int .i64 d1), (3, .int .i64 d2), (4, .int .i64 d3), (5, .int .i64 d4), (6, .int .i64 d5), (7, .int .i64 d6), (8, .int .i64 d7), (9, .int .i64 d8), (10, .int .i64 V1), (11, .int .i64 V2), (12, .int .u64 SQ)])
        obtain ⟨hrow, hbel⟩ := res_end ST13.out.res ST13.out.below [(0, .int .u64 EP), (1, .int .i64 d0), (2, .int .i64 d1), (3, .int .i64 d2), (4, .int .i64 d3), (5, .int .i64 d4), (6, .int .i64 d5), (7, .int .i64 d6), (8, .int .i64 d7), (9, .int .i64 d8), (10, .int .i64 V1), (11, .int .i64 V2), (12, .int .u64 SQ)]
        generalize sets w13 rb [(0, .int .u64 EP), (1, .int .i64 d0), (2, .int .i64 d1), (3, .int .i64 d2), (4, .int .i64 d3), (5, .int .i64 d4), (6, .int .i64 d5), (7, .int .i64 d6), (8, .int .i64 d7), (9, .int .i64 d8), (10, .int .i64 V1), (11, .int .i64 V2), (12, .int .u64 SQ)] = w19 at *
        rw [fold13] at hrow
        clear r0 r1 r2 r3 r4 r5 r6 r7 r8 r9 r10 r11 r12 q0 q1 q2 q3 q4 q5 q6 q7 q8 q9 q10 q11 q12 hrf k1 k2
        obtain ⟨r0, r1, r2, r3, r4, r5, r6, r7, r8, r9, r10, r11, r12⟩ := cells13 hrow
        refine bodyPost_ret (v := .tuple #[.agg #[.int .u64 EP, .int .i64 d0, .int .i64 d1, .int .i64 d2, .int .i64 d3, .int .i64 d4, .int .i64 d5, .int .i64 d6, .int .i64 d7, .int .i64 d8, .int .i64 V1, .int .i64 V2, .int .u64 SQ], .int .i64 0]) (by simp [results, Try.results13, go_sem, r0, r1, r2, r3, r4, r5, r6, r7, r8, r9, r10, r11, r12]) rfl ?_
        rw [HE.out, HD.out, HRB.out]
        exact ⟨rfl, hbel⟩
      | false =>
        have hE : refDE s = 22 := by rw [HLO.out, HSM.out]; rfl
        have hDf : refD s = blk0 := by rw [HDD.out, if_neg (by rw [hE]; decide)]
        have HE := Lib.hid hE
        have HD := Lib.hid hDf
        clear hE hDf
        go_wp2_with fail
        change bodyPost _ _ _ _ _ (sets (w13) rb [(0, .int .u64 0), (1, .int .i64 0), (2, .int .i64 0), (3, .int .i64 0), (4, .int .i64 0), (5, .int .i64 0), (6, .int .i64 0), (7, .int .i64 0), (8, .int .i64 0), (9, .int .i64 0), (10, .int .i64 0), (11, .int .i64 0), (12, .int .u64 0)])
        obtain ⟨hrow, hbel⟩ := res_end ST13.out.res ST13.out.below [(0, .int .u64 0), (1, .int .i64 0), (2, .int .i64 0), (3, .int .i64 0), (4, .int .i64 0), (5, .int .i64 0), (6, .int .i64 0), (7, .int .i64 0), (8, .int .i64 0), (9, .int .i64 0), (10, .int .i64 0), (11, .int .i64 0), (12, .int .u64 0)]
        generalize sets (w13) rb [(0, .int .u64 0), (1, .int .i64 0), (2, .int .i64 0), (3, .int .i64 0), (4, .int .i64 0), (5, .int .i64 0), (6, .int .i64 0), (7, .int .i64 0), (8, .int .i64 0), (9, .int .i64 0), (10, .int .i64 0), (11, .int .i64 0), (12, .int .u64 0)] = w19 at *
        rw [fold13] at hrow
        clear r0 r1 r2 r3 r4 r5 r6 r7 r8 r9 r10 r11 r12 hrf q0 q1 q2 q3 q4 q5 q6 q7 q8 q9 q10 q11 q12 k1 k2
        obtain ⟨r0, r1, r2, r3, r4, r5, r6, r7, r8, r9, r10, r11, r12⟩ := cells13 hrow
        refine bodyPost_ret (v := .tuple #[.agg #[.int .u64 0, .int .i64 0, .int .i64 0, .int .i64 0, .int .i64 0, .int .i64 0, .int .i64 0, .int .i64 0, .int .i64 0, .int .i64 0, .int .i64 0, .int .i64 0, .int .u64 0], .int .i64 22]) (by simp [results, Try.results13, go_sem, r0, r1, r2, r3, r4, r5, r6, r7, r8, r9, r10, r11, r12]) rfl ?_
        rw [HE.out, HD.out, HRB.out]
        exact ⟨rfl, hbel⟩
    · have h5b : (E5 != 0) = true := by simpa using h5
      have h5c : (E5 == 0) = false := by simpa using h5
      have hE : refDE s = 22 := by rw [HLO.out, HSM.out, decide_eq_false h5]; rfl
      have hDf : refD s = blk0 := by rw [HDD.out, if_neg (by rw [hE]; decide)]
      have HE := Lib.hid hE
      have HD := Lib.hid hDf
      clear hE hDf h5
      go_wp2_with fail
      change bodyPost _ _ _ _ _ (sets (w13) rb [(0, .int .u64 0), (1, .int .i64 0), (2, .int .i64 0), (3, .int .i64 0), (4, .int .i64 0), (5, .int .i64 0), (6, .int .i64 0), (7, .int .i64 0), (8, .int .i64 0), (9, .int .i64 0), (10, .int .i64 0), (11, .int .i64 0), (12, .int .u64 0)])
      obtain ⟨hrow, hbel⟩ := res_end ST13.out.res ST13.out.below [(0, .int .u64 0), (1, .int .i64 0), (2, .int .i64 0), (3, .int .i64 0), (4, .int .i64 0), (5, .int .i64 0), (6, .int .i64 0), (7, .int .i64 0), (8, .int .i64 0), (9, .int .i64 0), (10, .int .i64 0), (11, .int .i64 0), (12, .int .u64 0)]
      generalize sets (w13) rb [(0, .int .u64 0), (1, .int .i64 0), (2, .int .i64 0), (3, .int .i64 0), (4, .int .i64 0), (5, .int .i64 0), (6, .int .i64 0), (7, .int .i64 0), (8, .int .i64 0), (9, .int .i64 0), (10, .int .i64 0), (11, .int .i64 0), (12, .int .u64 0)] = w19 at *
      rw [fold13] at hrow
      clear r0 r1 r2 r3 r4 r5 r6 r7 r8 r9 r10 r11 r12 hrf q0 q1 q2 q3 q4 q5 q6 q7 q8 q9 q10 q11 q12 k1 k2
      obtain ⟨r0, r1, r2, r3, r4, r5, r6, r7, r8, r9, r10, r11, r12⟩ := cells13 hrow
      refine bodyPost_ret (v := .tuple #[.agg #[.int .u64 0, .int .i64 0, .int .i64 0, .int .i64 0, .int .i64 0, .int .i64 0, .int .i64 0, .int .i64 0, .int .i64 0, .int .i64 0, .int .i64 0, .int .i64 0, .int .u64 0], .int .i64 22]) (by simp [results, Try.results13, go_sem, r0, r1, r2, r3, r4, r5, r6, r7, r8, r9, r10, r11, r12]) rfl ?_
      rw [HE.out, HD.out, HRB.out]
      exact ⟨rfl, hbel⟩
end Go.Proofs.Ytcbnebcooiagmaa
namespace Go.Proofs.Ytcbnebcooiagmaa
open Go.RowKit
theorem DkP.re {w w' : World} {Z : Nat → Prop} {d kb mb : Nat} {pv kv : Value} {vals pvs : List Value} {st st' : Dk} (p : DkP w Z d kb mb pv kv vals pvs st) (hoth : ∀ x, Z x → x ≠ d → w'.heap[x]? = w.heap[x]?)
    (row : w'.heap[d]? = some (.cells #[.bool st'.off, .int .i64 st'.armed, kv, .int .i64 st'.size, .slice (some ⟨kb, 0, none⟩) st'.kept.length st'.kept.length, pv, .map (some mb), .int .i64 st'.writes, .int .i64 st'.reads] 69 (0, 0))) (e1 : st'.kept = st.kept) (e2 : st'.size = st.size) (e3 : st'.pend = st.pend) (e4 : st'.keep = st.keep) (ok : DkOk st') : DkP w' Z d kb mb pv kv vals pvs st' := by
  have hm : ∀ x, Z x → ¬ MutD d kb mb pv x → w'.heap[x]? = w.heap[x]? := fun x hx h => hoth x hx (fun e => h (.inl e))
  refine ⟨row, ?_, ?_, ?_, ?_, ?_, ?_, p.ne, p.rm, p.z, ok⟩
  · rw [hoth kb (p.z kb (.inr (.inl rfl))) p.ne.1.symm]; exact p.krow
  · rw [e1, e2]; exact p.kvals.imp fun v l h => h.at hm (fun _ _ h => h) (fun _ h => h)
  · rw [e3]; exact ownsRow_at p.prow (fun g hg => hoth g (p.z g (.inr (.inr (.inr hg)))) (p.rm g hg).1)
  · rw [e3]; exact p.pvals.imp fun v l h => h.at hm (fun _ _ h => h) (fun _ h => h)
  · rw [e3]; exact p.map.at (hoth mb (p.z mb (.inr (.inr (.inl rfl)))) p.ne.2.1.symm)
  · rw [e4]; exact p.keep.at hm (fun _ _ h => h) (fun _ h => h)
theorem Tnd.trans {Z Z1 Z2 : Nat → Prop} {w w1 w2 : World} (h : Tnd Z Z1 w w1) (k : Tnd Z1 Z2 w1 w2) : Tnd Z Z2 w w2 :=
  ⟨k.os.trans h.os, k.tape.trans h.tape, k.output.trans h.output, Nat.le_trans h.size k.size, fun x hx hn => by
    rw [k.block x (Nat.lt_of_lt_of_le hx h.size) (fun h1 => by rcases h.sub x h1 with h2 | h2; exact hn h2; omega)]
    exact h.block x hx hn, fun x hx => by
    rcases k.sub x hx with h1 | h1
    · exact h.sub x h1
    · exact .inr (Nat.le_trans h.size h1)⟩
theorem heap_alloc_keep (w : World) (o : Obj) {k : Nat} (h : k < w.heap.size) : (w.alloc o).heap[k]? = w.heap[k]? := by
  show (w.heap.push o)[k]? = _
  simp [Array.getElem?_push, Nat.ne_of_lt h]
/-- A disk that nothing has touched. -/
theorem DkIn.same {w w' : World} {Z : Nat → Prop} {d : Nat} {st : Dk} (h : DkIn w Z d st) (hs : ∀ x, Z x → w'.heap[x]? = w.heap[x]?) (hsz : w.heap.size ≤ w'.heap.size) : DkIn w' Z d st := by
  obtain ⟨hz, kb, mb, pv, kv, vals, pvs, p⟩ := h
  refine ⟨fun x hx => Nat.lt_of_lt_of_le (hz x hx) hsz, kb, mb, pv, kv, vals, pvs, p.re (fun x hx _ => hs x hx) ?_ rfl rfl rfl rfl p.ok⟩
  rw [hs d (p.z d (.inl rfl))]; exact p.row
theorem DkIn.below {w w' : World} {Z : Nat → Prop} {d : Nat} {st : Dk} (h : DkIn w Z d st) (hb : Below w.heap.size w w') : DkIn w' Z d st := h.same (fun x hx => hb.block x (h.1 x hx)) hb.size
set_option linter.unusedSimpArgs false in
set_option linter.unusedVariables false in
set_option maxRecDepth 100000 in
set_option maxHeartbeats 2000000 in
theorem off_any (Z : Nat → Prop) (d : Nat) (st : Dk) (w : World) (h : DkIn w Z d st) :
    Calls Try.prog 26 #[.pointer (some ⟨d, 0, none⟩)] w fun e w' => e = .returned (.bool st.off) ∧ w = w' := by
  obtain ⟨hz, kb, mb, pv, kv, vals, pvs, p⟩ := h
  obtain ⟨c0, c1, c2, c3, c4, c5, c6, c7, c8, cf⟩ := cellsD p.row
  clear p
  go_enter Try.func26, Try.ntmps26
  go_wp2
  go_ret
  exact ⟨rfl, rfl⟩
set_option linter.unusedSimpArgs false in
set_option linter.unusedVariables false in
set_option maxRecDepth 100000 in
set_option maxHeartbeats 2000000 in
theorem pending_any (Z : Nat → Prop) (d : Nat) (st : Dk) (w : World) (h : DkIn w Z d st) :
    Calls Try.prog 24 #[.pointer (some ⟨d, 0, none⟩)] w fun e w' => e = .returned (.int .i64 (st.pend.length : Nat)) ∧ w = w' := by
  obtain ⟨hz, kb, mb, pv, kv, vals, pvs, p⟩ := h
  obtain ⟨c0, c1, c2, c3, c4, c5, c6, c7, c8, cf⟩ := cellsD p.row
  obtain ⟨pa, pc, hpv⟩ := owns_shape p.prow
  rw [hpv] at c5
  clear p hpv
  go_enter Try.func24, Try.ntmps24
  go_wp2
  go_ret
  exact ⟨rfl, rfl⟩
set_option linter.unusedSimpArgs false in
set_option linter.unusedVariables false in
set_option maxRecDepth 100000 in
set_option maxHeartbeats 2000000 in
theorem there_any (Z : Nat → Prop) (d : Nat) (st : Dk) (s : Int) (w : World) (h : DkIn w Z d st) :
    Calls Try.prog 62 #[.pointer (some ⟨d, 0, none⟩), .int .i64 s] w fun e w' => e = .returned (.bool (inS st s)) ∧ w = w' := by
  obtain ⟨hz, kb, mb, pv, kv, vals, pvs, p⟩ := h
  obtain ⟨c0, c1, c2, c3, c4, c5, c6, c7, c8, cf⟩ := cellsD p.row
  have hE : inS st s = (decide (0 ≤ s) && decide (s < st.kept.length)) := rfl
  clear p
  by_cases h0 : 0 ≤ s
  · have d0 : decide (0 ≤ s) = true := decide_eq_true h0
    rw [hE, d0]
    clear hE
    go_enter Try.func62, Try.ntmps62
    go_wp2
    all_goals
      go_ret
      exact ⟨rfl, rfl⟩
  · have d0 : decide (0 ≤ s) = false := decide_eq_false h0
    rw [hE, d0]
    clear hE
    go_enter Try.func62, Try.ntmps62
    go_wp2
    go_ret
    exact ⟨rfl, rfl⟩
set_option linter.unusedSimpArgs false in
set_option linter.unusedVariables false in
set_option maxRecDepth 100000 in
set_option maxHeartbeats 2000000 in
theorem on_any (Z : Nat → Prop) (d : Nat) (st : Dk) (w : World) (h : DkIn w Z d st) :
    Calls Try.prog 28 #[.pointer (some ⟨d, 0, none⟩)] w fun e w' => e = .returned (.tuple #[]) ∧ DkIn w' Z d { st with off := false } ∧ Tnd Z Z w w' := by
  obtain ⟨hz, kb, mb, pv, kv, vals, pvs, p⟩ := h
  obtain ⟨c0, c1, c2, c3, c4, c5, c6, c7, c8, cf⟩ := cellsD p.row
  have P := Lib.hid p
  have hZm := p.z
  clear p
  go_enter Try.func28, Try.ntmps28
  go_wp2
  go_end0
  refine ⟨rfl, ⟨fun x hx => by simpa using hz x hx, kb, mb, pv, kv, vals, pvs, P.out.re (fun x _ hne => heap_setCell_other w ⟨d, 0, none⟩ x _ hne) ?_ rfl rfl rfl rfl ⟨P.out.ok.size, P.out.ok.n, P.out.ok.kept, P.out.ok.pend, P.out.ok.armed, P.out.ok.few, P.out.ok.writes, P.out.ok.reads⟩⟩, ⟨rfl, rfl, rfl, by simp, fun x _ hzx => heap_setCell_other w ⟨d, 0, none⟩ x _ (fun e => hzx (by rw [show x = d from e]; exact hZm d (.inl rfl))), fun x h => .inl h⟩⟩
  rw [heap_setCell_same w d 0 _ _ _ P.out.row]
  simp
set_option linter.unusedSimpArgs false in
set_option linter.unusedVariables false in
set_option maxRecDepth 100000 in
set_option maxHeartbeats 2000000 in
theorem cutP (Z : Nat → Prop) (d kb mb : Nat) (pv kv : Value) (vals pvs : List Value) (st : Dk) (w : World) (p : DkP w Z d kb mb pv kv vals pvs st) (hz : ∀ k, Z k → k < w.heap.size) (a : Option Addr) (n c : Nat) (kl : List Bool) (hr : RdB w a n c kl) (hlo : ∀ x, a = some x → 0 < n → x.block < w.heap.size ∧ ¬ MutD d kb mb pv x.block) :
    Calls Try.prog 27 #[.pointer (some ⟨d, 0, none⟩), .slice a n c] w fun e w' => e = .returned (.tuple #[]) ∧ DkIn w' Z d (cutS st kl) ∧ Tnd Z Z w w' := by
  have hd : d < w.heap.size := hz d (p.z d (.inl rfl))
  obtain ⟨c0, c1, c2, c3, c4, c5, c6, c7, c8, cf⟩ := cellsD p.row
  have P := Lib.hid p
  have hdq : d ≠ w.heap.size := by omega
  clear p
  go_enter Try.func27, Try.ntmps27
  have hmf : ∀ (fn : Fn) (first cap : Array Value) (w : World), (Instr.makeFunc fn first cap).run Try.prog w = .ok (.func fn first cap) w := fun _ _ _ _ => rfl
  go_wp2_with fail
  obtain ⟨w2, hw2⟩ : ∃ w2, (((w.setCell ⟨d, 0, none⟩ (.bool true)).setCell ⟨d, 1, none⟩ (.int .i64 0)).alloc (.cells #[.slice a n c] 61)) = w2 := ⟨_, rfl⟩
  have hoth : ∀ x, x < w.heap.size → x ≠ d → w2.heap[x]? = w.heap[x]? := fun x hx hne => by
    rw [← hw2, heap_alloc_keep _ _ (by simpa using hx), heap_setCell_other _ ⟨d, 1, none⟩ x _ hne, heap_setCell_other _ ⟨d, 0, none⟩ x _ hne]
  have hrow : w2.heap[d]? = some (.cells #[.bool true, .int .i64 0, kv, .int .i64 st.size, .slice (some ⟨kb, 0, none⟩) st.kept.length st.kept.length, pv, .map (some mb), .int .i64 st.writes, .int .i64 st.reads] 69 (0, 0)) := by
    rw [← hw2, heap_alloc_keep _ _ (by simpa using hd), heap_setCell_same _ d 1 _ _ _ (heap_setCell_same w d 0 _ _ _ P.out.row)]
    simp
  have hq : w2.heap[w.heap.size]? = some (.cells #[.slice a n c] 61 (0, 0)) := by
    rw [← hw2]
    have := heap_alloc_new ((w.setCell ⟨d, 0, none⟩ (.bool true)).setCell ⟨d, 1, none⟩ (.int .i64 0)) (.cells #[.slice a n c] 61)
    simpa using this
  have hs2 : w2.heap.size = w.heap.size + 1 := by rw [← hw2]; simp
  have hmeta : w2.os = w.os ∧ w2.tape = w.tape ∧ w2.output = w.output := by rw [← hw2]; exact ⟨rfl, rfl, rfl⟩
  rw [hw2]
  have P2 : DkP w2 Z d kb mb pv kv vals pvs { st with off := true, armed := 0 } := P.out.re (fun x hx hne => hoth x (hz x hx) hne) hrow rfl rfl rfl rfl ⟨P.out.ok.size, P.out.ok.n, P.out.ok.kept, P.out.ok.pend, ⟨(show (0:Int) ≤ 0 by decide), (show (0:Int) ≤ 9223372036854775807 by decide)⟩, P.out.ok.few, P.out.ok.writes, P.out.ok.reads⟩
  have hkb : kb < w.heap.size := hz kb (P.out.z kb (.inr (.inl rfl)))
  have ht2 : Tnd Z Z w w2 := ⟨hmeta.1, hmeta.2.1, hmeta.2.2, by omega, fun x hx hzx => hoth x hx (fun e => hzx (by rw [e]; exact P.out.z d (.inl rfl))), fun x h => .inl h⟩
  refine (settle_cut Z d kb mb pv kv vals pvs _ w2 P2 (fun x hx => by have := hz x hx; omega) w.heap.size a n c kl hq (by omega) (hr.kept (fun x h1 h2 => hoth x.block (hlo x h1 h2).1 (fun e => (hlo x h1 h2).2 (.inl e)))) (fun x h1 h2 => by have := (hlo x h1 h2).1; omega) (fun x h1 h2 e => (hlo x h1 h2).2 (.inr (.inl e)))).mono ?_
  rintro e w3 ⟨rfl, hd3, ht3⟩
  have HD3 := Lib.hid hd3
  have HT3 := Lib.hid (ht2.trans ht3)
  clear hd3 ht3 ht2 P2 hoth hrow hq hw2 c0 c1 c2 c3 c4 c5 c6 c7 c8 cf
  go_wp2_with fail
  go_end0
  exact ⟨rfl, HD3.out, HT3.out⟩
set_option linter.unusedSimpArgs false in
set_option linter.unusedVariables false in
set_option maxRecDepth 100000 in
set_option maxHeartbeats 2000000 in
theorem cut_any (Z : Nat → Prop) (d : Nat) (st : Dk) (w : World) (h : DkIn w Z d st) (a : Option Addr) (n c : Nat) (kl : List Bool) (hr : RdB w a n c kl) (hlo : ∀ x, a = some x → 0 < n → x.block < w.heap.size ∧ ¬ Z x.block) :
    Calls Try.prog 27 #[.pointer (some ⟨d, 0, none⟩), .slice a n c] w fun e w' => e = .returned (.tuple #[]) ∧ DkIn w' Z d (cutS st kl) ∧ Tnd Z Z w w' := by
  obtain ⟨hz, kb, mb, pv, kv, vals, pvs, p⟩ := h
  exact cutP Z d kb mb pv kv vals pvs st w p hz a n c kl hr (fun x h1 h2 => ⟨(hlo x h1 h2).1, fun hm => (hlo x h1 h2).2 (p.z _ hm)⟩)
set_option linter.unusedSimpArgs false in
set_option linter.unusedVariables false in
set_option maxRecDepth 100000 in
set_option maxHeartbeats 2000000 in
theorem flush_any (Z : Nat → Prop) (d : Nat) (st : Dk) (w : World) (h : DkIn w Z d st) :
    Calls Try.prog 30 #[.pointer (some ⟨d, 0, none⟩)] w fun e w' => e = .returned (.int .i64 (if st.off = true then 8 else 0)) ∧ DkIn w' Z d (if st.off = true then st else flushS st) ∧ Tnd Z Z w w' := by
  have H := Lib.hid h
  cases ho : st.off with
  | true =>
    rw [if_pos rfl, if_pos rfl]
    have HO := Lib.hid ho
    clear ho h
    go_enter Try.func30, Try.ntmps30
    go_wp2_with fail
    refine (off_any Z d st w H.out).mono ?_
    rintro e w1 ⟨rfl, rfl⟩
    rw [HO.out]
    go_wp2_with fail
    go_ret
    exact ⟨rfl, H.out, Tnd.refl _ _⟩
  | false =>
    rw [if_neg (by decide), if_neg (by decide)]
    have HO := Lib.hid ho
    obtain ⟨hz, kb, mb, pv, kv, vals, pvs, p⟩ := h
    have P := Lib.hid p
    clear ho p
    go_enter Try.func30, Try.ntmps30
    go_wp2_with fail
    refine (off_any Z d st w H.out).mono ?_
    rintro e w1 ⟨rfl, rfl⟩
    rw [HO.out]
    go_wp2_with fail
    refine (settle_all Z d kb mb pv kv vals pvs st w P.out hz).mono ?_
    rintro e w1 ⟨rfl, hd1, ht1⟩
    have HD1 := Lib.hid hd1
    have HT1 := Lib.hid ht1
    clear hd1 ht1
    go_wp2_with fail
    go_ret
    exact ⟨rfl, HD1.out, HT1.out⟩
end Go.Proofs.Ytcbnebcooiagmaa
namespace Go.Proofs.Ytcbnebcooiagmaa
open Go.RowKit
set_option maxRecDepth 100000 in
theorem secT : Try.prog.underlying 65 = some (.slice 29) := Try.underlying65
set_option maxRecDepth 100000 in
theorem mkI : (Try.prog.info? 5).map (fun i => (i.zero, i.size, i.bytes)) = some (some (.int .u8 0), 1, 1) := by kernel_rfl
set_option maxRecDepth 100000 in
theorem mk_bytes (n : Nat) (hn : n ≤ 1000000) (w : World) : (Instr.makeSlice 29 (.int .i64 (n : Int)) (.int .i64 (n : Int))).run Try.prog w = .ok (.slice (some ⟨w.heap.size, 0, none⟩) n n) (w.alloc (.cells (List.replicate n (.int .u8 0)).toArray 5)) := by
  obtain ⟨i, hi, hz, hs, hb⟩ := info_parts mkI
  have hr := run_make (P := Try.prog) w 29 5 i (.int .u8 0) u8T hi hz .i64 .i64 n n (by omega) (Int.le_refl _) (by rw [hb]; omega) (by omega)
  rw [hr, hs, Int.toNat_natCast, Nat.mul_one]
  congr 4
  rw [show (Value.int .u8 0).cells = #[.int .u8 0] from rfl, ← toList_madeCells_one]
theorem zeros_own (n : Nat) (hn : n ≤ 1000000) (w : World) : Owns .u8 5 (w.alloc (.cells (List.replicate n (.int .u8 0)).toArray 5)) w.heap.size (.slice (some ⟨w.heap.size, 0, none⟩) n n) (List.replicate n 0) := by
  refine ⟨fun x hx => by rw [List.eq_of_mem_replicate hx]; rfl, .inr ?_⟩
  have := World.ownsRow_lit (base := w.heap.size) (e := 5) (size := 1) w (List.replicate n (.int .u8 0)).toArray n (Nat.le_refl _) (by unfold maxLen; omega) (by simp)
  simpa using this
theorem sec_at {w : World} {Z : Nat → Prop} {d kb mb : Nat} {pv kv : Value} {vals pvs : List Value} {st : Dk} (p : DkP w Z d kb mb pv kv vals pvs st) {s : Nat} (hs : s < st.kept.length) :
    ∃ v l, st.kept[s]? = some l ∧ SecV w (MutD d kb mb pv) Z st.size v l ∧ w.cell? ⟨kb, s, none⟩ = some v ∧ l.length = st.size := by
  have hl : st.kept[s]? = some st.kept[s] := List.getElem?_eq_getElem hs
  obtain ⟨v, hv, hsv⟩ := p.kvals.get hl
  refine ⟨v, st.kept[s], hl, hsv, ?_, p.ok.kept _ (List.getElem_mem hs)⟩
  rw [cell_of_row w _ _ _ _ _ p.krow]
  simpa using hv
set_option linter.unusedSimpArgs false in
set_option linter.unusedVariables false in
set_option maxRecDepth 100000 in
set_option maxHeartbeats 2000000 in
theorem bytes_any (Z : Nat → Prop) (d : Nat) (st : Dk) (s : Nat) (w : World) (h : DkIn w Z d st) (hs : s < st.kept.length) :
    Calls Try.prog 64 #[.pointer (some ⟨d, 0, none⟩), .int .i64 s] w (GivesBytes ((st.kept[s]?).getD []) w) := by
  obtain ⟨hz, kb, mb, pv, kv, vals, pvs, p⟩ := h
  obtain ⟨c0, c1, c2, c3, c4, c5, c6, c7, c8, cf⟩ := cellsD p.row
  obtain ⟨v, l, hl, hv, hc, hll⟩ := sec_at p hs
  have hsz := p.ok.size
  have hn := p.ok.n
  rw [hl, Option.getD_some]
  have hnil := fun (w : World) (a : Option Addr) (n c : Nat) => Lib.run_eql_slice_nil (P := Try.prog) w 29 5 a n c 0 0 Try.underlying29
  obtain ⟨n, hN⟩ : ∃ n, st.size = n := ⟨_, rfl⟩
  rw [hN] at hsz hll c3 hv
  have hmk := mk_bytes n (by omega)
  have hown := zeros_own n (by omega) w
  have HO := Lib.hid hown
  have hd1 : decide ((s : Int) < st.kept.length) = true := decide_eq_true (by omega)
  clear p hl hown
  rcases hv with ⟨rfl, rfl⟩ | ⟨b, o, n9, c9, rfl, hr, hn9, _, _⟩
  · go_enter Try.func64, Try.ntmps64
    go_wp2
    go_ret
    exact ⟨_, rfl, HO.out, (Below.refl _ _).alloc (Nat.le_refl _) _⟩
  · have h9 : n9 ≤ 1000000000 := by have := hr.len; omega
    have HR := Lib.hid hr
    clear hr
    go_enter Try.func64, Try.ntmps64
    go_wp2_with fail
    refine (clone_any _ _ _ _ _ HR.out h9).mono ?_
    rintro e w2 ⟨v2, rfl, ho2, hb2⟩
    have HO2 := Lib.hid ho2
    have HB2 := Lib.hid hb2
    obtain ⟨a2, k2, rfl⟩ := ho2.shapeN n hll
    clear ho2 hb2
    go_wp2_with fail
    go_ret
    exact ⟨_, rfl, HO2.out, HB2.out⟩
set_option linter.unusedSimpArgs false in
set_option linter.unusedVariables false in
set_option maxRecDepth 100000 in
set_option maxHeartbeats 2000000 in
theorem goes_any (Z : Nat → Prop) (d kb mb : Nat) (pv kv : Value) (vals pvs : List Value) (st : Dk) (w : World) (p : DkP w Z d kb mb pv kv vals pvs st) (hz : ∀ k, Z k → k < w.heap.size) :
    Calls Try.prog 68 #[.pointer (some ⟨d, 0, none⟩)] w fun e w' => e = .returned (.bool (decide (st.armed = 1))) ∧ DkP w' Z d kb mb pv kv vals pvs { st with armed := if st.armed = 0 then 0 else st.armed - 1 } ∧ Tnd Z Z w w' ∧ (∀ k, Z k → k < w'.heap.size) := by
  obtain ⟨c0, c1, c2, c3, c4, c5, c6, c7, c8, cf⟩ := cellsD p.row
  have P := Lib.hid p
  have ha := p.ok.armed
  have hd : d < w.heap.size := hz d (p.z d (.inl rfl))
  clear p
  by_cases h0 : st.armed = 0
  · have e1 : decide (st.armed = 1) = false := decide_eq_false (by omega)
    have e2 : ({ st with armed := if st.armed = 0 then 0 else st.armed - 1 } : Dk) = st := by rw [if_pos h0, ← h0]
    rw [e1, e2]
    rw [h0] at c1
    go_enter Try.func68, Try.ntmps68
    go_wp2
    go_ret
    exact ⟨rfl, P.out, Tnd.refl _ _, hz⟩
  · have d0 : decide (st.armed = 0) = false := decide_eq_false h0
    have e1 : decide (st.armed - 1 = 0) = decide (st.armed = 1) := by
      by_cases h : st.armed = 1
      · rw [h]; decide
      · rw [decide_eq_false h, decide_eq_false (by omega)]
    rw [if_neg h0]
    have w1 : IntKind.i64.wrap (st.armed - 1) = st.armed - 1 := by rw [IntKind.wrap_i64]; omega
    go_enter Try.func68, Try.ntmps68
    go_wp2
    go_ret
    refine ⟨by rw [← e1]; rfl, P.out.re (fun x _ hne => heap_setCell_other w ⟨d, 1, none⟩ x _ hne) ?_ rfl rfl rfl rfl ⟨P.out.ok.size, P.out.ok.n, P.out.ok.kept, P.out.ok.pend, ⟨by show 0 ≤ st.armed - 1; omega, by show st.armed - 1 ≤ 9223372036854775807; omega⟩, P.out.ok.few, P.out.ok.writes, P.out.ok.reads⟩, ⟨rfl, rfl, rfl, by simp, fun x _ hzx => heap_setCell_other w ⟨d, 1, none⟩ x _ (fun e => hzx (by rw [show x = d from e]; exact P.out.z d (.inl rfl))), fun x h => .inl h⟩, fun x hx => by simpa using hz x hx⟩
    rw [heap_setCell_same w d 1 _ _ _ P.out.row]
    simp
set_option linter.unusedSimpArgs false in
set_option linter.unusedVariables false in
set_option maxRecDepth 100000 in
set_option maxHeartbeats 2000000 in
theorem read_any (Z : Nat → Prop) (d : Nat) (st : Dk) (s : Int) (w : World) (h : DkIn w Z d st) (hs1 : -9223372036854775808 ≤ s) (hs2 : s ≤ 9223372036854775807) (hrd : st.reads + 1 ≤ 4611686018427387904) :
    Calls Try.prog 23 #[.pointer (some ⟨d, 0, none⟩), .int .i64 s] w fun e w' => ∃ v, e = .returned (.tuple #[v, .int .i64 (rdE st s)]) ∧ Owns .u8 5 w' w.heap.size v (rdV st s) ∧ DkIn w' Z d (rdS st s) ∧ Tnd Z Z w w' := by
  have H := Lib.hid h
  cases ho : st.off with
  | true =>
    have e1 : rdE st s = 8 := by unfold rdE; rw [ho]; rfl
    have e2 : rdS st s = st := by unfold rdS; rw [e1, if_neg (by decide)]
    have e3 : rdV st s = [] := by unfold rdV; rw [e1, if_neg (by decide)]
    rw [e1, e2, e3]
    have HO := Lib.hid ho
    clear ho h e1 e2 e3
    go_enter Try.func23, Try.ntmps23
    go_wp2_with fail
    refine (off_any Z d st w H.out).mono ?_
    rintro e w1 ⟨rfl, rfl⟩
    rw [HO.out]
    go_wp2_with fail
    go_ret2
    exact ⟨_, rfl, Owns.nil _ _ _ _, H.out, Tnd.refl _ _⟩
  | false =>
    cases hi : inS st s with
    | false =>
      have e1 : rdE st s = 1 := by unfold rdE; rw [ho, hi]; rfl
      have e2 : rdS st s = st := by unfold rdS; rw [e1, if_neg (by decide)]
      have e3 : rdV st s = [] := by unfold rdV; rw [e1, if_neg (by decide)]
      rw [e1, e2, e3]
      have HO := Lib.hid ho
      have HI := Lib.hid hi
      clear ho h e1 e2 e3 hi
      go_enter Try.func23, Try.ntmps23
      go_wp2_with fail
      refine (off_any Z d st w H.out).mono ?_
      rintro e w1 ⟨rfl, rfl⟩
      rw [HO.out]
      go_wp2_with fail
      refine (there_any Z d st s w H.out).mono ?_
      rintro e w2 ⟨rfl, rfl⟩
      rw [HI.out]
      go_wp2_with fail
      go_ret2
      exact ⟨_, rfl, Owns.nil _ _ _ _, H.out, Tnd.refl _ _⟩
    | true =>
      have e1 : rdE st s = 0 := by unfold rdE; rw [ho, hi]; rfl
      have e2 : rdS st s = { st with reads := st.reads + 1 } := by unfold rdS; rw [e1, if_pos rfl]
      have e3 : rdV st s = secB st s.toNat := by unfold rdV; rw [e1, if_pos rfl]
      rw [e1, e2, e3]
      have HO := Lib.hid ho
      have HI := Lib.hid hi
      obtain ⟨hz, kb, mb, pv, kv, vals, pvs, p⟩ := h
      obtain ⟨c0, c1, c2, c3, c4, c5, c6, c7, c8, cf⟩ := cellsD p.row
      have hbd : 0 ≤ s ∧ s < st.kept.length := by
        unfold inS at hi
        simpa using hi
      obtain ⟨sn, rfl⟩ := Int.eq_ofNat_of_zero_le hbd.1
      have hsn : sn < st.kept.length := by omega
      have hr0 := p.ok.reads
      have wr1 : IntKind.i64.wrap (st.reads + 1) = st.reads + 1 := by rw [IntKind.wrap_i64]; omega
      have P := Lib.hid p
      have hd : d < w.heap.size := hz d (p.z d (.inl rfl))
      have hne := p.ne
      have hwf : (Lit.int .i64 (sn : Int)).wf = true := by
        have := p.ok.n
        simp [Lit.wf, IntKind.min, IntKind.max, IntKind.signed, IntKind.bits]
        omega
      have hP2 : DkP (w.setCell ⟨d, 8, none⟩ (.int .i64 (st.reads + 1))) Z d kb mb pv kv vals pvs { st with reads := st.reads + 1 } := by
        refine p.re (fun x _ hne => heap_setCell_other w ⟨d, 8, none⟩ x _ hne) ?_ rfl rfl rfl rfl ⟨p.ok.size, p.ok.n, p.ok.kept, p.ok.pend, p.ok.armed, p.ok.few, p.ok.writes, ⟨by show 0 ≤ st.reads + 1; omega, hrd⟩⟩
        rw [heap_setCell_same w d 8 _ _ _ p.row]
        simp
      have hlk := map_look hP2.map (sn : Int) hwf
      have HP2 := Lib.hid hP2
      have hT2 : Hid (Tnd Z Z w (w.setCell ⟨d, 8, none⟩ (.int .i64 (st.reads + 1)))) := ⟨rfl, rfl, rfl, by simp, fun x _ hzx => heap_setCell_other w ⟨d, 8, none⟩ x _ (fun e => hzx (by rw [show x = d from e]; exact P.out.z d (.inl rfl))), fun x h => .inl h⟩
      clear ho hi e1 e2 e3 hP2 hwf
      cases hlo : lastOf st.pend (sn : Int) with
      | none =>
        have hE : secB st (Int.toNat sn) = (st.kept[sn]?).getD [] := by
          unfold secB
          rw [show (((Int.toNat sn : Nat)) : Int) = sn by omega, hlo]
          rfl
        rw [hE]
        replace hlk : (Instr.lookup 67 (.map (some mb)) (.agg #[.int .i64 (sn : Int)]) true).run Try.prog (w.setCell ⟨d, 8, none⟩ (.int .i64 (st.reads + 1))) = .ok (.tuple #[.int .i64 0, .bool false]) (w.setCell ⟨d, 8, none⟩ (.int .i64 (st.reads + 1))) := by
          rw [hlk]
          simp only [hlo]
          rfl
        clear hlo hE p
        go_enter Try.func23, Try.ntmps23
        go_wp2_with fail
        refine (off_any Z d st w H.out).mono ?_
        rintro e w1 ⟨rfl, rfl⟩
        rw [HO.out]
        go_wp2_with fail
        refine (there_any Z d st (sn : Int) w H.out).mono ?_
        rintro e w2 ⟨rfl, rfl⟩
        rw [HI.out]
        go_wp2_with fail
        refine (bytes_any Z d { st with reads := st.reads + 1 } sn (w.setCell ⟨d, 8, none⟩ (.int .i64 (st.reads + 1))) ⟨fun x hx => by simpa using hz x hx, kb, mb, pv, kv, vals, pvs, HP2.out⟩ hsn).mono ?_
        rintro e w2 ⟨v2, rfl, ho2, hb2⟩
        obtain ⟨a2, n2, k2, hv2⟩ : ∃ a n k, v2 = .slice a n k := by obtain ⟨a, k, h⟩ := ho2.shape; exact ⟨a, _, k, h⟩
        have HO2 := Lib.hid ho2
        have HB2 := Lib.hid hb2
        subst hv2
        clear ho2 hb2
        go_wp2_with fail
        go_ret2
        have hsz8 : (w.setCell ⟨d, 8, none⟩ (.int .i64 (st.reads + 1))).heap.size = w.heap.size := by simp
        refine ⟨_, rfl, by have := HO2.out; rw [hsz8] at this; exact this, DkIn.below ⟨fun x hx => by simpa using hz x hx, kb, mb, pv, kv, vals, pvs, HP2.out⟩ HB2.out, hT2.out.trans ⟨HB2.out.os, HB2.out.tape, HB2.out.output, HB2.out.size, fun x hx _ => HB2.out.block x hx, fun x h => .inl h⟩⟩
      | some i =>
        obtain ⟨k, rfl, hk, b, hpk⟩ := lastOf_some hlo
        have hE : secB st (Int.toNat sn) = b := by
          unfold secB
          rw [show (((Int.toNat sn : Nat)) : Int) = sn by omega, hlo]
          show ((st.pend[Int.toNat k]?).map (·.2)).getD [] = b
          rw [Int.toNat_natCast, hpk]
          rfl
        rw [hE]
        replace hlk : (Instr.lookup 67 (.map (some mb)) (.agg #[.int .i64 (sn : Int)]) true).run Try.prog (w.setCell ⟨d, 8, none⟩ (.int .i64 (st.reads + 1))) = .ok (.tuple #[.int .i64 (k : Int), .bool true]) (w.setCell ⟨d, 8, none⟩ (.int .i64 (st.reads + 1))) := by
          rw [hlk]
          simp only [hlo]
          rfl
        obtain ⟨v, hvk, hv⟩ := p.pvals.get hpk
        obtain ⟨g, ⟨cg, hpv⟩, _, hgc2⟩ := pend_cells p.prow hvk hpk hk
        obtain ⟨b9, o9, n9, c9, rfl, hr9, hn9, hm9, hz9⟩ := hv
        have hgd : g ≠ d := (p.rm g (by rw [hpv]; rfl)).1
        rw [show 2 * k + 1 = k * 2 + 1 by omega] at hgc2
        rw [hpv] at c5
        have hpok := (p.ok.pend _ (List.mem_of_getElem? hpk)).1
        have hszb := p.ok.size
        have h9 : n9 ≤ 1000000000 := by
          have hl1 : b.length = st.size := hpok
          have hl2 : b.length = n9 := hr9.len
          omega
        have HR9 := Lib.hid (RdAt.at (w' := w.setCell ⟨d, 8, none⟩ (.int .i64 (st.reads + 1))) hr9 (heap_setCell_other w ⟨d, 8, none⟩ b9 _ (fun e => hm9 (.inl e))))
        have HPV := Lib.hid hpv
        have hdk : decide ((k : Int) < st.pend.length) = true := decide_eq_true (by omega)
        clear hlo hE p hvk hpk hr9 hm9 hz9 hpv hpok hszb
        go_enter Try.func23, Try.ntmps23
        go_wp2_with fail
        refine (off_any Z d st w H.out).mono ?_
        rintro e w1 ⟨rfl, rfl⟩
        rw [HO.out]
        go_wp2_with fail
        refine (there_any Z d st (sn : Int) w H.out).mono ?_
        rintro e w2 ⟨rfl, rfl⟩
        rw [HI.out]
        go_wp2_with fail
        refine (clone_any _ _ _ _ _ HR9.out h9).mono ?_
        rintro e w2 ⟨v2, rfl, ho2, hb2⟩
        obtain ⟨a2, n2, k2, hv2⟩ : ∃ a n k, v2 = .slice a n k := by obtain ⟨a, k, h⟩ := ho2.shape; exact ⟨a, _, k, h⟩
        have HO2 := Lib.hid ho2
        have HB2 := Lib.hid hb2
        subst hv2
        clear ho2 hb2
        go_wp2_with fail
        go_ret2
        have hsz8 : (w.setCell ⟨d, 8, none⟩ (.int .i64 (st.reads + 1))).heap.size = w.heap.size := by simp
        refine ⟨_, rfl, by have := HO2.out; rw [hsz8] at this; exact this, DkIn.below ⟨fun x hx => by simpa using hz x hx, kb, mb, pv, kv, vals, pvs, HP2.out⟩ HB2.out, hT2.out.trans ⟨HB2.out.os, HB2.out.tape, HB2.out.output, HB2.out.size, fun x hx _ => HB2.out.block x hx, fun x h => .inl h⟩⟩
end Go.Proofs.Ytcbnebcooiagmaa
