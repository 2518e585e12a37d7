/- Joined: the reference's super: Decode. A map of places: what it tells, laid, cleared. A disk: what it is, what becomes of it; where it lies. -/
import Derived.Test.YtcbnebcooiagmaaJy13
import Derived.Test.YtcbnebcooiagmaaJy12
import Derived.Test.YtcbnebcooiagmaaProg
import Derived.Maps.Keyed
import Derived.DeepKeys4
import Derived.ProofKit
import Derived.WalkKit
import Derived.Test.YtcbnebcooiagmaaJy1
import Derived.Test.YtcbnebcooiagmaaJy3
namespace Go.Proofs.Ytcbnebcooiagmaa
open Go.RowKit
theorem magic_is {M : List Int} (hb : Bytes M) : ((strOfNums M).toList == [65, 76, 77, 65, 78, 65, 67, 49]) = decide (M = magicL) := by
  have e : (strOfNums magicL).toList = [65, 76, 77, 65, 78, 65, 67, 49] := by rw [ByteArray.toList_eq, strOfNums_data]; rfl
  rw [← e]
  by_cases h : M = magicL
  · rw [h]; simp
  · rw [decide_eq_false h]
    rw [beq_eq_false_iff_ne]
    exact fun e2 => h (str_inj hb (by intro y hy; simp [magicL] at hy; omega) e2)
theorem no8 (x0 x1 x2 x3 x4 x5 x6 x7 x8 x9 x10 x11 x12 v : Int) (i : Nat) : (#[Value.int .u64 x0, .int .i64 x1, .int .i64 x2, .int .i64 x3, .int .i64 x4, .int .i64 x5, .int .i64 x6, .int .i64 x7, .int .i64 x8, .int .i64 x9, .int .i64 x10, .int .i64 x11, .int .u64 x12] : Array Value)[i]? ≠ some (.int .u8 v) := by
  intro h
  rcases i with _ | _ | _ | _ | _ | _ | _ | _ | _ | _ | _ | _ | _ | i <;> simp at h
theorem RRIn.apartB {w w' : World} {h bb : Nat} {l : List Int} {e : Int} {T : TypeId} {x0 x1 x2 x3 x4 x5 x6 x7 x8 x9 x10 x11 x12 : Int} (r : RRIn w h l e) (row : w.heap[bb]? = some (.cells #[.int .u64 x0, .int .i64 x1, .int .i64 x2, .int .i64 x3, .int .i64 x4, .int .i64 x5, .int .i64 x6, .int .i64 x7, .int .i64 x8, .int .i64 x9, .int .i64 x10, .int .i64 x11, .int .u64 x12] T (0, 0))) (hg : w.grownBy w' (some bb)) (hk : h ≠ bb) : RRIn w' h l e := by
  obtain ⟨a, n, c, r⟩ := r
  refine ⟨a, n, c, r.apart hg hk (fun q hq hn hb => ?_)⟩
  obtain ⟨b, o, e1, hc⟩ := r.rd.cell 0 hn
  rw [hq] at e1
  injection e1 with e1
  subst e1
  replace hb : b = bb := hb
  subst hb
  rw [cell_of_row w _ _ _ _ _ row] at hc
  exact no8 _ _ _ _ _ _ _ _ _ _ _ _ _ _ _ hc
set_option linter.unusedSimpArgs false in
set_option linter.unusedVariables false in
set_option maxRecDepth 100000 in
set_option maxHeartbeats 8000000 in
theorem refdec_short (a : Option Addr) (n c : Nat) (s : List Int) (w : World) (hr : RdAt .u8 w a n c s) (hn : n ≤ 100000) (h : n < 64) :
    Calls Try.prog 13 #[.slice a n c] w fun e w' => e = .returned (.tuple #[(refD s).val, .int .i64 (refDE s)]) ∧ Below w.heap.size w w' := by
  have hE : refDE s = 23 := by unfold refDE; rw [if_pos (.inl (by rw [hr.len]; exact h))]
  have hD : refD s = blk0 := by unfold refD; rw [if_neg (by rw [hE]; decide)]
  rw [hE, hD]
  clear hE hD hr
  go_enter Try.func13, Try.ntmps13
  go_wp2_with fail
  refine bodyPost_ret (v := .tuple #[.agg #[.int .u64 0, .int .i64 0, .int .i64 0, .int .i64 0, .int .i64 0, .int .i64 0, .int .i64 0, .int .i64 0, .int .i64 0, .int .i64 0, .int .i64 0, .int .i64 0, .int .u64 0], .int .i64 23]) (by simp [results, Try.results13, go_sem]) rfl ⟨rfl, (Below.refl _ _).alloc (Nat.le_refl _) _⟩
set_option linter.unusedSimpArgs false in
set_option linter.unusedVariables false in
set_option maxRecDepth 100000 in
set_option maxHeartbeats 8000000 in
theorem refdec_unsealed (a : Option Addr) (n c : Nat) (s : List Int) (w : World) (hr : RdAt .u8 w a n c s) (hn : n ≤ 100000) (h : 64 ≤ n) (ho : openOk s = false) :
    Calls Try.prog 13 #[.slice a n c] w fun e w' => e = .returned (.tuple #[(refD s).val, .int .i64 (refDE s)]) ∧ Below w.heap.size w w' := by
  have hE : refDE s = 23 := by unfold refDE; rw [if_pos (.inr ho)]
  have hD : refD s = blk0 := by unfold refD; rw [if_neg (by rw [hE]; decide)]
  have hoe : openE s = 23 := by unfold openE; rw [if_neg (by rw [hr.len]; omega), if_neg (by rw [ho]; decide)]
  have hol : openL s = [] := by unfold openL; rw [if_neg (by rw [ho]; decide)]
  have HOE := Lib.hid hoe
  have HOL := Lib.hid hol
  rw [hE, hD]
  clear hE hD hoe hol ho
  have hba : Below w.heap.size w (w.alloc (.cells #[.int .u64 0, .int .i64 0, .int .i64 0, .int .i64 0, .int .i64 0, .int .i64 0, .int .i64 0, .int .i64 0, .int .i64 0, .int .i64 0, .int .i64 0, .int .i64 0, .int .u64 0] 36)) := (Below.refl _ _).alloc (Nat.le_refl _) _
  have hrow := heap_alloc_new w (.cells #[.int .u64 0, .int .i64 0, .int .i64 0, .int .i64 0, .int .i64 0, .int .i64 0, .int .i64 0, .int .i64 0, .int .i64 0, .int .i64 0, .int .i64 0, .int .i64 0, .int .u64 0] 36)
  have hr1 := hr.below hba
  have hrb0 := fun w' (b : Below w.heap.size w w') => hr.below b
  obtain ⟨rb, hrb⟩ : ∃ rb, w.heap.size = rb := ⟨_, rfl⟩
  obtain ⟨wa, hwa⟩ : ∃ wa, w.alloc (.cells #[.int .u64 0, .int .i64 0, .int .i64 0, .int .i64 0, .int .i64 0, .int .i64 0, .int .i64 0, .int .i64 0, .int .i64 0, .int .i64 0, .int .i64 0, .int .i64 0, .int .u64 0] 36) = wa := ⟨_, rfl⟩
  rw [hwa, hrb] at hba hrow
  rw [hwa] at hr1
  rw [hrb] at hrb0
  have HBA := Lib.hid hba
  have HROW := Lib.hid hrow
  have HRB := Lib.hid hrb
  have HWA := Lib.hid hwa
  have HR1 := Lib.hid hr1
  have HS := Lib.hid hrb0
  have HLEN := Lib.hid hr.len
  have hlt : rb < wa.heap.size := (Array.getElem?_eq_some_iff.1 hrow).1
  clear hba hrow hrb hwa hr1 hrb0 hr
  go_enter Try.func13, Try.ntmps13
  go_wp2_with fail
  rw [HWA.out, HRB.out]
  refine (refopen_any a n c s wa HR1.out (by omega)).mono ?_
  rintro e w1 ⟨v1, rfl, ho1, hb1⟩
  rw [HOE.out]
  rw [HOL.out] at ho1
  obtain ⟨a1, c1, rfl⟩ := ho1.shapeN 0 rfl
  have ROW1 := Lib.hid (row_keep HROW.out hb1)
  have B1 := Lib.hid (Below.trans HBA.out (hb1.mono (Nat.le_of_lt hlt)))
  clear ho1 hb1
  obtain ⟨r0, r1, r2, r3, r4, r5, r6, r7, r8, r9, r10, r11, r12⟩ := cells13 ROW1.out
  have hrf : ∀ i, w1.frozen? ⟨rb, i, none⟩ = false := fun i => frozen_of_row w1 rb i _ _ ROW1.out
  go_wp2_with fail
  change bodyPost _ _ _ _ _ (sets w1 rb [(0, .int .u64 0), (1, .int .i64 0), (2, .int .i64 0), (3, .int .i64 0), (4, .int .i64 0), (5, .int .i64 0), (6, .int .i64 0), (7, .int .i64 0), (8, .int .i64 0), (9, .int .i64 0), (10, .int .i64 0), (11, .int .i64 0), (12, .int .u64 0)])
  obtain ⟨hrow, hbel⟩ := res_end ROW1.out B1.out [(0, .int .u64 0), (1, .int .i64 0), (2, .int .i64 0), (3, .int .i64 0), (4, .int .i64 0), (5, .int .i64 0), (6, .int .i64 0), (7, .int .i64 0), (8, .int .i64 0), (9, .int .i64 0), (10, .int .i64 0), (11, .int .i64 0), (12, .int .u64 0)]
  generalize sets w1 rb [(0, .int .u64 0), (1, .int .i64 0), (2, .int .i64 0), (3, .int .i64 0), (4, .int .i64 0), (5, .int .i64 0), (6, .int .i64 0), (7, .int .i64 0), (8, .int .i64 0), (9, .int .i64 0), (10, .int .i64 0), (11, .int .i64 0), (12, .int .u64 0)] = w9 at *
  rw [fold13] at hrow
  clear r0 r1 r2 r3 r4 r5 r6 r7 r8 r9 r10 r11 r12 hrf
  obtain ⟨r0, r1, r2, r3, r4, r5, r6, r7, r8, r9, r10, r11, r12⟩ := cells13 hrow
  refine bodyPost_ret (v := .tuple #[.agg #[.int .u64 0, .int .i64 0, .int .i64 0, .int .i64 0, .int .i64 0, .int .i64 0, .int .i64 0, .int .i64 0, .int .i64 0, .int .i64 0, .int .i64 0, .int .i64 0, .int .u64 0], .int .i64 23]) (by simp [results, Try.results13, go_sem, r0, r1, r2, r3, r4, r5, r6, r7, r8, r9, r10, r11, r12]) rfl ?_
  rw [HRB.out]
  exact ⟨rfl, hbel⟩
set_option linter.unusedSimpArgs false in
set_option linter.unusedVariables false in
set_option maxRecDepth 100000 in
set_option maxHeartbeats 8000000 in
theorem refdec_long (a : Option Addr) (n c : Nat) (s : List Int) (w : World) (hr : RdAt .u8 w a n c s) (hn : n ≤ 100000) (h64 : 64 ≤ n) (ho : openOk s = true) :
    Calls Try.prog 13 #[.slice a n c] w fun e w' => e = .returned (.tuple #[(refD s).val, .int .i64 (refDE s)]) ∧ Below w.heap.size w w' := by
  have hoe : openE s = 0 := by unfold openE; rw [if_neg (by rw [hr.len]; omega), if_pos ho]
  have hol : openL s = front s := by unfold openL; rw [if_pos ho]; rfl
  have hbs := hr.bytes
  have HBS := Lib.hid hbs
  have HOK := Lib.hid ho
  have HOE := Lib.hid hoe
  have HOL := Lib.hid hol
  clear hoe hol ho hbs
  have hba : Below w.heap.size w (w.alloc (.cells #[.int .u64 0, .int .i64 0, .int .i64 0, .int .i64 0, .int .i64 0, .int .i64 0, .int .i64 0, .int .i64 0, .int .i64 0, .int .i64 0, .int .i64 0, .int .i64 0, .int .u64 0] 36)) := (Below.refl _ _).alloc (Nat.le_refl _) _
  have hrow := heap_alloc_new w (.cells #[.int .u64 0, .int .i64 0, .int .i64 0, .int .i64 0, .int .i64 0, .int .i64 0, .int .i64 0, .int .i64 0, .int .i64 0, .int .i64 0, .int .i64 0, .int .i64 0, .int .u64 0] 36)
  have hr1 := hr.below hba
  have hrb0 := fun w' (b : Below w.heap.size w w') => hr.below b
  obtain ⟨rb, hrb⟩ : ∃ rb, w.heap.size = rb := ⟨_, rfl⟩
  obtain ⟨wa, hwa⟩ : ∃ wa, w.alloc (.cells #[.int .u64 0, .int .i64 0, .int .i64 0, .int .i64 0, .int .i64 0, .int .i64 0, .int .i64 0, .int .i64 0, .int .i64 0, .int .i64 0, .int .i64 0, .int .i64 0, .int .u64 0] 36) = wa := ⟨_, rfl⟩
  rw [hwa, hrb] at hba hrow
  rw [hwa] at hr1
  rw [hrb] at hrb0
  have HBA := Lib.hid hba
  have HROW := Lib.hid hrow
  have HRB := Lib.hid hrb
  have HWA := Lib.hid hwa
  have HR1 := Lib.hid hr1
  have HS := Lib.hid hrb0
  have HLEN := Lib.hid hr.len
  have hlt : rb < wa.heap.size := (Array.getElem?_eq_some_iff.1 hrow).1
  clear hba hrow hrb hwa hr1 hrb0 hr
  obtain ⟨x, hx⟩ : ∃ x, front s = x := ⟨_, rfl⟩
  obtain ⟨nx, hnx⟩ : ∃ nx, n - 4 = nx := ⟨_, rfl⟩
  have hxl : x.length = nx := by rw [← hx]; unfold front; rw [List.length_take, HLEN.out]; omega
  have hbx : Bytes x := by rw [← hx]; exact front_bytes HBS.out
  have HX := Lib.hid hx
  have HXL := Lib.hid hxl
  have HBX := Lib.hid hbx
  have hn60 : 60 ≤ nx := by omega
  have hn61 : nx ≤ 100000 := by omega
  clear hx hnx hxl hbx
  go_enter Try.func13, Try.ntmps13
  go_wp2_with fail
  rw [HWA.out, HRB.out]
  refine (refopen_any a n c s wa HR1.out (by omega)).mono ?_
  rintro e w1 ⟨v1, rfl, ho1, hb1⟩
  rw [HOE.out]
  rw [HOL.out, HX.out] at ho1
  obtain ⟨a1, cx, rfl⟩ := ho1.shapeN nx HXL.out
  obtain ⟨gx, rfl, hgx1, hgx2, _, _⟩ := ho1.cellAt 0 (by rw [HXL.out]; omega)
  have hcx := ho1.rd.cap
  have hmx := ho1.rd.max
  unfold maxLen at hmx
  have h8 : ¬ cx = 8 := by omega
  have h16 : ¬ cx = 16 := by omega
  have h24 : ¬ cx = 24 := by omega
  obtain ⟨bb, hbb⟩ : ∃ bb, w1.heap.size = bb := ⟨_, rfl⟩
  have ST0 : Hid (DecSt 36 w (w1.alloc (.cells #[.int .u64 0, .int .i64 0, .int .i64 0, .int .i64 0, .int .i64 0, .int .i64 0, .int .i64 0, .int .i64 0, .int .i64 0, .int .i64 0, .int .i64 0, .int .i64 0, .int .u64 0] 36)) rb bb #[.int .u64 0, .int .i64 0, .int .i64 0, .int .i64 0, .int .i64 0, .int .i64 0, .int .i64 0, .int .i64 0, .int .i64 0, .int .i64 0, .int .i64 0, .int .i64 0, .int .u64 0] gx nx cx x) := by
    have hal := (Below.refl w1.heap.size w1).alloc (Nat.le_refl _) (.cells #[.int .u64 0, .int .i64 0, .int .i64 0, .int .i64 0, .int .i64 0, .int .i64 0, .int .i64 0, .int .i64 0, .int .i64 0, .int .i64 0, .int .i64 0, .int .i64 0, .int .u64 0] 36)
    refine ⟨row_keep (row_keep HROW.out hb1) hal, by rw [← hbb]; exact heap_alloc_new _ _, ho1.rd.below hal, Below.trans (Below.trans HBA.out (hb1.mono (Nat.le_of_lt hlt))) (hal.mono (by have := hb1.size; omega)), by omega⟩
  obtain ⟨w2, hw2⟩ : ∃ w2, w1.alloc (.cells #[.int .u64 0, .int .i64 0, .int .i64 0, .int .i64 0, .int .i64 0, .int .i64 0, .int .i64 0, .int .i64 0, .int .i64 0, .int .i64 0, .int .i64 0, .int .i64 0, .int .u64 0] 36) = w2 := ⟨_, rfl⟩
  rw [hw2] at ST0
  have HBB := Lib.hid hbb
  have HW2 := Lib.hid hw2
  clear hbb hw2 ho1 hb1 hgx1
  obtain ⟨EP, hEP⟩ : ∃ EP, getK (x.drop 8) 8 = EP := ⟨_, rfl⟩
  obtain ⟨SQ, hSQ⟩ : ∃ SQ, getK (x.drop 16) 8 = SQ := ⟨_, rfl⟩
  have HG8 : Hid (getV (x.drop 8) (nx - 8) 8 = EP) := by show _ = _; unfold getV getOk; rw [if_pos (by simp; omega)]; exact hEP
  have HG16 : Hid (getV (x.drop 16) (nx - 16) 8 = SQ) := by show _ = _; unfold getV getOk; rw [if_pos (by simp; omega)]; exact hSQ
  have HEP := Lib.hid hEP
  have HSQ := Lib.hid hSQ
  clear hEP hSQ
  have hrt := RdAt.take ST0.out.rd 8 (by omega)
  have k0 := conv_rd (P := Try.prog) u8T s8 su hrt
  obtain ⟨M, hM⟩ : ∃ M, x.take 8 = M := ⟨_, rfl⟩
  have hbm : Bytes M := by rw [← hM]; exact fun y hy => HBX.out y (List.mem_of_mem_take hy)
  have hmm := magic_is hbm
  rw [hM] at k0
  have HM := Lib.hid hM
  rw [← HW2.out] at k0
  clear hM hrt hbm
  have hlong := refDE_long (s := s) (by rw [HLEN.out]; exact h64) HOK.out
  rw [HX.out, HXL.out, HM.out] at hlong
  by_cases hmg : M = magicL
  rotate_left
  · have hE : refDE s = 22 := by rw [hlong]; exact if_neg (fun e => hmg e.1)
    have hD : refD s = blk0 := by unfold refD; rw [if_neg (by rw [hE]; decide)]
    have dM : ((strOfNums M).toList == [65, 76, 77, 65, 78, 65, 67, 49]) = false := by rw [hmm]; exact decide_eq_false hmg
    have HE := Lib.hid hE
    have HD := Lib.hid hD
    clear hE hD hlong hmm hmg
    have hra : (w1.alloc (.cells #[.int .u64 0, .int .i64 0, .int .i64 0, .int .i64 0, .int .i64 0, .int .i64 0, .int .i64 0, .int .i64 0, .int .i64 0, .int .i64 0, .int .i64 0, .int .i64 0, .int .u64 0] 36)).heap[rb]? = some (.cells #[.int .u64 0, .int .i64 0, .int .i64 0, .int .i64 0, .int .i64 0, .int .i64 0, .int .i64 0, .int .i64 0, .int .i64 0, .int .i64 0, .int .i64 0, .int .i64 0, .int .u64 0] 36 (0, 0)) := by rw [HW2.out]; exact ST0.out.res
    obtain ⟨r0, r1, r2, r3, r4, r5, r6, r7, r8, r9, r10, r11, r12⟩ := cells13 hra
    have hrf : ∀ i, (w1.alloc (.cells #[.int .u64 0, .int .i64 0, .int .i64 0, .int .i64 0, .int .i64 0, .int .i64 0, .int .i64 0, .int .i64 0, .int .i64 0, .int .i64 0, .int .i64 0, .int .i64 0, .int .u64 0] 36)).frozen? ⟨rb, i, none⟩ = false := fun i => frozen_of_row _ rb i _ _ hra
    clear hra
    go_wp2_with fail
    rw [HW2.out]
    change bodyPost _ _ _ _ _ (sets w2 rb [(0, .int .u64 0), (1, .int .i64 0), (2, .int .i64 0), (3, .int .i64 0), (4, .int .i64 0), (5, .int .i64 0), (6, .int .i64 0), (7, .int .i64 0), (8, .int .i64 0), (9, .int .i64 0), (10, .int .i64 0), (11, .int .i64 0), (12, .int .u64 0)])
    obtain ⟨hrow, hbel⟩ := res_end ST0.out.res ST0.out.below [(0, .int .u64 0), (1, .int .i64 0), (2, .int .i64 0), (3, .int .i64 0), (4, .int .i64 0), (5, .int .i64 0), (6, .int .i64 0), (7, .int .i64 0), (8, .int .i64 0), (9, .int .i64 0), (10, .int .i64 0), (11, .int .i64 0), (12, .int .u64 0)]
    generalize sets w2 rb [(0, .int .u64 0), (1, .int .i64 0), (2, .int .i64 0), (3, .int .i64 0), (4, .int .i64 0), (5, .int .i64 0), (6, .int .i64 0), (7, .int .i64 0), (8, .int .i64 0), (9, .int .i64 0), (10, .int .i64 0), (11, .int .i64 0), (12, .int .u64 0)] = w19 at *
    rw [fold13] at hrow
    clear r0 r1 r2 r3 r4 r5 r6 r7 r8 r9 r10 r11 r12 hrf
    obtain ⟨r0, r1, r2, r3, r4, r5, r6, r7, r8, r9, r10, r11, r12⟩ := cells13 hrow
    refine bodyPost_ret (v := .tuple #[.agg #[.int .u64 0, .int .i64 0, .int .i64 0, .int .i64 0, .int .i64 0, .int .i64 0, .int .i64 0, .int .i64 0, .int .i64 0, .int .i64 0, .int .i64 0, .int .i64 0, .int .u64 0], .int .i64 22]) (by simp [results, Try.results13, go_sem, r0, r1, r2, r3, r4, r5, r6, r7, r8, r9, r10, r11, r12]) rfl ?_
    rw [HE.out, HD.out, HRB.out]
    exact ⟨rfl, hbel⟩
  have dM : ((strOfNums M).toList == [65, 76, 77, 65, 78, 65, 67, 49]) = true := by rw [hmm]; exact decide_eq_true hmg
  have HMG := Lib.hid hmg
  have HLG := Lib.hid hlong
  clear hmm hmg hlong
  go_wp2_with fail
  rw [HW2.out, HBB.out]
  clear dM k0
  refine (rget_any (some ⟨gx, 8, none⟩) (nx - 8) (cx - 8) _ 8 w2 (show RdAt .u8 w2 (some ⟨gx, 8, none⟩) (nx - 8) (cx - 8) (x.drop 8) by have := ST0.out.rd.drop 8 (by omega); simpa using this)).mono ?_
  rintro e w' ⟨rfl, rfl⟩
  rw [HG8.out]
  obtain ⟨q0, q1, q2, q3, q4, q5, q6, q7, q8, q9, q10, q11, q12⟩ := cells13 ST0.out.blk
  have hbf : ∀ i, w2.frozen? ⟨bb, i, none⟩ = false := fun i => frozen_of_row w2 bb i _ _ ST0.out.blk
  go_wp2_with fail
  clear q0 q1 q2 q3 q4 q5 q6 q7 q8 q9 q10 q11 q12 hbf
  have ST1 : Hid (DecSt 36 w (sets w2 bb [(0, .int .u64 EP)]) rb bb #[.int .u64 EP, .int .i64 0, .int .i64 0, .int .i64 0, .int .i64 0, .int .i64 0, .int .i64 0, .int .i64 0, .int .i64 0, .int .i64 0, .int .i64 0, .int .i64 0, .int .u64 0] gx nx cx x) := ST0.out.set [(0, .int .u64 EP)]
  obtain ⟨w3, hw3⟩ : ∃ w3, sets w2 bb [(0, .int .u64 EP)] = w3 := ⟨_, rfl⟩
  rw [hw3] at ST1
  have HW3 := Lib.hid hw3
  clear hw3
  change Calls _ _ _ (sets w2 bb [(0, .int .u64 EP)]) _
  rw [HW3.out]
  refine (rget_any (some ⟨gx, 16, none⟩) (nx - 16) (cx - 16) _ 8 w3 (show RdAt .u8 w3 (some ⟨gx, 16, none⟩) (nx - 16) (cx - 16) (x.drop 16) by have := ST1.out.rd.drop 16 (by omega); simpa using this)).mono ?_
  rintro e w' ⟨rfl, rfl⟩
  rw [HG16.out]
  obtain ⟨q0, q1, q2, q3, q4, q5, q6, q7, q8, q9, q10, q11, q12⟩ := cells13 ST1.out.blk
  have hbf : ∀ i, w3.frozen? ⟨bb, i, none⟩ = false := fun i => frozen_of_row w3 bb i _ _ ST1.out.blk
  go_wp2_with fail
  clear q0 q1 q2 q3 q4 q5 q6 q7 q8 q9 q10 q11 q12 hbf
  have ST2 : Hid (DecSt 36 w (sets w3 bb [(12, .int .u64 SQ)]) rb bb #[.int .u64 EP, .int .i64 0, .int .i64 0, .int .i64 0, .int .i64 0, .int .i64 0, .int .i64 0, .int .i64 0, .int .i64 0, .int .i64 0, .int .i64 0, .int .i64 0, .int .u64 SQ] gx nx cx x) := ST1.out.set [(12, .int .u64 SQ)]
  obtain ⟨w4, hw4⟩ : ∃ w4, sets w3 bb [(12, .int .u64 SQ)] = w4 := ⟨_, rfl⟩
  rw [hw4] at ST2
  have HW4 := Lib.hid hw4
  clear hw4
  change Calls _ _ _ ((sets w3 bb [(12, .int .u64 SQ)]).alloc _) _
  rw [HW4.out]
  have hz : w3.heap.size = w4.heap.size := by rw [← HW4.out]; simp [sets]
  rw [hz]
  clear hz
  have hrd := (show RdAt .u8 w4 (some ⟨gx, 24, none⟩) (nx - 24) (cx - 24) (x.drop 24) by have := ST2.out.rd.drop 24 (by omega); simpa using this)
  have hal := (Below.refl w4.heap.size w4).alloc (Nat.le_refl _) (.cells #[.slice (some ⟨gx, 24, none⟩) (nx - 24) (cx - 24), .int .i64 0] 103)
  have R5a : RRIn (w4.alloc (.cells #[.slice (some ⟨gx, 24, none⟩) (nx - 24) (cx - 24), .int .i64 0] 103)) w4.heap.size (x.drop 24) 0 := RRIn.made (heap_alloc_new _ _) (hrd.below hal) (fun q hq _ => by injection hq with hq; rw [← hq]; have h1 := ST2.out.lt; have h2 := ST2.out.bbLt; show gx < _; omega)
  have ST3a := ST2.out.next hal
  have hbh : bb < w4.heap.size := ST2.out.bbLt
  obtain ⟨h, hh⟩ : ∃ h, w4.heap.size = h := ⟨_, rfl⟩
  obtain ⟨w5, hw5⟩ : ∃ w5, w4.alloc (.cells #[.slice (some ⟨gx, 24, none⟩) (nx - 24) (cx - 24), .int .i64 0] 103) = w5 := ⟨_, rfl⟩
  rw [hw5, hh] at R5a ⊢
  rw [hw5] at ST3a
  rw [hh] at hbh
  have R5 := Lib.hid R5a
  have ST3 := Lib.hid ST3a
  have HBH := Lib.hid hbh
  clear R5a ST3a hal hrd hbh hh hw5
  refine (rrBytes_any h nx (x.drop 24) 0 w5 R5.out (by rw [List.length_drop, HXL.out]; omega)).mono ?_
  rintro e w6 ⟨hg6, hr6, v6, rfl, ho6⟩
  obtain ⟨⟨E1, SH, l1⟩, hT1⟩ : ∃ T, rdFrom 0 [] (x.drop 24) (rdBytes nx (x.drop 24)) = T := ⟨_, rfl⟩
  rw [hT1] at hr6 ho6
  have hshl : SH.length ≤ 100000 := by
    have h1 := rdBytes_vlen nx (x.drop 24)
    rw [rdFrom_ok] at hT1
    rw [hT1, List.length_drop, HXL.out] at h1
    have h2 : SH.length ≤ nx - 24 := h1
    omega
  obtain ⟨ns, hns⟩ : ∃ ns, SH.length = ns := ⟨_, rfl⟩
  replace ho6 : Owns .u8 5 w6 w5.heap.size v6 SH := ho6
  obtain ⟨ash, csh, rfl⟩ := ho6.shapeN ns hns
  rw [hns] at hshl
  have HT1 := Lib.hid hT1
  have ST4 := Lib.hid (ST3.out.apart hg6 HBH.out)
  have R6 := Lib.hid hr6
  have O6 := Lib.hid ho6
  have HHL : Hid (h < w5.heap.size) := R5.out.lt
  clear hg6 hr6 ho6 hT1 hns
  go_wp2_with fail
  refine (rrInt_any h l1 E1 w6 R6.out).mono ?_
  rintro e w7 ⟨hg7, hr7, v7, rfl, hv7⟩
  obtain ⟨⟨E2, V1, l2⟩, hT2⟩ : ∃ T, rdFrom E1 0 l1 (rdInt l1) = T := ⟨_, rfl⟩
  rw [hT2] at hr7 hv7
  replace hv7 : v7 = .int .i64 V1 := hv7
  subst hv7
  have HT2 := Lib.hid hT2
  have ST5 := Lib.hid (ST4.out.apart hg7 HBH.out)
  have R7 := Lib.hid hr7
  have O7 := Lib.hid (O6.out.grown hg7 (fun g hg e => by have h1 := (O6.out.at_base g hg).1; have h2 := HHL.out; injection e with e; omega))
  clear hg7 hr7 hT2
  obtain ⟨q0, q1, q2, q3, q4, q5, q6, q7, q8, q9, q10, q11, q12⟩ := cells13 ST5.out.blk
  have hbf : ∀ i, w7.frozen? ⟨bb, i, none⟩ = false := fun i => frozen_of_row w7 bb i _ _ ST5.out.blk
  go_wp2_with fail
  clear q0 q1 q2 q3 q4 q5 q6 q7 q8 q9 q10 q11 q12 hbf
  have ST6 : Hid (DecSt 36 w (sets w7 bb [(10, .int .i64 V1)]) rb bb #[.int .u64 EP, .int .i64 0, .int .i64 0, .int .i64 0, .int .i64 0, .int .i64 0, .int .i64 0, .int .i64 0, .int .i64 0, .int .i64 0, .int .i64 V1, .int .i64 0, .int .u64 SQ] gx nx cx x) := ST5.out.set [(10, .int .i64 V1)]
  obtain ⟨w8, hw8⟩ : ∃ w8, sets w7 bb [(10, .int .i64 V1)] = w8 := ⟨_, rfl⟩
  rw [hw8] at ST6
  have HW8 := Lib.hid hw8
  clear hw8
  change Calls _ _ _ (sets w7 bb [(10, .int .i64 V1)]) _
  have R8 : Hid (RRIn w8 h l2 E2) := by
    show RRIn _ _ _ _
    rw [← HW8.out]
    exact R7.out.apartB ST5.out.blk (sets_grown _ _) (by have := HBH.out; omega)
  have O8 : Hid (Owns .u8 5 w8 w5.heap.size (.slice ash ns csh) SH) := by
    show Owns _ _ _ _ _ _
    rw [← HW8.out]
    exact O7.out.grown (sets_grown _ _) (fun g hg e => by have h1 := (O7.out.at_base g hg).1; have h2 := HHL.out; have h3 := HBH.out; injection e with e; omega)
  rw [HW8.out]
  refine (rrInt_any h l2 E2 w8 R8.out).mono ?_
  rintro e w9 ⟨hg9, hr9, v9, rfl, hv9⟩
  obtain ⟨⟨E3, V2, l3⟩, hT3⟩ : ∃ T, rdFrom E2 0 l2 (rdInt l2) = T := ⟨_, rfl⟩
  rw [hT3] at hr9 hv9
  replace hv9 : v9 = .int .i64 V2 := hv9
  subst hv9
  have HT3 := Lib.hid hT3
  have ST7 := Lib.hid (ST6.out.apart hg9 HBH.out)
  have R9 := Lib.hid hr9
  have O9 := Lib.hid (O8.out.grown hg9 (fun g hg e => by have h1 := (O8.out.at_base g hg).1; have h2 := HHL.out; injection e with e; omega))
  clear hg9 hr9 hT3 R6 R7 R8 O6 O7 O8
  obtain ⟨q0, q1, q2, q3, q4, q5, q6, q7, q8, q9, q10, q11, q12⟩ := cells13 ST7.out.blk
  have hbf : ∀ i, w9.frozen? ⟨bb, i, none⟩ = false := fun i => frozen_of_row w9 bb i _ _ ST7.out.blk
  go_wp2_with fail
  clear q0 q1 q2 q3 q4 q5 q6 q7 q8 q9 q10 q11 q12 hbf
  have ST8 : Hid (DecSt 36 w (sets w9 bb [(11, .int .i64 V2)]) rb bb #[.int .u64 EP, .int .i64 0, .int .i64 0, .int .i64 0, .int .i64 0, .int .i64 0, .int .i64 0, .int .i64 0, .int .i64 0, .int .i64 0, .int .i64 V1, .int .i64 V2, .int .u64 SQ] gx nx cx x) := ST7.out.set [(11, .int .i64 V2)]
  obtain ⟨w10, hw10⟩ : ∃ w10, sets w9 bb [(11, .int .i64 V2)] = w10 := ⟨_, rfl⟩
  rw [hw10] at ST8
  have HW10 := Lib.hid hw10
  clear hw10
  change Calls _ _ _ (sets w9 bb [(11, .int .i64 V2)]) _
  have R10 : Hid (RRIn w10 h l3 E3) := by
    show RRIn _ _ _ _
    rw [← HW10.out]
    exact R9.out.apartB ST7.out.blk (sets_grown _ _) (by have := HBH.out; omega)
  have O10 : Hid (Owns .u8 5 w10 w5.heap.size (.slice ash ns csh) SH) := by
    show Owns _ _ _ _ _ _
    rw [← HW10.out]
    exact O9.out.grown (sets_grown _ _) (fun g hg e => by have h1 := (O9.out.at_base g hg).1; have h2 := HHL.out; have h3 := HBH.out; injection e with e; omega)
  rw [HW10.out]
  refine (rdec_any ash ns csh SH w10 O10.out.rd hshl).mono ?_
  rintro e w11 ⟨rfl, hb11⟩
  have ST9 := Lib.hid (ST8.out.next hb11)
  have R11 := Lib.hid (R10.out.below hb11)
  clear hb11 O9 O10 R9 R10
  have hl8 := ST9.out.lt
  have hne1 : ¬ bb = rb := by omega
  have hne2 : ¬ rb = bb := by omega
  clear hl8
  have hDT : dT nx x = ⟨E1, SH, l1⟩ := HT1.out
  have hI1 : dI1 nx x = ⟨E2, V1, l2⟩ := by unfold dI1; rw [hDT]; exact HT2.out
  have hI2 : dI2 nx x = ⟨E3, V2, l3⟩ := by unfold dI2; rw [hI1]; exact HT3.out
  have hlong := HLG.out
  rw [hDT, hI2] at hlong
  cases hdb : decB SH with
  | false =>
    have hE : refDE s = 22 := by rw [hlong]; exact if_neg (by rw [hdb]; simp)
    have hD : refD s = blk0 := by unfold refD; rw [if_neg (by rw [hE]; decide)]
    have hC : decC SH = .agg #[.int .i64 0, .int .i64 0, .int .i64 0, .int .i64 0, .int .i64 0, .int .i64 0, .int .i64 0, .int .i64 0, .int .i64 0] := by unfold decC; rw [if_neg (by rw [hdb]; decide)]
    have hN : decN SH = 22 := by unfold decN; rw [if_neg (by rw [hdb]; decide)]
    have HE := Lib.hid hE
    have HD := Lib.hid hD
    rw [hC, hN]
    clear hE hD hC hN hDT hI1 hI2 hlong hdb
    have hal := (Below.refl w11.heap.size w11).alloc (Nat.le_refl _) (.cells #[.int .i64 0, .int .i64 0, .int .i64 0, .int .i64 0, .int .i64 0, .int .i64 0, .int .i64 0, .int .i64 0, .int .i64 0] 24)
    have ST10 := Lib.hid (ST9.out.next hal)
    obtain ⟨r0, r1, r2, r3, r4, r5, r6, r7, r8, r9, r10, r11, r12⟩ := cells13 ST10.out.res
    have hrf : ∀ i, (w11.alloc (.cells #[.int .i64 0, .int .i64 0, .int .i64 0, .int .i64 0, .int .i64 0, .int .i64 0, .int .i64 0, .int .i64 0, .int .i64 0] 24)).frozen? ⟨rb, i, none⟩ = false := fun i => frozen_of_row _ rb i _ _ ST10.out.res
    obtain ⟨ar, nr, cr, rr⟩ := R11.out.below hal
    obtain ⟨_, y1, _⟩ := rr.cells
    clear rr hal
    by_cases h3 : E3 = 0
    · subst h3
      go_wp2_with fail
      change bodyPost _ _ _ _ _ (sets (w11.alloc (.cells #[.int .i64 0, .int .i64 0, .int .i64 0, .int .i64 0, .int .i64 0, .int .i64 0, .int .i64 0, .int .i64 0, .int .i64 0] 24)) rb [(0, .int .u64 0), (1, .int .i64 0), (2, .int .i64 0), (3, .int .i64 0), (4, .int .i64 0), (5, .int .i64 0), (6, .int .i64 0), (7, .int .i64 0), (8, .int .i64 0), (9, .int .i64 0), (10, .int .i64 0), (11, .int .i64 0), (12, .int .u64 0)])
      obtain ⟨hrow, hbel⟩ := res_end ST10.out.res ST10.out.below [(0, .int .u64 0), (1, .int .i64 0), (2, .int .i64 0), (3, .int .i64 0), (4, .int .i64 0), (5, .int .i64 0), (6, .int .i64 0), (7, .int .i64 0), (8, .int .i64 0), (9, .int .i64 0), (10, .int .i64 0), (11, .int .i64 0), (12, .int .u64 0)]
      generalize sets (w11.alloc (.cells #[.int .i64 0, .int .i64 0, .int .i64 0, .int .i64 0, .int .i64 0, .int .i64 0, .int .i64 0, .int .i64 0, .int .i64 0] 24)) rb [(0, .int .u64 0), (1, .int .i64 0), (2, .int .i64 0), (3, .int .i64 0), (4, .int .i64 0), (5, .int .i64 0), (6, .int .i64 0), (7, .int .i64 0), (8, .int .i64 0), (9, .int .i64 0), (10, .int .i64 0), (11, .int .i64 0), (12, .int .u64 0)] = w19 at *
      rw [fold13] at hrow
      clear r0 r1 r2 r3 r4 r5 r6 r7 r8 r9 r10 r11 r12 hrf 
      obtain ⟨r0, r1, r2, r3, r4, r5, r6, r7, r8, r9, r10, r11, r12⟩ := cells13 hrow
      refine bodyPost_ret (v := .tuple #[.agg #[.int .u64 0, .int .i64 0, .int .i64 0, .int .i64 0, .int .i64 0, .int .i64 0, .int .i64 0, .int .i64 0, .int .i64 0, .int .i64 0, .int .i64 0, .int .i64 0, .int .u64 0], .int .i64 22]) (by simp [results, Try.results13, go_sem, r0, r1, r2, r3, r4, r5, r6, r7, r8, r9, r10, r11, r12]) rfl ?_
      rw [HE.out, HD.out, HRB.out]
      exact ⟨rfl, hbel⟩
    · have h3b : (E3 != 0) = true := by simpa using h3
      go_wp2_with fail
      change bodyPost _ _ _ _ _ (sets (w11.alloc (.cells #[.int .i64 0, .int .i64 0, .int .i64 0, .int .i64 0, .int .i64 0, .int .i64 0, .int .i64 0, .int .i64 0, .int .i64 0] 24)) rb [(0, .int .u64 0), (1, .int .i64 0), (2, .int .i64 0), (3, .int .i64 0), (4, .int .i64 0), (5, .int .i64 0), (6, .int .i64 0), (7, .int .i64 0), (8, .int .i64 0), (9, .int .i64 0), (10, .int .i64 0), (11, .int .i64 0), (12, .int .u64 0)])
      obtain ⟨hrow, hbel⟩ := res_end ST10.out.res ST10.out.below [(0, .int .u64 0), (1, .int .i64 0), (2, .int .i64 0), (3, .int .i64 0), (4, .int .i64 0), (5, .int .i64 0), (6, .int .i64 0), (7, .int .i64 0), (8, .int .i64 0), (9, .int .i64 0), (10, .int .i64 0), (11, .int .i64 0), (12, .int .u64 0)]
      generalize sets (w11.alloc (.cells #[.int .i64 0, .int .i64 0, .int .i64 0, .int .i64 0, .int .i64 0, .int .i64 0, .int .i64 0, .int .i64 0, .int .i64 0] 24)) rb [(0, .int .u64 0), (1, .int .i64 0), (2, .int .i64 0), (3, .int .i64 0), (4, .int .i64 0), (5, .int .i64 0), (6, .int .i64 0), (7, .int .i64 0), (8, .int .i64 0), (9, .int .i64 0), (10, .int .i64 0), (11, .int .i64 0), (12, .int .u64 0)] = w19 at *
      rw [fold13] at hrow
      clear r0 r1 r2 r3 r4 r5 r6 r7 r8 r9 r10 r11 r12 hrf 
      obtain ⟨r0, r1, r2, r3, r4, r5, r6, r7, r8, r9, r10, r11, r12⟩ := cells13 hrow
      refine bodyPost_ret (v := .tuple #[.agg #[.int .u64 0, .int .i64 0, .int .i64 0, .int .i64 0, .int .i64 0, .int .i64 0, .int .i64 0, .int .i64 0, .int .i64 0, .int .i64 0, .int .i64 0, .int .i64 0, .int .u64 0], .int .i64 22]) (by simp [results, Try.results13, go_sem, r0, r1, r2, r3, r4, r5, r6, r7, r8, r9, r10, r11, r12]) rfl ?_
      rw [HE.out, HD.out, HRB.out]
      exact ⟨rfl, hbel⟩
  | true =>
    have hwf := dB_wf HBX.out (m := nx) (by rw [hDT]; exact hdb)
    have hBK : dB nx x = ⟨EP, decV SH 0, decV SH 1, decV SH 2, decV SH 3, decV SH 4, decV SH 5, decV SH 6, decV SH 7, decV SH 8, V1, V2, SQ⟩ := by
      unfold dB
      rw [hDT, hI1, hI2, HEP.out, HSQ.out]
    have hC : decC SH = .agg #[.int .i64 (decV SH 0), .int .i64 (decV SH 1), .int .i64 (decV SH 2), .int .i64 (decV SH 3), .int .i64 (decV SH 4), .int .i64 (decV SH 5), .int .i64 (decV SH 6), .int .i64 (decV SH 7), .int .i64 (decV SH 8)] := by unfold decC; rw [if_pos hdb]
    have hN : decN SH = 0 := by unfold decN; rw [if_pos hdb]
    rw [hC, hN]
    rw [hBK] at hlong hwf
    have hDD : refD s = if refDE s = 0 then ⟨EP, decV SH 0, decV SH 1, decV SH 2, decV SH 3, decV SH 4, decV SH 5, decV SH 6, decV SH 7, decV SH 8, V1, V2, SQ⟩ else blk0 := by unfold refD; rw [HX.out, HXL.out, hBK]
    generalize decV SH 0 = d0 at *
    generalize decV SH 1 = d1 at *
    generalize decV SH 2 = d2 at *
    generalize decV SH 3 = d3 at *
    generalize decV SH 4 = d4 at *
    generalize decV SH 5 = d5 at *
    generalize decV SH 6 = d6 at *
    generalize decV SH 7 = d7 at *
    generalize decV SH 8 = d8 at *
    have HWF := Lib.hid hwf
    have HDD := Lib.hid hDD
    have HLO : Hid (refDE s = if E3 = 0 ∧ sameB ⟨EP, d0, d1, d2, d3, d4, d5, d6, d7, d8, V1, V2, SQ⟩ s = true then 0 else 22) := by
      show _ = _
      rw [hlong]
      simp only [hdb, HMG.out, true_and]
    clear hC hN hDT hI1 hI2 hlong hdb hBK hwf hDD
    have hal := (Below.refl w11.heap.size w11).alloc (Nat.le_refl _) (.cells #[.int .i64 d0, .int .i64 d1, .int .i64 d2, .int .i64 d3, .int .i64 d4, .int .i64 d5, .int .i64 d6, .int .i64 d7, .int .i64 d8] 24)
    have ST10 := Lib.hid (ST9.out.next hal)
    obtain ⟨r0, r1, r2, r3, r4, r5, r6, r7, r8, r9, r10, r11, r12⟩ := cells13 ST10.out.res
    have hrf : ∀ i, (w11.alloc (.cells #[.int .i64 d0, .int .i64 d1, .int .i64 d2, .int .i64 d3, .int .i64 d4, .int .i64 d5, .int .i64 d6, .int .i64 d7, .int .i64 d8] 24)).frozen? ⟨rb, i, none⟩ = false := fun i => frozen_of_row _ rb i _ _ ST10.out.res
    obtain ⟨ar, nr, cr, rr⟩ := R11.out.below hal
    obtain ⟨_, y1, _⟩ := rr.cells
    clear rr hal
    by_cases h3 : E3 = 0
    rotate_left
    · have h3b : (E3 != 0) = true := by simpa using h3
      have hE : refDE s = 22 := by rw [HLO.out]; exact if_neg (fun e => h3 e.1)
      have hD : refD s = blk0 := by rw [HDD.out, if_neg (by rw [hE]; decide)]
      have HE := Lib.hid hE
      have HD := Lib.hid hD
      clear hE hD h3
      go_wp2_with fail
      change bodyPost _ _ _ _ _ (sets (w11.alloc (.cells #[.int .i64 d0, .int .i64 d1, .int .i64 d2, .int .i64 d3, .int .i64 d4, .int .i64 d5, .int .i64 d6, .int .i64 d7, .int .i64 d8] 24)) rb [(0, .int .u64 0), (1, .int .i64 0), (2, .int .i64 0), (3, .int .i64 0), (4, .int .i64 0), (5, .int .i64 0), (6, .int .i64 0), (7, .int .i64 0), (8, .int .i64 0), (9, .int .i64 0), (10, .int .i64 0), (11, .int .i64 0), (12, .int .u64 0)])
      obtain ⟨hrow, hbel⟩ := res_end ST10.out.res ST10.out.below [(0, .int .u64 0), (1, .int .i64 0), (2, .int .i64 0), (3, .int .i64 0), (4, .int .i64 0), (5, .int .i64 0), (6, .int .i64 0), (7, .int .i64 0), (8, .int .i64 0), (9, .int .i64 0), (10, .int .i64 0), (11, .int .i64 0), (12, .int .u64 0)]
      generalize sets (w11.alloc (.cells #[.int .i64 d0, .int .i64 d1, .int .i64 d2, .int .i64 d3, .int .i64 d4, .int .i64 d5, .int .i64 d6, .int .i64 d7, .int .i64 d8] 24)) rb [(0, .int .u64 0), (1, .int .i64 0), (2, .int .i64 0), (3, .int .i64 0), (4, .int .i64 0), (5, .int .i64 0), (6, .int .i64 0), (7, .int .i64 0), (8, .int .i64 0), (9, .int .i64 0), (10, .int .i64 0), (11, .int .i64 0), (12, .int .u64 0)] = w19 at *
      rw [fold13] at hrow
      clear r0 r1 r2 r3 r4 r5 r6 r7 r8 r9 r10 r11 r12 hrf 
      obtain ⟨r0, r1, r2, r3, r4, r5, r6, r7, r8, r9, r10, r11, r12⟩ := cells13 hrow
      refine bodyPost_ret (v := .tuple #[.agg #[.int .u64 0, .int .i64 0, .int .i64 0, .int .i64 0, .int .i64 0, .int .i64 0, .int .i64 0, .int .i64 0, .int .i64 0, .int .i64 0, .int .i64 0, .int .i64 0, .int .u64 0], .int .i64 22]) (by simp [results, Try.results13, go_sem, r0, r1, r2, r3, r4, r5, r6, r7, r8, r9, r10, r11, r12]) rfl ?_
      rw [HE.out, HD.out, HRB.out]
      exact ⟨rfl, hbel⟩
    subst h3
    obtain ⟨q0, q1, q2, q3, q4, q5, q6, q7, q8, q9, q10, q11, q12⟩ := cells13 ST10.out.blk
    have hbf : ∀ i, (w11.alloc (.cells #[.int .i64 d0, .int .i64 d1, .int .i64 d2, .int .i64 d3, .int .i64 d4, .int .i64 d5, .int .i64 d6, .int .i64 d7, .int .i64 d8] 24)).frozen? ⟨bb, i, none⟩ = false := fun i => frozen_of_row _ bb i _ _ ST10.out.blk
    go_wp2_with fail
    change Calls _ _ _ (sets (w11.alloc (.cells #[.int .i64 d0, .int .i64 d1, .int .i64 d2, .int .i64 d3, .int .i64 d4, .int .i64 d5, .int .i64 d6, .int .i64 d7, .int .i64 d8] 24)) bb [(1, .int .i64 d0), (2, .int .i64 d1), (3, .int .i64 d2), (4, .int .i64 d3), (5, .int .i64 d4), (6, .int .i64 d5), (7, .int .i64 d6), (8, .int .i64 d7), (9, .int .i64 d8)]) _
    have ST11 := Lib.hid (ST10.out.set [(1, .int .i64 d0), (2, .int .i64 d1), (3, .int .i64 d2), (4, .int .i64 d3), (5, .int .i64 d4), (6, .int .i64 d5), (7, .int .i64 d6), (8, .int .i64 d7), (9, .int .i64 d8)])
    obtain ⟨w12, hw12⟩ : ∃ w12, sets (w11.alloc (.cells #[.int .i64 d0, .int .i64 d1, .int .i64 d2, .int .i64 d3, .int .i64 d4, .int .i64 d5, .int .i64 d6, .int .i64 d7, .int .i64 d8] 24)) bb [(1, .int .i64 d0), (2, .int .i64 d1), (3, .int .i64 d2), (4, .int .i64 d3), (5, .int .i64 d4), (6, .int .i64 d5), (7, .int .i64 d6), (8, .int .i64 d7), (9, .int .i64 d8)] = w12 := ⟨_, rfl⟩
    rw [hw12] at ST11 ⊢
    have ST12 := ST11
    rw [fold9] at ST12
    clear r0 r1 r2 r3 r4 r5 r6 r7 r8 r9 r10 r11 r12 q0 q1 q2 q3 q4 q5 q6 q7 q8 q9 q10 q11 q12 hrf hbf hw12 ST11 ST10 ST9 y1 R11
    refine (refenc_any ⟨EP, d0, d1, d2, d3, d4, d5, d6, d7, d8, V1, V2, SQ⟩ w12 HWF.out).mono ?_
    rintro e w13 ⟨v13, rfl, ho13, hb13⟩
    obtain ⟨E5, hE5⟩ : ∃ E5, supE ⟨EP, d0, d1, d2, d3, d4, d5, d6, d7, d8, V1, V2, SQ⟩ = E5 := ⟨_, rfl⟩
    obtain ⟨Y, hY⟩ : ∃ Y, supV ⟨EP, d0, d1, d2, d3, d4, d5, d6, d7, d8, V1, V2, SQ⟩ = Y := ⟨_, rfl⟩
    rw [hY] at ho13
    obtain ⟨n13, hn13⟩ : ∃ n13, Y.length = n13 := ⟨_, rfl⟩
    obtain ⟨a13, c13, rfl⟩ := ho13.shapeN n13 hn13
    rw [hE5]
    have ST13 := Lib.hid (ST12.out.next hb13)
    have k1 := conv_rd (P := Try.prog) u8T s8 su ho13.rd
    have k2 := conv_rd (P := Try.prog) u8T s8 su (HS.out w13 ST13.out.below)
    obtain ⟨D, hD⟩ : ∃ D : Bool, decide (Y = s) = D := ⟨_, rfl⟩
    have dQ : ((strOfNums Y).toList == (strOfNums s).toList) = D := by
      rw [← hD]
      by_cases e : Y = s
      · rw [e]; simp
      · rw [decide_eq_false e, beq_eq_false_iff_ne]
        exact fun e2 => e (str_inj ho13.rd.bytes HBS.out e2)
    have HSM : Hid (sameB ⟨EP, d0, d1, d2, d3, d4, d5, d6, d7, d8, V1, V2, SQ⟩ s = (decide (E5 = 0) && D)) := by show _ = _; unfold sameB; rw [hE5, hY, hD]
    clear ho13 hb13 hE5 hn13 hY hD ST12
    obtain ⟨q0, q1, q2, q3, q4, q5, q6, q7, q8, q9, q10, q11, q12⟩ := cells13 ST13.out.blk
    obtain ⟨r0, r1, r2, r3, r4, r5, r6, r7, r8, r9, r10, r11, r12⟩ := cells13 ST13.out.res
    have hrf : ∀ i, w13.frozen? ⟨rb, i, none⟩ = false := fun i => frozen_of_row w13 rb i _ _ ST13.out.res
    by_cases h5 : E5 = 0
    · subst h5
      cases D with
      | true =>
        have hE : refDE s = 0 := by rw [HLO.out, HSM.out]; rfl
        have hDf : refD s = ⟨EP, d0, d1, d2, d3, d4, d5, d6, d7, d8, V1, V2, SQ⟩ := by rw [HDD.out, if_pos hE]
        have HE := Lib.hid hE
        have HD := Lib.hid hDf
        clear hE hDf
        go_wp2_with fail
        change bodyPost _ _ _ _ _ (sets w13 rb [(0, .int .u64 EP), (1, .int .i64 d0), (2, .int .i64 d1), (3, .int .i64 d2), (4, .int .i64 d3), (5, .int .i64 d4), (6, .int .i64 d5), (7, .int .i64 d6), (8, .int .i64 d7), (9, .int .i64 d8), (10, .int .i64 V1), (11, .int .i64 V2), (12, .int .u64 SQ)])
        obtain ⟨hrow, hbel⟩ := res_end ST13.out.res ST13.out.below [(0, .int .u64 EP), (1, .int .i64 d0), (2, .int .i64 d1), (3, .int .i64 d2), (4, .int .i64 d3), (5, .int .i64 d4), (6, .int .i64 d5), (7, .int .i64 d6), (8, .int .i64 d7), (9, .int .i64 d8), (10, .int .i64 V1), (11, .int .i64 V2), (12, .int .u64 SQ)]
        generalize sets w13 rb [(0, .int .u64 EP), (1, .int .i64 d0), (2, .int .i64 d1), (3, .int .i64 d2), (4, .int .i64 d3), (5, .int .i64 d4), (6, .int .i64 d5), (7, .int .i64 d6), (8, .int .i64 d7), (9, .int .i64 d8), (10, .int .i64 V1), (11, .int .i64 V2), (12, .int .u64 SQ)] = w19 at *
        rw [fold13] at hrow
        clear r0 r1 r2 r3 r4 r5 r6 r7 r8 r9 r10 r11 r12 q0 q1 q2 q3 q4 q5 q6 q7 q8 q9 q10 q11 q12 hrf k1 k2
        obtain ⟨r0, r1, r2, r3, r4, r5, r6, r7, r8, r9, r10, r11, r12⟩ := cells13 hrow
        refine bodyPost_ret (v := .tuple #[.agg #[.int .u64 EP, .int .i64 d0, .int .i64 d1, .int .i64 d2, .int .i64 d3, .int .i64 d4, .int .i64 d5, .int .i64 d6, .int .i64 d7, .int .i64 d8, .int .i64 V1, .int .i64 V2, .int .u64 SQ], .int .i64 0]) (by simp [results, Try.results13, go_sem, r0, r1, r2, r3, r4, r5, r6, r7, r8, r9, r10, r11, r12]) rfl ?_
        rw [HE.out, HD.out, HRB.out]
        exact ⟨rfl, hbel⟩
      | false =>
        have hE : refDE s = 22 := by rw [HLO.out, HSM.out]; rfl
        have hDf : refD s = blk0 := by rw [HDD.out, if_neg (by rw [hE]; decide)]
        have HE := Lib.hid hE
        have HD := Lib.hid hDf
        clear hE hDf
        go_wp2_with fail
        change bodyPost _ _ _ _ _ (sets (w13) rb [(0, .int .u64 0), (1, .int .i64 0), (2, .int .i64 0), (3, .int .i64 0), (4, .int .i64 0), (5, .int .i64 0), (6, .int .i64 0), (7, .int .i64 0), (8, .int .i64 0), (9, .int .i64 0), (10, .int .i64 0), (11, .int .i64 0), (12, .int .u64 0)])
        obtain ⟨hrow, hbel⟩ := res_end ST13.out.res ST13.out.below [(0, .int .u64 0), (1, .int .i64 0), (2, .int .i64 0), (3, .int .i64 0), (4, .int .i64 0), (5, .int .i64 0), (6, .int .i64 0), (7, .int .i64 0), (8, .int .i64 0), (9, .int .i64 0), (10, .int .i64 0), (11, .int .i64 0), (12, .int .u64 0)]
        generalize sets (w13) rb [(0, .int .u64 0), (1, .int .i64 0), (2, .int .i64 0), (3, .int .i64 0), (4, .int .i64 0), (5, .int .i64 0), (6, .int .i64 0), (7, .int .i64 0), (8, .int .i64 0), (9, .int .i64 0), (10, .int .i64 0), (11, .int .i64 0), (12, .int .u64 0)] = w19 at *
        rw [fold13] at hrow
        clear r0 r1 r2 r3 r4 r5 r6 r7 r8 r9 r10 r11 r12 hrf q0 q1 q2 q3 q4 q5 q6 q7 q8 q9 q10 q11 q12 k1 k2
        obtain ⟨r0, r1, r2, r3, r4, r5, r6, r7, r8, r9, r10, r11, r12⟩ := cells13 hrow
        refine bodyPost_ret (v := .tuple #[.agg #[.int .u64 0, .int .i64 0, .int .i64 0, .int .i64 0, .int .i64 0, .int .i64 0, .int .i64 0, .int .i64 0, .int .i64 0, .int .i64 0, .int .i64 0, .int .i64 0, .int .u64 0], .int .i64 22]) (by simp [results, Try.results13, go_sem, r0, r1, r2, r3, r4, r5, r6, r7, r8, r9, r10, r11, r12]) rfl ?_
        rw [HE.out, HD.out, HRB.out]
        exact ⟨rfl, hbel⟩
    · have h5b : (E5 != 0) = true := by simpa using h5
      have h5c : (E5 == 0) = false := by simpa using h5
      have hE : refDE s = 22 := by rw [HLO.out, HSM.out, decide_eq_false h5]; rfl
      have hDf : refD s = blk0 := by rw [HDD.out, if_neg (by rw [hE]; decide)]
      have HE := Lib.hid hE
      have HD := Lib.hid hDf
      clear hE hDf h5
      go_wp2_with fail
      change bodyPost _ _ _ _ _ (sets (w13) rb [(0, .int .u64 0), (1, .int .i64 0), (2, .int .i64 0), (3, .int .i64 0), (4, .int .i64 0), (5, .int .i64 0), (6, .int .i64 0), (7, .int .i64 0), (8, .int .i64 0), (9, .int .i64 0), (10, .int .i64 0), (11, .int .i64 0), (12, .int .u64 0)])
      obtain ⟨hrow, hbel⟩ := res_end ST13.out.res ST13.out.below [(0, .int .u64 0), (1, .int .i64 0), (2, .int .i64 0), (3, .int .i64 0), (4, .int .i64 0), (5, .int .i64 0), (6, .int .i64 0), (7, .int .i64 0), (8, .int .i64 0), (9, .int .i64 0), (10, .int .i64 0), (11, .int .i64 0), (12, .int .u64 0)]
      generalize sets (w13) rb [(0, .int .u64 0), (1, .int .i64 0), (2, .int .i64 0), (3, .int .i64 0), (4, .int .i64 0), (5, .int .i64 0), (6, .int .i64 0), (7, .int .i64 0), (8, .int .i64 0), (9, .int .i64 0), (10, .int .i64 0), (11, .int .i64 0), (12, .int .u64 0)] = w19 at *
      rw [fold13] at hrow
      clear r0 r1 r2 r3 r4 r5 r6 r7 r8 r9 r10 r11 r12 hrf q0 q1 q2 q3 q4 q5 q6 q7 q8 q9 q10 q11 q12 k1 k2
      obtain ⟨r0, r1, r2, r3, r4, r5, r6, r7, r8, r9, r10, r11, r12⟩ := cells13 hrow
      refine bodyPost_ret (v := .tuple #[.agg #[.int .u64 0, .int .i64 0, .int .i64 0, .int .i64 0, .int .i64 0, .int .i64 0, .int .i64 0, .int .i64 0, .int .i64 0, .int .i64 0, .int .i64 0, .int .i64 0, .int .u64 0], .int .i64 22]) (by simp [results, Try.results13, go_sem, r0, r1, r2, r3, r4, r5, r6, r7, r8, r9, r10, r11, r12]) rfl ?_
      rw [HE.out, HD.out, HRB.out]
      exact ⟨rfl, hbel⟩
end Go.Proofs.Ytcbnebcooiagmaa
namespace Go.Proofs.Ytcbnebcooiagmaa
open Go.RowKit
set_option maxRecDepth 100000 in
theorem dk_laidOut : laidOutB Try.prog = true := by kernel_rfl
set_option maxRecDepth 100000 in
theorem dk_row : (112 : TypeId) < Try.prog.types.size := of_decide_eq_true (by kernel_rfl)
set_option maxRecDepth 100000 in
theorem dk_wide : (match Try.prog.underlying 112 with | some (.array _ _) | some (.struct _) => true | _ => false) = true := by kernel_rfl
set_option maxRecDepth 100000 in
theorem placeK : Maps.Keyed Try.prog 112 := Maps.Keyed.of_law (deep_law_laid dk_laidOut (m := 2) (by omega) dk_row (by kernel_rfl) dk_wide)
set_option maxRecDepth 100000 in
theorem place_key (s : Int) (h : (Lit.int .i64 s).wf = true) : ∃ l, keyOf Try.prog 112 (.agg #[.int .i64 s]) = some l := by
  unfold keyOf
  rw [Try.underlying112]
  have h1 : Try.prog.keyType 112 = true := by kernel_rfl
  have h2 : (Value.agg #[.int .i64 s]).formed Try.prog 112 = true := by kernel_rfl
  simp only [h1, h2]
  have h3 : Try.prog.types.size + 1 = (Try.prog.types.size - 1) + 1 + 1 := by kernel_rfl
  have h4 : Try.prog.cellsOf 112 = 1 := by kernel_rfl
  have h5 : Try.prog.cellsOf 3 = 1 := by kernel_rfl
  rw [h3]
  generalize Try.prog.types.size - 1 = N
  have h6 : Try.prog.keyLits (N + 1) 3 [.int .i64 s] = some [.int .i64 s] := by
    unfold Program.keyLits
    rw [Try.underlying3]
    simp [h]
  unfold Program.keyLits
  rw [Try.underlying112]
  simp [Value.cells, h4, h5, h6]
set_option maxRecDepth 100000 in
theorem look_zero (w : World) : (zeroValue 3).run Try.prog w = .ok (.int .i64 0) w := by kernel_rfl
/-- A map of places in block b: what it tells of each. -/
def keyS (s : Int) : Value := .agg #[.int .i64 s]
structure MapAt (w : World) (b : Nat) (f : Int → Option Int) : Prop where
  all : ∃ es clock, w.heap[b]? = some (.map es clock) ∧ (∀ e ∈ es.toList, ∃ s i, e.key = keyS s ∧ (Lit.int .i64 s).wf = true ∧ e.val = .int .i64 i ∧ f s = some i) ∧
    (∀ s, (∀ e ∈ es.toList, e.key ≠ keyS s) → f s = none) ∧ (∀ (i j : Nat) (e1 e2 : MapEntry), es[i]? = some e1 → es[j]? = some e2 → e1.key = e2.key → i = j)
theorem keyS_inj {s t : Int} (h : keyS s = keyS t) : s = t := by
  unfold keyS at h
  simpa using h
set_option maxRecDepth 100000 in
theorem map_keys {es : Array MapEntry} {f : Int → Option Int} (h : ∀ e ∈ es.toList, ∃ s i, e.key = keyS s ∧ (Lit.int .i64 s).wf = true ∧ e.val = .int .i64 i ∧ f s = some i) : ∀ e ∈ es.toList, ∃ l, keyOf Try.prog 112 e.key = some l := by
  intro e he
  obtain ⟨s, i, h1, h2, _⟩ := h e he
  rw [h1]
  exact place_key s h2
theorem map_made (w : World) : MapAt (w.alloc (.map #[] 0)) w.heap.size (fun _ => none) :=
  ⟨#[], 0, heap_alloc_new _ _, by simp, fun _ _ => rfl, by simp⟩
set_option maxRecDepth 100000 in
theorem map_look {w : World} {b : Nat} {f : Int → Option Int} (h : MapAt w b f) (s : Int) (hs : (Lit.int .i64 s).wf = true) :
    (Instr.lookup 67 (.map (some b)) (.agg #[.int .i64 s]) true).run Try.prog w = .ok (.tuple #[.int .i64 ((f s).getD 0), .bool (f s).isSome]) w := by
  obtain ⟨es, clock, hb, hall, hno, _⟩ := h.all
  obtain ⟨lk, hlk⟩ := place_key s hs
  have hchk := placeK.check w es.isEmpty hlk
  have hz := look_zero w
  have ht : Try.prog.underlying 67 = some (.map 112 3) := Try.underlying67
  rcases placeK.find w hlk es.toList (map_keys hall) with ⟨hf, hne⟩ | ⟨j, e, hf, hj, hk⟩
  · have h0 : f s = none := hno s hne
    rw [h0]
    simp [Instr.lookup, run_underlying ht, MapKept.run_getObj_map hb, hchk, hf, hz, Result.andThen]
  · obtain ⟨s', i, k1, _, k2, k3⟩ := hall e (List.mem_of_getElem? hj)
    have : s' = s := keyS_inj (by rw [← k1, hk]; rfl)
    subst this
    rw [k3]
    simp [Instr.lookup, run_underlying ht, MapKept.run_getObj_map hb, hchk, hf, k2, Result.andThen]
theorem set_block {w : World} {b : Nat} {o o' : Obj} (hb : w.heap[b]? = some o) : ({ w with heap := w.heap.setIfInBounds b o' } : World).heap[b]? = some o' := by
  show (w.heap.setIfInBounds b o')[b]? = some o'
  rw [Array.getElem?_setIfInBounds_self, if_pos (Array.getElem?_eq_some_iff.1 hb).1]
theorem set_block_grown (w : World) (b : Nat) (o' : Obj) : w.grownBy { w with heap := w.heap.setIfInBounds b o' } (some b) :=
  ⟨rfl, rfl, rfl, by simp, fun k _ hk => by
    show (w.heap.setIfInBounds b o')[k]? = w.heap[k]?
    rw [Array.getElem?_setIfInBounds_ne (fun e => hk (by rw [e]))]⟩
set_option maxRecDepth 100000 in
theorem map_put {w : World} {b : Nat} {f : Int → Option Int} (h : MapAt w b f) (s v : Int) (hs : (Lit.int .i64 s).wf = true) :
    ∃ w', (Instr.mapUpdate 67 (.map (some b)) (.agg #[.int .i64 s]) (.int .i64 v)).run Try.prog w = .ok () w' ∧ MapAt w' b (fun t => if t = s then some v else f t) ∧ w.grownBy w' (some b) := by
  obtain ⟨es, clock, hb, hall, hno, huniq⟩ := h.all
  obtain ⟨lk, hlk⟩ := place_key s hs
  have ht : Try.prog.underlying 67 = some (.map 112 3) := Try.underlying67
  rcases placeK.find w hlk es.toList (map_keys hall) with ⟨h1, h2⟩ | ⟨j, e0, h1, h2, h3⟩
  · refine ⟨_, by simp [Instr.mapUpdate, run_underlying ht, MapKept.run_getObj_map hb, placeK.check w false hlk, h1, MapKept.run_setObj_map _ hb, Result.andThen], ⟨es.push ⟨.agg #[.int .i64 s], .int .i64 v, clock⟩, clock + 1, set_block hb, ?_, ?_, ?_⟩, set_block_grown _ _ _⟩
    · intro e he
      simp only [Array.toList_push, List.mem_append, List.mem_singleton] at he
      rcases he with he | rfl
      · obtain ⟨t, i, k1, k2, k3, k4⟩ := hall e he
        have hne : t ≠ s := fun e1 => h2 e he (by rw [k1, e1]; rfl)
        exact ⟨t, i, k1, k2, k3, by rw [if_neg hne]; exact k4⟩
      · exact ⟨s, v, rfl, hs, rfl, if_pos rfl⟩
    · intro t hne
      have h0 : t ≠ s := fun e1 => hne ⟨.agg #[.int .i64 s], .int .i64 v, clock⟩ (by simp) (by rw [e1]; rfl)
      rw [if_neg h0]
      exact hno t (fun e he => hne e (by simp [he]))
    · intro i j e1 e2 hi hj he
      rw [Array.getElem?_push] at hi hj
      by_cases ci : i = es.size
      · by_cases cj : j = es.size
        · omega
        · rw [if_pos ci] at hi
          rw [if_neg cj] at hj
          injection hi with hi
          exact absurd (by rw [← he, ← hi]) (h2 e2 (Array.mem_toList_iff.2 (Array.mem_of_getElem? hj)))
      · rw [if_neg ci] at hi
        by_cases cj : j = es.size
        · rw [if_pos cj] at hj
          injection hj with hj
          exact absurd (by rw [he, ← hj]) (h2 e1 (Array.mem_toList_iff.2 (Array.mem_of_getElem? hi)))
        · rw [if_neg cj] at hj
          exact huniq i j e1 e2 hi hj he
  · have hj : es[j]? = some e0 := by simpa using h2
    refine ⟨_, by simp [Instr.mapUpdate, run_underlying ht, MapKept.run_getObj_map hb, placeK.check w false hlk, h1, hj, h3, placeK.stays w hlk, MapKept.run_setObj_map _ hb, Result.andThen], ⟨es.modify j (fun e' => { e' with key := .agg #[.int .i64 s], val := .int .i64 v }), clock, set_block hb, ?_, ?_, ?_⟩, set_block_grown _ _ _⟩
    all_goals
      have horig : ∀ (i : Nat) (e1 : MapEntry), (es.modify j (fun e' => { e' with key := .agg #[.int .i64 s], val := .int .i64 v }))[i]? = some e1 →
          (i = j ∧ e1.key = .agg #[.int .i64 s] ∧ e1.val = .int .i64 v) ∨ (i ≠ j ∧ es[i]? = some e1) := by
        intro i e1 h
        rw [Array.getElem?_modify] at h
        by_cases hij : j = i
        · subst hij
          rw [if_pos rfl, hj] at h
          simp only [Option.map_some] at h
          injection h with h
          exact .inl ⟨rfl, by rw [← h], by rw [← h]⟩
        · rw [if_neg hij] at h
          exact .inr ⟨fun e => hij e.symm, h⟩
    · intro e he
      obtain ⟨i, hi, hie⟩ := List.getElem_of_mem he
      have hi' : (es.modify j (fun e' => { e' with key := .agg #[.int .i64 s], val := .int .i64 v }))[i]? = some e := by
        rw [← Array.getElem?_toList, List.getElem?_eq_getElem hi, hie]
      rcases horig i e hi' with ⟨_, k1, k2⟩ | ⟨hne, h5⟩
      · exact ⟨s, v, k1, hs, k2, if_pos rfl⟩
      · obtain ⟨t, x, k1, k2, k3, k4⟩ := hall e (Array.mem_toList_iff.2 (Array.mem_of_getElem? h5))
        have hts : t ≠ s := fun e1 => hne (huniq i j e e0 h5 hj (by rw [k1, h3, e1]; rfl))
        exact ⟨t, x, k1, k2, k3, by rw [if_neg hts]; exact k4⟩
    · intro t hne
      have hts : t ≠ s := by
        intro e1
        have hm : ({ e0 with key := .agg #[.int .i64 s], val := .int .i64 v } : MapEntry) ∈ (es.modify j (fun e' => { e' with key := .agg #[.int .i64 s], val := .int .i64 v })).toList := by
          refine Array.mem_toList_iff.2 (Array.mem_of_getElem? (i := j) ?_)
          rw [Array.getElem?_modify, if_pos rfl, hj]
          rfl
        exact hne _ hm (by rw [e1]; rfl)
      rw [if_neg hts]
      refine hno t fun e he e1 => ?_
      obtain ⟨i, hi, hie⟩ := List.getElem_of_mem he
      have hi' : es[i]? = some e := by rw [← Array.getElem?_toList, List.getElem?_eq_getElem hi, hie]
      by_cases hij : i = j
      · subst hij
        rw [hj] at hi'
        injection hi' with hi'
        rw [← hi', h3] at e1
        exact hts (keyS_inj e1).symm
      · refine hne e (Array.mem_toList_iff.2 (Array.mem_of_getElem? (i := i) ?_)) e1
        rw [Array.getElem?_modify, if_neg (fun h => hij h.symm)]
        exact hi'
    · intro i1 i2 e1 e2 hi1 hi2 he
      rcases horig i1 e1 hi1 with ⟨a1, k1, _⟩ | ⟨a1, k1⟩
      · rcases horig i2 e2 hi2 with ⟨a2, k2, _⟩ | ⟨a2, k2⟩
        · omega
        · exact absurd (huniq i2 j e2 e0 k2 hj (by rw [← he, k1, h3])) a2
      · rcases horig i2 e2 hi2 with ⟨a2, k2, _⟩ | ⟨a2, k2⟩
        · exact absurd (huniq i1 j e1 e0 k1 hj (by rw [he, k2, h3])) a1
        · exact huniq i1 i2 e1 e2 k1 k2 he
set_option maxRecDepth 100000 in
theorem map_clear {w : World} {b : Nat} {f : Int → Option Int} (h : MapAt w b f) (ty : TypeId) :
    ∃ v w', (Builtin.clear_ #[67] ty #[.map (some b)]).run Try.prog w = .ok v w' ∧ MapAt w' b (fun _ => none) ∧ w.grownBy w' (some b) := by
  obtain ⟨es, clock, hb, _⟩ := h.all
  have ht : Try.prog.underlying 67 = some (.map 112 3) := Try.underlying67
  refine ⟨.tuple #[], _, by simp [Builtin.clear_, run_underlying ht, MapKept.run_getObj_map hb, MapKept.run_setObj_map _ hb, Result.andThen], ⟨#[], clock, set_block hb, by simp, fun _ _ => rfl, by simp⟩, set_block_grown _ _ _⟩
theorem MapAt.grown {w w' : World} {b : Nat} {f : Int → Option Int} {row : Option Nat} (h : MapAt w b f) (hg : w.grownBy w' row) (hne : row ≠ some b) : MapAt w' b f := by
  obtain ⟨es, clock, hb, r⟩ := h.all
  exact ⟨es, clock, by rw [hg.block b (Array.getElem?_eq_some_iff.1 hb).1 (fun e => hne e.symm)]; exact hb, r⟩
theorem MapAt.lt {w : World} {b : Nat} {f : Int → Option Int} (h : MapAt w b f) : b < w.heap.size := by
  obtain ⟨es, clock, hb, _⟩ := h.all
  exact (Array.getElem?_eq_some_iff.1 hb).1
theorem MapAt.at {w w' : World} {b : Nat} {f : Int → Option Int} (h : MapAt w b f) (hb : w'.heap[b]? = w.heap[b]?) : MapAt w' b f := by
  obtain ⟨es, clock, h0, r⟩ := h.all
  exact ⟨es, clock, by rw [hb]; exact h0, r⟩
theorem MapAt.congr {w : World} {b : Nat} {f g : Int → Option Int} (h : MapAt w b f) (e : ∀ s, f s = g s) : MapAt w b g := by
  rw [← show f = g from funext e]; exact h
end Go.Proofs.Ytcbnebcooiagmaa
namespace Go.Proofs.Ytcbnebcooiagmaa
open Go.RowKit
structure Dk where
  off : Bool
  armed : Int
  keep : List Bool
  size : Nat
  kept : List (List Int)
  pend : List (Int × List Int)
  writes : Int
  reads : Int
/-- Which pending write of a sector is the last. -/
def lastR : List (Int × List Int) → Int → Option Int
  | [], _ => none
  | (t, _) :: r, s => if s = t then some ((r.length : Nat) : Int) else lastR r s
def lastOf (p : List (Int × List Int)) (s : Int) : Option Int := lastR p.reverse s
theorem lastOf_snoc (p : List (Int × List Int)) (t : Int) (b : List Int) (s : Int) : lastOf (p ++ [(t, b)]) s = if s = t then some ((p.length : Nat) : Int) else lastOf p s := by
  unfold lastOf
  rw [List.reverse_append, List.reverse_singleton, List.singleton_append, lastR, List.length_reverse]
theorem lastR_some : ∀ {p : List (Int × List Int)} {s i : Int}, lastR p s = some i → ∃ k : Nat, i = k ∧ k < p.length ∧ ∃ b, p.reverse[k]? = some (s, b)
  | (t, b) :: r, s, i, h => by
    rw [lastR] at h
    split at h
    · rename_i e
      injection h with h
      refine ⟨r.length, h.symm, by simp, b, ?_⟩
      rw [List.reverse_cons, List.getElem?_append_right (by simp), e]
      simp
    · obtain ⟨k, h1, h2, b', h3⟩ := lastR_some h
      refine ⟨k, h1, by simp; omega, b', ?_⟩
      rw [List.reverse_cons, List.getElem?_append_left (by simpa using h2)]
      exact h3
theorem lastOf_some {p : List (Int × List Int)} {s i : Int} (h : lastOf p s = some i) : ∃ k : Nat, i = k ∧ k < p.length ∧ ∃ b, p[k]? = some (s, b) := by
  obtain ⟨k, h1, h2, b, h3⟩ := lastR_some h
  exact ⟨k, h1, by simpa using h2, b, by simpa using h3⟩
/-- Pending writes kept: those of which κ tells true. -/
def settleK (κ : Nat → Bool) : Nat → List (Int × List Int) → List (List Int) → List (List Int)
  | _, [], k => k
  | i, (s, b) :: r, k => settleK κ (i + 1) r (if κ i then k.set s.toNat b else k)
theorem settleK_len (κ : Nat → Bool) : ∀ (p : List (Int × List Int)) (i : Nat) (k : List (List Int)), (settleK κ i p k).length = k.length
  | [], _, _ => rfl
  | (s, b) :: r, i, k => by
    rw [settleK, settleK_len κ r]
    split
    · rw [List.length_set]
    · rfl
def cutS (st : Dk) (keep : List Bool) : Dk := { st with off := true, armed := 0, kept := settleK (fun i => keep.getD i false) 0 st.pend st.kept, pend := [] }
def flushS (st : Dk) : Dk := { st with kept := settleK (fun _ => true) 0 st.pend st.kept, pend := [] }
/-- A sector that there is, and a whole one's bytes. -/
def fitW (st : Dk) (s : Int) (l : List Int) : Bool := decide (0 ≤ s) && decide (s < st.kept.length) && decide (l.length = st.size)
def wrE (st : Dk) (s : Int) (l : List Int) : Int := if st.off then 8 else if fitW st s l = false then 1 else if st.armed = 1 then 8 else 0
def putS (st : Dk) (s : Int) (l : List Int) : Dk := { st with armed := if st.armed = 0 then 0 else st.armed - 1, pend := st.pend ++ [(s, l)], writes := st.writes + 1 }
def wrS (st : Dk) (s : Int) (l : List Int) : Dk := if st.off then st else if fitW st s l = false then st else if st.armed = 1 then cutS st st.keep else putS st s l
/-- The bytes that a sector reads as. -/
def secB (st : Dk) (s : Nat) : List Int := match lastOf st.pend s with
  | some i => ((st.pend[i.toNat]?).map (·.2)).getD []
  | none => (st.kept[s]?).getD []
def inS (st : Dk) (s : Int) : Bool := decide (0 ≤ s) && decide (s < st.kept.length)
def rdE (st : Dk) (s : Int) : Int := if st.off then 8 else if inS st s = false then 1 else 0
def rdS (st : Dk) (s : Int) : Dk := if rdE st s = 0 then { st with reads := st.reads + 1 } else st
def rdV (st : Dk) (s : Int) : List Int := if rdE st s = 0 then secB st s.toNat else []
/-- A disk's shape, and what it holds, as they may be. -/
structure DkOk (st : Dk) : Prop where
  size : 64 ≤ st.size ∧ st.size ≤ 4096
  n : 1 ≤ st.kept.length ∧ st.kept.length ≤ 65536
  kept : ∀ l ∈ st.kept, l.length = st.size
  pend : ∀ p ∈ st.pend, p.2.length = st.size ∧ 0 ≤ p.1 ∧ p.1 < st.kept.length
  armed : 0 ≤ st.armed ∧ st.armed ≤ 9223372036854775807
  few : st.pend.length ≤ 1000000
  writes : 0 ≤ st.writes ∧ st.writes ≤ 4611686018427387904
  reads : 0 ≤ st.reads ∧ st.reads ≤ 4611686018427387904
/-- Two rows of one length, each pair so. -/
def All2 {α β : Type} (R : α → β → Prop) (l : List α) (r : List β) : Prop := l.length = r.length ∧ ∀ (i : Nat) (a : α) (b : β), l[i]? = some a → r[i]? = some b → R a b
theorem All2.imp {α β : Type} {R S : α → β → Prop} {l : List α} {r : List β} (h : All2 R l r) (f : ∀ a b, R a b → S a b) : All2 S l r := ⟨h.1, fun i a b h1 h2 => f a b (h.2 i a b h1 h2)⟩
theorem All2.snoc {α β : Type} {R : α → β → Prop} {l : List α} {r : List β} {a : α} {b : β} (h : All2 R l r) (hab : R a b) : All2 R (l ++ [a]) (r ++ [b]) := by
  refine ⟨by rw [List.length_append, List.length_append, h.1]; rfl, fun i x y hx hy => ?_⟩
  by_cases hi : i < l.length
  · rw [List.getElem?_append_left hi] at hx
    rw [List.getElem?_append_left (by rw [← h.1]; exact hi)] at hy
    exact h.2 i x y hx hy
  · rw [List.getElem?_append_right (by omega)] at hx
    rw [List.getElem?_append_right (by rw [← h.1]; omega), ← h.1] at hy
    by_cases h0 : i - l.length = 0
    · rw [h0] at hx hy
      simp at hx hy
      rw [← hx, ← hy]; exact hab
    · obtain ⟨k, hk⟩ : ∃ k, i - l.length = k + 1 := ⟨i - l.length - 1, by omega⟩
      rw [hk] at hx
      simp at hx
theorem All2.set {α β : Type} {R : α → β → Prop} {l : List α} {r : List β} {a : α} {b : β} (h : All2 R l r) (k : Nat) (hab : R a b) : All2 R (l.set k a) (r.set k b) := by
  refine ⟨by rw [List.length_set, List.length_set, h.1], fun i x y hx hy => ?_⟩
  rw [List.getElem?_set] at hx hy
  by_cases hi : k = i
  · rw [if_pos hi] at hx hy
    split at hx
    · split at hy
      · injection hx with hx
        injection hy with hy
        rw [← hx, ← hy]; exact hab
      · cases hy
    · cases hx
  · rw [if_neg hi] at hx hy
    exact h.2 i x y hx hy
theorem All2.get {α β : Type} {R : α → β → Prop} {l : List α} {r : List β} (h : All2 R l r) {i : Nat} {b : β} (hb : r[i]? = some b) : ∃ a, l[i]? = some a ∧ R a b := by
  have hi : i < r.length := (List.getElem?_eq_some_iff.1 hb).1
  have hl : i < l.length := by rw [h.1]; exact hi
  exact ⟨l[i], List.getElem?_eq_getElem hl, h.2 i _ _ (List.getElem?_eq_getElem hl) hb⟩
theorem All2.nil {α β : Type} (R : α → β → Prop) : All2 R ([] : List α) ([] : List β) := ⟨rfl, fun i a b h => by simp at h⟩
/-- A slice of some bytes, in a block that is none of M, and one of Z. -/
def SlcV (w : World) (M Z : Nat → Prop) (v : Value) (l : List Int) : Prop :=
  ∃ b o n c, v = .slice (some ⟨b, o, none⟩) n c ∧ RdAt .u8 w (some ⟨b, o, none⟩) n c l ∧ 0 < n ∧ ¬ M b ∧ Z b
/-- A sector's bytes: none yet, or a slice of them. -/
def SecV (w : World) (M Z : Nat → Prop) (size : Nat) (v : Value) (l : List Int) : Prop := (v = .slice none 0 0 ∧ l = List.replicate size 0) ∨ SlcV w M Z v l
/-- A slice of bools. -/
structure RdB (w : World) (a : Option Addr) (n c : Nat) (l : List Bool) : Prop where
  len : l.length = n
  cap : n ≤ c
  max : c ≤ maxLen
  cell : ∀ i, i < n → ∃ b o, a = some ⟨b, o, none⟩ ∧ w.cell? ⟨b, o + i, none⟩ = some (.bool (l.getD i false))
  void : a = none → c = 0
def KeepV (w : World) (M Z : Nat → Prop) (v : Value) (l : List Bool) : Prop := ∃ a n c, v = .slice a n c ∧ RdB w a n c l ∧ ∀ q, a = some q → 0 < n → ¬ M q.block ∧ Z q.block
/-- The pending writes' cells. -/
def pendC : List (Int × List Int) → List Value → List Value
  | p :: r, v :: t => .int .i64 p.1 :: v :: pendC r t
  | _, _ => []
/-- The blocks that a disk writes. -/
def MutD (d kb mb : Nat) (pv : Value) (b : Nat) : Prop := b = d ∨ b = kb ∨ b = mb ∨ pv.ownBlock = some b
structure DkP (w : World) (Z : Nat → Prop) (d kb mb : Nat) (pv kv : Value) (vals pvs : List Value) (st : Dk) : Prop where
  row : w.heap[d]? = some (.cells #[.bool st.off, .int .i64 st.armed, kv, .int .i64 st.size, .slice (some ⟨kb, 0, none⟩) st.kept.length st.kept.length, pv, .map (some mb), .int .i64 st.writes, .int .i64 st.reads] 69 (0, 0))
  krow : w.heap[kb]? = some (.cells vals.toArray 29 (0, 0))
  kvals : All2 (SecV w (MutD d kb mb pv) Z st.size) vals st.kept
  prow : w.ownsRow 0 114 2 pv st.pend.length (pendC st.pend pvs)
  pvals : All2 (fun v (p : Int × List Int) => SlcV w (MutD d kb mb pv) Z v p.2) pvs st.pend
  map : MapAt w mb (lastOf st.pend)
  keep : KeepV w (MutD d kb mb pv) Z kv st.keep
  ne : d ≠ kb ∧ d ≠ mb ∧ kb ≠ mb
  rm : ∀ g, pv.ownBlock = some g → g ≠ d ∧ g ≠ kb ∧ g ≠ mb
  z : ∀ b, MutD d kb mb pv b → Z b
  ok : DkOk st
/-- A disk in block d; all that it is made of lies in Z. -/
def DkIn (w : World) (Z : Nat → Prop) (d : Nat) (st : Dk) : Prop := (∀ k, Z k → k < w.heap.size) ∧ ∃ kb mb pv kv vals pvs, DkP w Z d kb mb pv kv vals pvs st
/-- Nothing has turned outside Z; what Z is now was in it, or is new. -/
structure Tnd (Z Z' : Nat → Prop) (w w' : World) : Prop where
  os : w'.os = w.os
  tape : w'.tape = w.tape
  output : w'.output = w.output
  size : w.heap.size ≤ w'.heap.size
  block : ∀ k, k < w.heap.size → ¬ Z k → w'.heap[k]? = w.heap[k]?
  sub : ∀ k, Z' k → Z k ∨ w.heap.size ≤ k
theorem Tnd.refl (Z : Nat → Prop) (w : World) : Tnd Z Z w w := ⟨rfl, rfl, rfl, Nat.le_refl _, fun _ _ _ => rfl, fun _ h => .inl h⟩
theorem Tnd.below {Z Z' : Nat → Prop} {w w' : World} {B : Nat} (h : Tnd Z Z' w w') (hZ : ∀ k, Z k → B ≤ k) (hB : B ≤ w.heap.size) : Below B w w' :=
  ⟨h.os, h.tape, h.output, h.size, fun k hk => h.block k (by omega) (fun hz => by have := hZ k hz; omega)⟩
theorem Tnd.base {Z Z' : Nat → Prop} {w w' : World} {B : Nat} (h : Tnd Z Z' w w') (hZ : ∀ k, Z k → B ≤ k) (hB : B ≤ w.heap.size) : ∀ k, Z' k → B ≤ k := fun k hk => by
  rcases h.sub k hk with h1 | h1
  · exact hZ k h1
  · omega
theorem RdAt.at {k : IntKind} {w w' : World} {b o n c : Nat} {l : List Int} (r : RdAt k w (some ⟨b, o, none⟩) n c l) (h : w'.heap[b]? = w.heap[b]?) : RdAt k w' (some ⟨b, o, none⟩) n c l :=
  ⟨r.len, r.cap, r.max, fun i hi => by
    obtain ⟨b', o', e, hc⟩ := r.cell i hi
    injection e with e
    injection e with e1 e2
    subst e1 e2
    exact ⟨b, o, rfl, by rw [← hc]; exact World.cell?_of_block (a := ⟨b, o + i, none⟩) h⟩, r.wf, r.void⟩
theorem SlcV.at {w w' : World} {M M' Z Z' : Nat → Prop} {v : Value} {l : List Int} (h : SlcV w M Z v l) (hb : ∀ b, Z b → ¬ M b → w'.heap[b]? = w.heap[b]?) (hM : ∀ b, Z b → ¬ M b → ¬ M' b) (hZ : ∀ b, Z b → Z' b) : SlcV w' M' Z' v l := by
  obtain ⟨b, o, n, c, rfl, hr, hn, hm, hz⟩ := h
  exact ⟨b, o, n, c, rfl, hr.at (hb b hz hm), hn, hM b hz hm, hZ b hz⟩
theorem SecV.at {w w' : World} {M M' Z Z' : Nat → Prop} {size : Nat} {v : Value} {l : List Int} (h : SecV w M Z size v l) (hb : ∀ b, Z b → ¬ M b → w'.heap[b]? = w.heap[b]?) (hM : ∀ b, Z b → ¬ M b → ¬ M' b) (hZ : ∀ b, Z b → Z' b) : SecV w' M' Z' size v l :=
  h.imp id fun h => h.at hb hM hZ
theorem KeepV.at {w w' : World} {M M' Z Z' : Nat → Prop} {v : Value} {l : List Bool} (h : KeepV w M Z v l) (hb : ∀ b, Z b → ¬ M b → w'.heap[b]? = w.heap[b]?) (hM : ∀ b, Z b → ¬ M b → ¬ M' b) (hZ : ∀ b, Z b → Z' b) : KeepV w' M' Z' v l := by
  obtain ⟨a, n, c, rfl, hr, hq⟩ := h
  refine ⟨a, n, c, rfl, ⟨hr.len, hr.cap, hr.max, fun i hi => ?_, hr.void⟩, fun q h1 h2 => ⟨hM _ (hq q h1 h2).2 (hq q h1 h2).1, hZ _ (hq q h1 h2).2⟩⟩
  obtain ⟨b, o, e, hc⟩ := hr.cell i hi
  have := hq _ e (by omega)
  exact ⟨b, o, e, by rw [← hc]; exact World.cell?_of_block (a := ⟨b, o + i, none⟩) (hb b this.2 this.1)⟩
theorem ownsRow_at {w w' : World} {e : TypeId} {size n : Nat} {v : Value} {xs : List Value} (h : w.ownsRow 0 e size v n xs) (hb : ∀ g, v.ownBlock = some g → w'.heap[g]? = w.heap[g]?) : w'.ownsRow 0 e size v n xs := by
  refine ⟨h.1, ?_⟩
  rcases h.2 with ⟨h1, h2⟩ | ⟨g, cap, cur, hv, h0, hh, h3⟩
  · exact .inl ⟨h1, h2⟩
  · exact .inr ⟨g, cap, cur, hv, h0, by rw [hb g (by rw [hv]; rfl)]; exact hh, h3⟩
end Go.Proofs.Ytcbnebcooiagmaa
