/- The walk of almanaclaw1.IntsVars: it answers true at every bytes and number. -/
import Derived.Test.YtpaddiggieklfaaKnown1
import Derived.Test.YtpaddiggieklfaaRReadVar
import Derived.Test.YtpaddiggieklfaaRegion
namespace Go.Proofs.Ytpaddiggieklfaa
open Go.RowKit
set_option maxHeartbeats 4000000 in
theorem intsVars_walk (a : Option Addr) (n c : Nat) (l : List Int) (u : Int) (w : World) (h : RdAt .u8 w a n c l) (w1 : (Lit.int .u64 u).wf = true) :
    Calls Try.prog 7 #[.slice a n c, .int .u64 u] w fun e w' => e = .returned (.bool true) ∧ Below w.heap.size w w' := by
  obtain ⟨u1, u2⟩ := wf_u64_bd w1
  have su : Try.prog.underlying 9 = some .string := Try.underlying9
  have s8 : Try.prog.underlying 5 = some (.int .u8) := Try.underlying5
  have hcap := h.cap
  have hmax := h.max
  have HL := Lib.hid h.len
  unfold maxLen at hmax
  by_cases c1 : n ≤ 2000
  · obtain ⟨m4, hm4⟩ : ∃ m, m = (l ++ varF 9 u).length := ⟨_, rfl⟩
    have HM4 := Lib.hid hm4
    clear hm4
    go_enter Try.func7, Try.ntmps7
    go_wp2_with (first | (go_at_call 10; refine (known1 _).mono ?_; rintro e w1 ⟨rfl, hb⟩) | (go_at_call 27; refine (readvar_any _ _ _ _ _ (h.below hb)).mono ?_; rintro e w' ⟨rfl, rfl⟩) | (go_at_call 28; refine (rreadvar_any _ _ _ _ _ (h.below hb)).mono ?_; rintro e w' ⟨rfl, rfl⟩))
    have hB := hb.drew
    clear hb
    generalize rvV l n = q1
    generalize rvN l n = q2
    generalize rvE l n = q3
    refine reg_start (by kernel_rfl) 29 rfl ?_
    refine reg_take 1 (d := 29) (v := ?_) (listed' := #[false, true, false, false, false, false, false, false, false, false, false, false, false, false, false, false, false, false, false, false, false, false, false, false, false, false, false, false, false]) rfl rfl (by rfl) (by kernel_rfl) (by kernel_rfl) (by kernel_rfl) (fun _ _ _ h => h) (by rfl) ?_ ?_
    rotate_left
    · (intro w; go_simp; try with_reducible rfl)
    simp only [List.setIfInBounds_toArray, List.set_cons_zero, List.set_cons_succ]
    refine reg_take 3 (d := 31) (v := ?_) (listed' := #[false, true, false, true, false, false, false, false, false, false, false, false, false, false, false, false, false, false, false, false, false, false, false, false, false, false, false, false, false]) rfl rfl (by rfl) (by kernel_rfl) (by kernel_rfl) (by kernel_rfl) (fun _ _ _ h => h) (by rfl) ?_ ?_
    rotate_left
    · (intro w; go_simp; try with_reducible rfl)
    simp only [List.setIfInBounds_toArray, List.set_cons_zero, List.set_cons_succ]
    refine reg_take 7 (d := 35) (v := ?_) (listed' := #[false, true, false, true, false, false, false, true, false, false, false, false, false, false, false, false, false, false, false, false, false, false, false, false, false, false, false, false, false]) rfl rfl (by rfl) (by kernel_rfl) (by kernel_rfl) (by kernel_rfl) (fun _ _ _ h => h) (by rfl) ?_ ?_
    rotate_left
    · (intro w; go_simp; try with_reducible rfl)
    simp only [List.setIfInBounds_toArray, List.set_cons_zero, List.set_cons_succ]
    refine reg_take 9 (d := 37) (v := ?_) (listed' := #[false, true, false, true, false, false, false, true, false, true, false, false, false, false, false, false, false, false, false, false, false, false, false, false, false, false, false, false, false]) rfl rfl (by rfl) (by kernel_rfl) (by kernel_rfl) (by kernel_rfl) (fun _ _ _ h => h) (by rfl) ?_ ?_
    rotate_left
    · (intro w; go_simp; try with_reducible rfl)
    simp only [List.setIfInBounds_toArray, List.set_cons_zero, List.set_cons_succ]
    refine reg_two 0 6 (m1 := #[true, true, false, true, false, false, false, true, false, true, false, false, false, false, false, false, false, false, false, false, false, false, false, false, false, false, false, false, false]) (m2 := #[false, true, false, true, false, false, true, true, false, true, false, false, false, false, false, false, false, false, false, false, false, false, false, false, false, false, false, false, false]) rfl (by rfl) rfl rfl (by rfl) rfl (by kernel_rfl) ?_ ?_
    intro K hK
    refine wp_empty 28 rfl 5 _ (by go_simp) ?_
    replace hB := Below.more hB (.cells #[] 5)
    refine hK _ _ ?_
    clear hK K
    simp only [List.setIfInBounds_toArray, List.set_cons_zero, List.set_cons_succ]
    refine reg_two 2 6 (m1 := #[true, true, true, true, false, false, false, true, false, true, false, false, false, false, false, false, false, false, false, false, false, false, false, false, false, false, false, false, false]) (m2 := #[true, true, false, true, false, false, true, true, false, true, false, false, false, false, false, false, false, false, false, false, false, false, false, false, false, false, false, false, false]) rfl (by rfl) rfl rfl (by rfl) rfl (by kernel_rfl) ?_ ?_
    intro K hK
    refine wp_app_all 30 rfl u8T u8I (by decide) _ _ rfl _ w.heap.size _ [] rfl (Owns.empty _ _ _ _ _ _) _ _ _ l rfl (h.below hB) (by have := HL.out; simp; omega) hB.size ?_
    intro v2 w2 ho2 hg2
    replace hB := Below.call hB hg2.fromNone
    rw [List.nil_append] at ho2
    obtain ⟨a2, c2, rfl⟩ := ho2.shapeN n HL.out
    clear hg2
    refine hK _ _ ?_
    clear hK K
    simp only [List.setIfInBounds_toArray, List.set_cons_zero, List.set_cons_succ]
    refine reg_two 4 6 (m1 := #[true, true, true, true, true, false, false, true, false, true, false, false, false, false, false, false, false, false, false, false, false, false, false, false, false, false, false, false, false]) (m2 := #[true, true, true, true, false, false, true, true, false, true, false, false, false, false, false, false, false, false, false, false, false, false, false, false, false, false, false, false, false]) rfl (by rfl) rfl rfl (by rfl) rfl (by kernel_rfl) ?_ ?_
    intro K hK
    go_simp
    refine (var_any _ _ _ _ _ _ ho2.rd (by omega) u1 u2).mono ?_
    rintro e w4 ⟨r4, rfl, ho4, hb4⟩
    replace hB := Below.call hB hb4
    obtain ⟨a4, c4, rfl⟩ := ho4.shapeN m4 HM4.out.symm
    have hr4 := ho4.rd
    clear hb4 ho4 ho2
    refine hK _ _ ?_
    clear hK K
    refine reg_two 5 6 (m1 := #[true, true, true, true, true, true, false, true, false, true, false, false, false, false, false, false, false, false, false, false, false, false, false, false, false, false, false, false, false]) (m2 := #[true, true, true, true, true, false, true, true, false, true, false, false, false, false, false, false, false, false, false, false, false, false, false, false, false, false, false, false, false]) rfl (by rfl) rfl rfl (by rfl) rfl (by kernel_rfl) ?_ ?_
    intro K hK
    refine wp_conv 33 rfl u8T s8 su _ rfl rfl hr4 ?_
    refine hK _ _ ?_
    clear hK K
    simp only [List.setIfInBounds_toArray, List.set_cons_zero, List.set_cons_succ]
    refine reg_one 6 (m1 := #[true, true, true, true, true, true, true, true, false, true, false, false, false, false, false, false, false, false, false, false, false, false, false, false, false, false, false, false, false]) rfl (by rfl) rfl (by kernel_rfl) ?_
    intro K hK
    refine wp_empty 34 rfl 5 _ (by go_simp) ?_
    replace hB := Below.more hB (.cells #[] 5)
    refine hK _ _ ?_
    clear hK K
    simp only [List.setIfInBounds_toArray, List.set_cons_zero, List.set_cons_succ]
    refine reg_one 8 (m1 := #[true, true, true, true, true, true, true, true, true, true, false, false, false, false, false, false, false, false, false, false, false, false, false, false, false, false, false, false, false]) rfl (by rfl) rfl (by kernel_rfl) ?_
    intro K hK
    refine wp_app_all 36 rfl u8T u8I (by decide) _ _ rfl _ w.heap.size _ [] rfl (Owns.empty _ _ _ _ _ _) _ _ _ l rfl (h.below hB) (by have := HL.out; simp; omega) hB.size ?_
    intro v8 w8 ho8 hg8
    replace hB := Below.call hB hg8.fromNone
    rw [List.nil_append] at ho8
    clear hg8
    refine hK _ _ ?_
    clear hK K
    simp only [List.setIfInBounds_toArray, List.set_cons_zero, List.set_cons_succ]
    refine reg_one 10 (m1 := #[true, true, true, true, true, true, true, true, true, true, true, false, false, false, false, false, false, false, false, false, false, false, false, false, false, false, false, false, false]) rfl (by rfl) rfl (by kernel_rfl) ?_
    intro K hK
    go_simp
    refine (rvar_any _ _ _ _ w.heap.size ho8 hB.size (by have := HL.out; omega) u1 u2).mono ?_
    rintro e w10 ⟨r10, rfl, ho10, hg10⟩
    replace hB := hB.trans (hg10.below hB.size (fun g hg => (ho8.at_base g hg).1))
    obtain ⟨a10, c10, rfl⟩ := ho10.shapeN m4 HM4.out.symm
    have hr10 := ho10.rd
    clear ho8 ho10 hg10
    refine hK _ _ ?_
    clear hK K
    refine reg_one 11 (m1 := #[true, true, true, true, true, true, true, true, true, true, true, true, false, false, false, false, false, false, false, false, false, false, false, false, false, false, false, false, false]) rfl (by rfl) rfl (by kernel_rfl) ?_
    intro K hK
    refine wp_conv 39 rfl u8T s8 su _ rfl rfl hr10 ?_
    refine hK _ _ ?_
    clear hK K
    simp only [List.setIfInBounds_toArray, List.set_cons_zero, List.set_cons_succ]
    rotate_left
    intro K hK
    refine wp_empty 34 rfl 5 _ (by go_simp) ?_
    replace hB := Below.more hB (.cells #[] 5)
    replace hr4 := hr4.alloc (.cells #[] 5)
    refine hK _ _ ?_
    clear hK K
    simp only [List.setIfInBounds_toArray, List.set_cons_zero, List.set_cons_succ]
    refine reg_two 5 8 (m1 := #[true, true, true, true, true, true, true, true, false, true, false, false, false, false, false, false, false, false, false, false, false, false, false, false, false, false, false, false, false]) (m2 := #[true, true, true, true, true, false, true, true, true, true, false, false, false, false, false, false, false, false, false, false, false, false, false, false, false, false, false, false, false]) rfl (by rfl) rfl rfl (by rfl) rfl (by kernel_rfl) ?_ ?_
    intro K hK
    refine wp_conv 33 rfl u8T s8 su _ rfl rfl hr4 ?_
    refine hK _ _ ?_
    clear hK K
    simp only [List.setIfInBounds_toArray, List.set_cons_zero, List.set_cons_succ]
    refine reg_one 8 (m1 := #[true, true, true, true, true, true, true, true, true, true, false, false, false, false, false, false, false, false, false, false, false, false, false, false, false, false, false, false, false]) rfl (by rfl) rfl (by kernel_rfl) ?_
    intro K hK
    refine wp_app_all 36 rfl u8T u8I (by decide) _ _ rfl _ w.heap.size _ [] rfl (Owns.empty _ _ _ _ _ _) _ _ _ l rfl (h.below hB) (by have := HL.out; simp; omega) hB.size ?_
    intro v8 w8 ho8 hg8
    replace hB := Below.call hB hg8.fromNone
    rw [List.nil_append] at ho8
    clear hg8
    refine hK _ _ ?_
    clear hK K
    simp only [List.setIfInBounds_toArray, List.set_cons_zero, List.set_cons_succ]
    refine reg_one 10 (m1 := #[true, true, true, true, true, true, true, true, true, true, true, false, false, false, false, false, false, false, false, false, false, false, false, false, false, false, false, false, false]) rfl (by rfl) rfl (by kernel_rfl) ?_
    intro K hK
    go_simp
    refine (rvar_any _ _ _ _ w.heap.size ho8 hB.size (by have := HL.out; omega) u1 u2).mono ?_
    rintro e w10 ⟨r10, rfl, ho10, hg10⟩
    replace hB := hB.trans (hg10.below hB.size (fun g hg => (ho8.at_base g hg).1))
    obtain ⟨a10, c10, rfl⟩ := ho10.shapeN m4 HM4.out.symm
    have hr10 := ho10.rd
    clear ho8 ho10 hg10
    refine hK _ _ ?_
    clear hK K
    refine reg_one 11 (m1 := #[true, true, true, true, true, true, true, true, true, true, true, true, false, false, false, false, false, false, false, false, false, false, false, false, false, false, false, false, false]) rfl (by rfl) rfl (by kernel_rfl) ?_
    intro K hK
    refine wp_conv 39 rfl u8T s8 su _ rfl rfl hr10 ?_
    refine hK _ _ ?_
    clear hK K
    simp only [List.setIfInBounds_toArray, List.set_cons_zero, List.set_cons_succ]
    rotate_left
    intro K hK
    refine wp_app_all 36 rfl u8T u8I (by decide) _ _ rfl _ w.heap.size _ [] rfl (Owns.empty _ _ _ _ _ _) _ _ _ l rfl (h.below hB) (by have := HL.out; simp; omega) hB.size ?_
    intro v8 w8 ho8 hg8
    replace hB := Below.call hB hg8.fromNone
    rw [List.nil_append] at ho8
    have hn8 := hg8.newRoom
    have h40 := hr4
    replace hr4 := hr4.below hg8.fromNone
    clear hg8
    refine hK _ _ ?_
    clear hK K
    simp only [List.setIfInBounds_toArray, List.set_cons_zero, List.set_cons_succ]
    refine reg_two 5 10 (m1 := #[true, true, true, true, true, true, true, true, true, true, false, false, false, false, false, false, false, false, false, false, false, false, false, false, false, false, false, false, false]) (m2 := #[true, true, true, true, true, false, true, true, true, true, true, false, false, false, false, false, false, false, false, false, false, false, false, false, false, false, false, false, false]) rfl (by rfl) rfl rfl (by rfl) rfl (by kernel_rfl) ?_ ?_
    intro K hK
    refine wp_conv 33 rfl u8T s8 su _ rfl rfl hr4 ?_
    refine hK _ _ ?_
    clear hK K
    simp only [List.setIfInBounds_toArray, List.set_cons_zero, List.set_cons_succ]
    refine reg_one 10 (m1 := #[true, true, true, true, true, true, true, true, true, true, true, false, false, false, false, false, false, false, false, false, false, false, false, false, false, false, false, false, false]) rfl (by rfl) rfl (by kernel_rfl) ?_
    intro K hK
    go_simp
    refine (rvar_any _ _ _ _ w.heap.size ho8 hB.size (by have := HL.out; omega) u1 u2).mono ?_
    rintro e w10 ⟨r10, rfl, ho10, hg10⟩
    replace hB := hB.trans (hg10.below hB.size (fun g hg => (ho8.at_base g hg).1))
    obtain ⟨a10, c10, rfl⟩ := ho10.shapeN m4 HM4.out.symm
    have hr10 := ho10.rd
    clear ho8 ho10 hg10
    refine hK _ _ ?_
    clear hK K
    refine reg_one 11 (m1 := #[true, true, true, true, true, true, true, true, true, true, true, true, false, false, false, false, false, false, false, false, false, false, false, false, false, false, false, false, false]) rfl (by rfl) rfl (by kernel_rfl) ?_
    intro K hK
    refine wp_conv 39 rfl u8T s8 su _ rfl rfl hr10 ?_
    refine hK _ _ ?_
    clear hK K
    simp only [List.setIfInBounds_toArray, List.set_cons_zero, List.set_cons_succ]
    rotate_left
    intro K hK
    go_simp
    refine (rvar_any _ _ _ _ w.heap.size ho8 hB.size (by have := HL.out; omega) u1 u2).mono ?_
    rintro e w10 ⟨r10, rfl, ho10, hg10⟩
    replace hB := hB.trans (hg10.below hB.size (fun g hg => (ho8.at_base g hg).1))
    obtain ⟨a10, c10, rfl⟩ := ho10.shapeN m4 HM4.out.symm
    have hr10 := ho10.rd
    replace hr4 := h40.apart hr4 hg10.1 hn8
    clear ho8 ho10 hg10
    refine hK _ _ ?_
    clear hK K
    refine reg_two 5 11 (m1 := #[true, true, true, true, true, true, true, true, true, true, true, false, false, false, false, false, false, false, false, false, false, false, false, false, false, false, false, false, false]) (m2 := #[true, true, true, true, true, false, true, true, true, true, true, true, false, false, false, false, false, false, false, false, false, false, false, false, false, false, false, false, false]) rfl (by rfl) rfl rfl (by rfl) rfl (by kernel_rfl) ?_ ?_
    intro K hK
    refine wp_conv 33 rfl u8T s8 su _ rfl rfl hr4 ?_
    refine hK _ _ ?_
    clear hK K
    simp only [List.setIfInBounds_toArray, List.set_cons_zero, List.set_cons_succ]
    refine reg_one 11 (m1 := #[true, true, true, true, true, true, true, true, true, true, true, true, false, false, false, false, false, false, false, false, false, false, false, false, false, false, false, false, false]) rfl (by rfl) rfl (by kernel_rfl) ?_
    intro K hK
    refine wp_conv 39 rfl u8T s8 su _ rfl rfl hr10 ?_
    refine hK _ _ ?_
    clear hK K
    simp only [List.setIfInBounds_toArray, List.set_cons_zero, List.set_cons_succ]
    rotate_left
    intro K hK
    refine wp_conv 39 rfl u8T s8 su _ rfl rfl hr10 ?_
    refine hK _ _ ?_
    clear hK K
    simp only [List.setIfInBounds_toArray, List.set_cons_zero, List.set_cons_succ]
    refine reg_one 5 (m1 := #[true, true, true, true, true, true, true, true, true, true, true, true, false, false, false, false, false, false, false, false, false, false, false, false, false, false, false, false, false]) rfl (by rfl) rfl (by kernel_rfl) ?_
    intro K hK
    refine wp_conv 33 rfl u8T s8 su _ rfl rfl hr4 ?_
    refine hK _ _ ?_
    clear hK K
    simp only [List.setIfInBounds_toArray, List.set_cons_zero, List.set_cons_succ]
    rotate_left
    intro K hK
    refine wp_empty 34 rfl 5 _ (by go_simp) ?_
    replace hB := Below.more hB (.cells #[] 5)
    replace ho2 := ho2.alloc (.cells #[] 5)
    refine hK _ _ ?_
    clear hK K
    simp only [List.setIfInBounds_toArray, List.set_cons_zero, List.set_cons_succ]
    refine reg_one 4 (m1 := #[true, true, true, true, true, false, true, true, false, true, false, false, false, false, false, false, false, false, false, false, false, false, false, false, false, false, false, false, false]) rfl (by rfl) rfl (by kernel_rfl) ?_
    intro K hK
    go_simp
    refine (var_any _ _ _ _ _ _ ho2.rd (by omega) u1 u2).mono ?_
    rintro e w4 ⟨r4, rfl, ho4, hb4⟩
    replace hB := Below.call hB hb4
    obtain ⟨a4, c4, rfl⟩ := ho4.shapeN m4 HM4.out.symm
    have hr4 := ho4.rd
    clear hb4 ho4 ho2
    refine hK _ _ ?_
    clear hK K
    refine reg_two 5 8 (m1 := #[true, true, true, true, true, true, true, true, false, true, false, false, false, false, false, false, false, false, false, false, false, false, false, false, false, false, false, false, false]) (m2 := #[true, true, true, true, true, false, true, true, true, true, false, false, false, false, false, false, false, false, false, false, false, false, false, false, false, false, false, false, false]) rfl (by rfl) rfl rfl (by rfl) rfl (by kernel_rfl) ?_ ?_
    intro K hK
    refine wp_conv 33 rfl u8T s8 su _ rfl rfl hr4 ?_
    refine hK _ _ ?_
    clear hK K
    simp only [List.setIfInBounds_toArray, List.set_cons_zero, List.set_cons_succ]
    refine reg_one 8 (m1 := #[true, true, true, true, true, true, true, true, true, true, false, false, false, false, false, false, false, false, false, false, false, false, false, false, false, false, false, false, false]) rfl (by rfl) rfl (by kernel_rfl) ?_
    intro K hK
    refine wp_app_all 36 rfl u8T u8I (by decide) _ _ rfl _ w.heap.size _ [] rfl (Owns.empty _ _ _ _ _ _) _ _ _ l rfl (h.below hB) (by have := HL.out; simp; omega) hB.size ?_
    intro v8 w8 ho8 hg8
    replace hB := Below.call hB hg8.fromNone
    rw [List.nil_append] at ho8
    clear hg8
    refine hK _ _ ?_
    clear hK K
    simp only [List.setIfInBounds_toArray, List.set_cons_zero, List.set_cons_succ]
    refine reg_one 10 (m1 := #[true, true, true, true, true, true, true, true, true, true, true, false, false, false, false, false, false, false, false, false, false, false, false, false, false, false, false, false, false]) rfl (by rfl) rfl (by kernel_rfl) ?_
    intro K hK
    go_simp
    refine (rvar_any _ _ _ _ w.heap.size ho8 hB.size (by have := HL.out; omega) u1 u2).mono ?_
    rintro e w10 ⟨r10, rfl, ho10, hg10⟩
    replace hB := hB.trans (hg10.below hB.size (fun g hg => (ho8.at_base g hg).1))
    obtain ⟨a10, c10, rfl⟩ := ho10.shapeN m4 HM4.out.symm
    have hr10 := ho10.rd
    clear ho8 ho10 hg10
    refine hK _ _ ?_
    clear hK K
    refine reg_one 11 (m1 := #[true, true, true, true, true, true, true, true, true, true, true, true, false, false, false, false, false, false, false, false, false, false, false, false, false, false, false, false, false]) rfl (by rfl) rfl (by kernel_rfl) ?_
    intro K hK
    refine wp_conv 39 rfl u8T s8 su _ rfl rfl hr10 ?_
    refine hK _ _ ?_
    clear hK K
    simp only [List.setIfInBounds_toArray, List.set_cons_zero, List.set_cons_succ]
    rotate_left
    intro K hK
    refine wp_app_all 36 rfl u8T u8I (by decide) _ _ rfl _ w.heap.size _ [] rfl (Owns.empty _ _ _ _ _ _) _ _ _ l rfl (h.below hB) (by have := HL.out; simp; omega) hB.size ?_
    intro v8 w8 ho8 hg8
    replace hB := Below.call hB hg8.fromNone
    rw [List.nil_append] at ho8
    have hn8 := hg8.newRoom
    have h40 := hr4
    replace hr4 := hr4.below hg8.fromNone
    clear hg8
    refine hK _ _ ?_
    clear hK K
    simp only [List.setIfInBounds_toArray, List.set_cons_zero, List.set_cons_succ]
    refine reg_two 5 10 (m1 := #[true, true, true, true, true, true, true, true, true, true, false, false, false, false, false, false, false, false, false, false, false, false, false, false, false, false, false, false, false]) (m2 := #[true, true, true, true, true, false, true, true, true, true, true, false, false, false, false, false, false, false, false, false, false, false, false, false, false, false, false, false, false]) rfl (by rfl) rfl rfl (by rfl) rfl (by kernel_rfl) ?_ ?_
    intro K hK
    refine wp_conv 33 rfl u8T s8 su _ rfl rfl hr4 ?_
    refine hK _ _ ?_
    clear hK K
    simp only [List.setIfInBounds_toArray, List.set_cons_zero, List.set_cons_succ]
    refine reg_one 10 (m1 := #[true, true, true, true, true, true, true, true, true, true, true, false, false, false, false, false, false, false, false, false, false, false, false, false, false, false, false, false, false]) rfl (by rfl) rfl (by kernel_rfl) ?_
    intro K hK
    go_simp
    refine (rvar_any _ _ _ _ w.heap.size ho8 hB.size (by have := HL.out; omega) u1 u2).mono ?_
    rintro e w10 ⟨r10, rfl, ho10, hg10⟩
    replace hB := hB.trans (hg10.below hB.size (fun g hg => (ho8.at_base g hg).1))
    obtain ⟨a10, c10, rfl⟩ := ho10.shapeN m4 HM4.out.symm
    have hr10 := ho10.rd
    clear ho8 ho10 hg10
    refine hK _ _ ?_
    clear hK K
    refine reg_one 11 (m1 := #[true, true, true, true, true, true, true, true, true, true, true, true, false, false, false, false, false, false, false, false, false, false, false, false, false, false, false, false, false]) rfl (by rfl) rfl (by kernel_rfl) ?_
    intro K hK
    refine wp_conv 39 rfl u8T s8 su _ rfl rfl hr10 ?_
    refine hK _ _ ?_
    clear hK K
    simp only [List.setIfInBounds_toArray, List.set_cons_zero, List.set_cons_succ]
    rotate_left
    intro K hK
    go_simp
    refine (rvar_any _ _ _ _ w.heap.size ho8 hB.size (by have := HL.out; omega) u1 u2).mono ?_
    rintro e w10 ⟨r10, rfl, ho10, hg10⟩
    replace hB := hB.trans (hg10.below hB.size (fun g hg => (ho8.at_base g hg).1))
    obtain ⟨a10, c10, rfl⟩ := ho10.shapeN m4 HM4.out.symm
    have hr10 := ho10.rd
    replace hr4 := h40.apart hr4 hg10.1 hn8
    clear ho8 ho10 hg10
    refine hK _ _ ?_
    clear hK K
    refine reg_two 5 11 (m1 := #[true, true, true, true, true, true, true, true, true, true, true, false, false, false, false, false, false, false, false, false, false, false, false, false, false, false, false, false, false]) (m2 := #[true, true, true, true, true, false, true, true, true, true, true, true, false, false, false, false, false, false, false, false, false, false, false, false, false, false, false, false, false]) rfl (by rfl) rfl rfl (by rfl) rfl (by kernel_rfl) ?_ ?_
    intro K hK
    refine wp_conv 33 rfl u8T s8 su _ rfl rfl hr4 ?_
    refine hK _ _ ?_
    clear hK K
    simp only [List.setIfInBounds_toArray, List.set_cons_zero, List.set_cons_succ]
    refine reg_one 11 (m1 := #[true, true, true, true, true, true, true, true, true, true, true, true, false, false, false, false, false, false, false, false, false, false, false, false, false, false, false, false, false]) rfl (by rfl) rfl (by kernel_rfl) ?_
    intro K hK
    refine wp_conv 39 rfl u8T s8 su _ rfl rfl hr10 ?_
    refine hK _ _ ?_
    clear hK K
    simp only [List.setIfInBounds_toArray, List.set_cons_zero, List.set_cons_succ]
    rotate_left
    intro K hK
    refine wp_conv 39 rfl u8T s8 su _ rfl rfl hr10 ?_
    refine hK _ _ ?_
    clear hK K
    simp only [List.setIfInBounds_toArray, List.set_cons_zero, List.set_cons_succ]
    refine reg_one 5 (m1 := #[true, true, true, true, true, true, true, true, true, true, true, true, false, false, false, false, false, false, false, false, false, false, false, false, false, false, false, false, false]) rfl (by rfl) rfl (by kernel_rfl) ?_
    intro K hK
    refine wp_conv 33 rfl u8T s8 su _ rfl rfl hr4 ?_
    refine hK _ _ ?_
    clear hK K
    simp only [List.setIfInBounds_toArray, List.set_cons_zero, List.set_cons_succ]
    rotate_left
    intro K hK
    refine wp_empty 34 rfl 5 _ (by go_simp) ?_
    replace hB := Below.more hB (.cells #[] 5)
    refine hK _ _ ?_
    clear hK K
    simp only [List.setIfInBounds_toArray, List.set_cons_zero, List.set_cons_succ]
    refine reg_one 2 (m1 := #[true, true, true, true, false, false, true, true, false, true, false, false, false, false, false, false, false, false, false, false, false, false, false, false, false, false, false, false, false]) rfl (by rfl) rfl (by kernel_rfl) ?_
    intro K hK
    refine wp_app_all 30 rfl u8T u8I (by decide) _ _ rfl _ w.heap.size _ [] rfl (Owns.empty _ _ _ _ _ _) _ _ _ l rfl (h.below hB) (by have := HL.out; simp; omega) hB.size ?_
    intro v2 w2 ho2 hg2
    replace hB := Below.call hB hg2.fromNone
    rw [List.nil_append] at ho2
    obtain ⟨a2, c2, rfl⟩ := ho2.shapeN n HL.out
    clear hg2
    refine hK _ _ ?_
    clear hK K
    simp only [List.setIfInBounds_toArray, List.set_cons_zero, List.set_cons_succ]
    refine reg_one 4 (m1 := #[true, true, true, true, true, false, true, true, false, true, false, false, false, false, false, false, false, false, false, false, false, false, false, false, false, false, false, false, false]) rfl (by rfl) rfl (by kernel_rfl) ?_
    intro K hK
    go_simp
    refine (var_any _ _ _ _ _ _ ho2.rd (by omega) u1 u2).mono ?_
    rintro e w4 ⟨r4, rfl, ho4, hb4⟩
    replace hB := Below.call hB hb4
    obtain ⟨a4, c4, rfl⟩ := ho4.shapeN m4 HM4.out.symm
    have hr4 := ho4.rd
    clear hb4 ho4 ho2
    refine hK _ _ ?_
    clear hK K
    refine reg_two 5 8 (m1 := #[true, true, true, true, true, true, true, true, false, true, false, false, false, false, false, false, false, false, false, false, false, false, false, false, false, false, false, false, false]) (m2 := #[true, true, true, true, true, false, true, true, true, true, false, false, false, false, false, false, false, false, false, false, false, false, false, false, false, false, false, false, false]) rfl (by rfl) rfl rfl (by rfl) rfl (by kernel_rfl) ?_ ?_
    intro K hK
    refine wp_conv 33 rfl u8T s8 su _ rfl rfl hr4 ?_
    refine hK _ _ ?_
    clear hK K
    simp only [List.setIfInBounds_toArray, List.set_cons_zero, List.set_cons_succ]
    refine reg_one 8 (m1 := #[true, true, true, true, true, true, true, true, true, true, false, false, false, false, false, false, false, false, false, false, false, false, false, false, false, false, false, false, false]) rfl (by rfl) rfl (by kernel_rfl) ?_
    intro K hK
    refine wp_app_all 36 rfl u8T u8I (by decide) _ _ rfl _ w.heap.size _ [] rfl (Owns.empty _ _ _ _ _ _) _ _ _ l rfl (h.below hB) (by have := HL.out; simp; omega) hB.size ?_
    intro v8 w8 ho8 hg8
    replace hB := Below.call hB hg8.fromNone
    rw [List.nil_append] at ho8
    clear hg8
    refine hK _ _ ?_
    clear hK K
    simp only [List.setIfInBounds_toArray, List.set_cons_zero, List.set_cons_succ]
    refine reg_one 10 (m1 := #[true, true, true, true, true, true, true, true, true, true, true, false, false, false, false, false, false, false, false, false, false, false, false, false, false, false, false, false, false]) rfl (by rfl) rfl (by kernel_rfl) ?_
    intro K hK
    go_simp
    refine (rvar_any _ _ _ _ w.heap.size ho8 hB.size (by have := HL.out; omega) u1 u2).mono ?_
    rintro e w10 ⟨r10, rfl, ho10, hg10⟩
    replace hB := hB.trans (hg10.below hB.size (fun g hg => (ho8.at_base g hg).1))
    obtain ⟨a10, c10, rfl⟩ := ho10.shapeN m4 HM4.out.symm
    have hr10 := ho10.rd
    clear ho8 ho10 hg10
    refine hK _ _ ?_
    clear hK K
    refine reg_one 11 (m1 := #[true, true, true, true, true, true, true, true, true, true, true, true, false, false, false, false, false, false, false, false, false, false, false, false, false, false, false, false, false]) rfl (by rfl) rfl (by kernel_rfl) ?_
    intro K hK
    refine wp_conv 39 rfl u8T s8 su _ rfl rfl hr10 ?_
    refine hK _ _ ?_
    clear hK K
    simp only [List.setIfInBounds_toArray, List.set_cons_zero, List.set_cons_succ]
    rotate_left
    intro K hK
    refine wp_app_all 36 rfl u8T u8I (by decide) _ _ rfl _ w.heap.size _ [] rfl (Owns.empty _ _ _ _ _ _) _ _ _ l rfl (h.below hB) (by have := HL.out; simp; omega) hB.size ?_
    intro v8 w8 ho8 hg8
    replace hB := Below.call hB hg8.fromNone
    rw [List.nil_append] at ho8
    have hn8 := hg8.newRoom
    have h40 := hr4
    replace hr4 := hr4.below hg8.fromNone
    clear hg8
    refine hK _ _ ?_
    clear hK K
    simp only [List.setIfInBounds_toArray, List.set_cons_zero, List.set_cons_succ]
    refine reg_two 5 10 (m1 := #[true, true, true, true, true, true, true, true, true, true, false, false, false, false, false, false, false, false, false, false, false, false, false, false, false, false, false, false, false]) (m2 := #[true, true, true, true, true, false, true, true, true, true, true, false, false, false, false, false, false, false, false, false, false, false, false, false, false, false, false, false, false]) rfl (by rfl) rfl rfl (by rfl) rfl (by kernel_rfl) ?_ ?_
    intro K hK
    refine wp_conv 33 rfl u8T s8 su _ rfl rfl hr4 ?_
    refine hK _ _ ?_
    clear hK K
    simp only [List.setIfInBounds_toArray, List.set_cons_zero, List.set_cons_succ]
    refine reg_one 10 (m1 := #[true, true, true, true, true, true, true, true, true, true, true, false, false, false, false, false, false, false, false, false, false, false, false, false, false, false, false, false, false]) rfl (by rfl) rfl (by kernel_rfl) ?_
    intro K hK
    go_simp
    refine (rvar_any _ _ _ _ w.heap.size ho8 hB.size (by have := HL.out; omega) u1 u2).mono ?_
    rintro e w10 ⟨r10, rfl, ho10, hg10⟩
    replace hB := hB.trans (hg10.below hB.size (fun g hg => (ho8.at_base g hg).1))
    obtain ⟨a10, c10, rfl⟩ := ho10.shapeN m4 HM4.out.symm
    have hr10 := ho10.rd
    clear ho8 ho10 hg10
    refine hK _ _ ?_
    clear hK K
    refine reg_one 11 (m1 := #[true, true, true, true, true, true, true, true, true, true, true, true, false, false, false, false, false, false, false, false, false, false, false, false, false, false, false, false, false]) rfl (by rfl) rfl (by kernel_rfl) ?_
    intro K hK
    refine wp_conv 39 rfl u8T s8 su _ rfl rfl hr10 ?_
    refine hK _ _ ?_
    clear hK K
    simp only [List.setIfInBounds_toArray, List.set_cons_zero, List.set_cons_succ]
    rotate_left
    intro K hK
    go_simp
    refine (rvar_any _ _ _ _ w.heap.size ho8 hB.size (by have := HL.out; omega) u1 u2).mono ?_
    rintro e w10 ⟨r10, rfl, ho10, hg10⟩
    replace hB := hB.trans (hg10.below hB.size (fun g hg => (ho8.at_base g hg).1))
    obtain ⟨a10, c10, rfl⟩ := ho10.shapeN m4 HM4.out.symm
    have hr10 := ho10.rd
    replace hr4 := h40.apart hr4 hg10.1 hn8
    clear ho8 ho10 hg10
    refine hK _ _ ?_
    clear hK K
    refine reg_two 5 11 (m1 := #[true, true, true, true, true, true, true, true, true, true, true, false, false, false, false, false, false, false, false, false, false, false, false, false, false, false, false, false, false]) (m2 := #[true, true, true, true, true, false, true, true, true, true, true, true, false, false, false, false, false, false, false, false, false, false, false, false, false, false, false, false, false]) rfl (by rfl) rfl rfl (by rfl) rfl (by kernel_rfl) ?_ ?_
    intro K hK
    refine wp_conv 33 rfl u8T s8 su _ rfl rfl hr4 ?_
    refine hK _ _ ?_
    clear hK K
    simp only [List.setIfInBounds_toArray, List.set_cons_zero, List.set_cons_succ]
    refine reg_one 11 (m1 := #[true, true, true, true, true, true, true, true, true, true, true, true, false, false, false, false, false, false, false, false, false, false, false, false, false, false, false, false, false]) rfl (by rfl) rfl (by kernel_rfl) ?_
    intro K hK
    refine wp_conv 39 rfl u8T s8 su _ rfl rfl hr10 ?_
    refine hK _ _ ?_
    clear hK K
    simp only [List.setIfInBounds_toArray, List.set_cons_zero, List.set_cons_succ]
    rotate_left
    intro K hK
    refine wp_conv 39 rfl u8T s8 su _ rfl rfl hr10 ?_
    refine hK _ _ ?_
    clear hK K
    simp only [List.setIfInBounds_toArray, List.set_cons_zero, List.set_cons_succ]
    refine reg_one 5 (m1 := #[true, true, true, true, true, true, true, true, true, true, true, true, false, false, false, false, false, false, false, false, false, false, false, false, false, false, false, false, false]) rfl (by rfl) rfl (by kernel_rfl) ?_
    intro K hK
    refine wp_conv 33 rfl u8T s8 su _ rfl rfl hr4 ?_
    refine hK _ _ ?_
    clear hK K
    simp only [List.setIfInBounds_toArray, List.set_cons_zero, List.set_cons_succ]
    rotate_left
    intro K hK
    refine wp_empty 34 rfl 5 _ (by go_simp) ?_
    replace hB := Below.more hB (.cells #[] 5)
    refine hK _ _ ?_
    clear hK K
    simp only [List.setIfInBounds_toArray, List.set_cons_zero, List.set_cons_succ]
    refine reg_one 0 (m1 := #[true, true, false, true, false, false, true, true, false, true, false, false, false, false, false, false, false, false, false, false, false, false, false, false, false, false, false, false, false]) rfl (by rfl) rfl (by kernel_rfl) ?_
    intro K hK
    refine wp_empty 28 rfl 5 _ (by go_simp) ?_
    replace hB := Below.more hB (.cells #[] 5)
    refine hK _ _ ?_
    clear hK K
    simp only [List.setIfInBounds_toArray, List.set_cons_zero, List.set_cons_succ]
    refine reg_one 2 (m1 := #[true, true, true, true, false, false, true, true, false, true, false, false, false, false, false, false, false, false, false, false, false, false, false, false, false, false, false, false, false]) rfl (by rfl) rfl (by kernel_rfl) ?_
    intro K hK
    refine wp_app_all 30 rfl u8T u8I (by decide) _ _ rfl _ w.heap.size _ [] rfl (Owns.empty _ _ _ _ _ _) _ _ _ l rfl (h.below hB) (by have := HL.out; simp; omega) hB.size ?_
    intro v2 w2 ho2 hg2
    replace hB := Below.call hB hg2.fromNone
    rw [List.nil_append] at ho2
    obtain ⟨a2, c2, rfl⟩ := ho2.shapeN n HL.out
    clear hg2
    refine hK _ _ ?_
    clear hK K
    simp only [List.setIfInBounds_toArray, List.set_cons_zero, List.set_cons_succ]
    refine reg_one 4 (m1 := #[true, true, true, true, true, false, true, true, false, true, false, false, false, false, false, false, false, false, false, false, false, false, false, false, false, false, false, false, false]) rfl (by rfl) rfl (by kernel_rfl) ?_
    intro K hK
    go_simp
    refine (var_any _ _ _ _ _ _ ho2.rd (by omega) u1 u2).mono ?_
    rintro e w4 ⟨r4, rfl, ho4, hb4⟩
    replace hB := Below.call hB hb4
    obtain ⟨a4, c4, rfl⟩ := ho4.shapeN m4 HM4.out.symm
    have hr4 := ho4.rd
    clear hb4 ho4 ho2
    refine hK _ _ ?_
    clear hK K
    refine reg_two 5 8 (m1 := #[true, true, true, true, true, true, true, true, false, true, false, false, false, false, false, false, false, false, false, false, false, false, false, false, false, false, false, false, false]) (m2 := #[true, true, true, true, true, false, true, true, true, true, false, false, false, false, false, false, false, false, false, false, false, false, false, false, false, false, false, false, false]) rfl (by rfl) rfl rfl (by rfl) rfl (by kernel_rfl) ?_ ?_
    intro K hK
    refine wp_conv 33 rfl u8T s8 su _ rfl rfl hr4 ?_
    refine hK _ _ ?_
    clear hK K
    simp only [List.setIfInBounds_toArray, List.set_cons_zero, List.set_cons_succ]
    refine reg_one 8 (m1 := #[true, true, true, true, true, true, true, true, true, true, false, false, false, false, false, false, false, false, false, false, false, false, false, false, false, false, false, false, false]) rfl (by rfl) rfl (by kernel_rfl) ?_
    intro K hK
    refine wp_app_all 36 rfl u8T u8I (by decide) _ _ rfl _ w.heap.size _ [] rfl (Owns.empty _ _ _ _ _ _) _ _ _ l rfl (h.below hB) (by have := HL.out; simp; omega) hB.size ?_
    intro v8 w8 ho8 hg8
    replace hB := Below.call hB hg8.fromNone
    rw [List.nil_append] at ho8
    clear hg8
    refine hK _ _ ?_
    clear hK K
    simp only [List.setIfInBounds_toArray, List.set_cons_zero, List.set_cons_succ]
    refine reg_one 10 (m1 := #[true, true, true, true, true, true, true, true, true, true, true, false, false, false, false, false, false, false, false, false, false, false, false, false, false, false, false, false, false]) rfl (by rfl) rfl (by kernel_rfl) ?_
    intro K hK
    go_simp
    refine (rvar_any _ _ _ _ w.heap.size ho8 hB.size (by have := HL.out; omega) u1 u2).mono ?_
    rintro e w10 ⟨r10, rfl, ho10, hg10⟩
    replace hB := hB.trans (hg10.below hB.size (fun g hg => (ho8.at_base g hg).1))
    obtain ⟨a10, c10, rfl⟩ := ho10.shapeN m4 HM4.out.symm
    have hr10 := ho10.rd
    clear ho8 ho10 hg10
    refine hK _ _ ?_
    clear hK K
    refine reg_one 11 (m1 := #[true, true, true, true, true, true, true, true, true, true, true, true, false, false, false, false, false, false, false, false, false, false, false, false, false, false, false, false, false]) rfl (by rfl) rfl (by kernel_rfl) ?_
    intro K hK
    refine wp_conv 39 rfl u8T s8 su _ rfl rfl hr10 ?_
    refine hK _ _ ?_
    clear hK K
    simp only [List.setIfInBounds_toArray, List.set_cons_zero, List.set_cons_succ]
    rotate_left
    intro K hK
    refine wp_app_all 36 rfl u8T u8I (by decide) _ _ rfl _ w.heap.size _ [] rfl (Owns.empty _ _ _ _ _ _) _ _ _ l rfl (h.below hB) (by have := HL.out; simp; omega) hB.size ?_
    intro v8 w8 ho8 hg8
    replace hB := Below.call hB hg8.fromNone
    rw [List.nil_append] at ho8
    have hn8 := hg8.newRoom
    have h40 := hr4
    replace hr4 := hr4.below hg8.fromNone
    clear hg8
    refine hK _ _ ?_
    clear hK K
    simp only [List.setIfInBounds_toArray, List.set_cons_zero, List.set_cons_succ]
    refine reg_two 5 10 (m1 := #[true, true, true, true, true, true, true, true, true, true, false, false, false, false, false, false, false, false, false, false, false, false, false, false, false, false, false, false, false]) (m2 := #[true, true, true, true, true, false, true, true, true, true, true, false, false, false, false, false, false, false, false, false, false, false, false, false, false, false, false, false, false]) rfl (by rfl) rfl rfl (by rfl) rfl (by kernel_rfl) ?_ ?_
    intro K hK
    refine wp_conv 33 rfl u8T s8 su _ rfl rfl hr4 ?_
    refine hK _ _ ?_
    clear hK K
    simp only [List.setIfInBounds_toArray, List.set_cons_zero, List.set_cons_succ]
    refine reg_one 10 (m1 := #[true, true, true, true, true, true, true, true, true, true, true, false, false, false, false, false, false, false, false, false, false, false, false, false, false, false, false, false, false]) rfl (by rfl) rfl (by kernel_rfl) ?_
    intro K hK
    go_simp
    refine (rvar_any _ _ _ _ w.heap.size ho8 hB.size (by have := HL.out; omega) u1 u2).mono ?_
    rintro e w10 ⟨r10, rfl, ho10, hg10⟩
    replace hB := hB.trans (hg10.below hB.size (fun g hg => (ho8.at_base g hg).1))
    obtain ⟨a10, c10, rfl⟩ := ho10.shapeN m4 HM4.out.symm
    have hr10 := ho10.rd
    clear ho8 ho10 hg10
    refine hK _ _ ?_
    clear hK K
    refine reg_one 11 (m1 := #[true, true, true, true, true, true, true, true, true, true, true, true, false, false, false, false, false, false, false, false, false, false, false, false, false, false, false, false, false]) rfl (by rfl) rfl (by kernel_rfl) ?_
    intro K hK
    refine wp_conv 39 rfl u8T s8 su _ rfl rfl hr10 ?_
    refine hK _ _ ?_
    clear hK K
    simp only [List.setIfInBounds_toArray, List.set_cons_zero, List.set_cons_succ]
    rotate_left
    intro K hK
    go_simp
    refine (rvar_any _ _ _ _ w.heap.size ho8 hB.size (by have := HL.out; omega) u1 u2).mono ?_
    rintro e w10 ⟨r10, rfl, ho10, hg10⟩
    replace hB := hB.trans (hg10.below hB.size (fun g hg => (ho8.at_base g hg).1))
    obtain ⟨a10, c10, rfl⟩ := ho10.shapeN m4 HM4.out.symm
    have hr10 := ho10.rd
    replace hr4 := h40.apart hr4 hg10.1 hn8
    clear ho8 ho10 hg10
    refine hK _ _ ?_
    clear hK K
    refine reg_two 5 11 (m1 := #[true, true, true, true, true, true, true, true, true, true, true, false, false, false, false, false, false, false, false, false, false, false, false, false, false, false, false, false, false]) (m2 := #[true, true, true, true, true, false, true, true, true, true, true, true, false, false, false, false, false, false, false, false, false, false, false, false, false, false, false, false, false]) rfl (by rfl) rfl rfl (by rfl) rfl (by kernel_rfl) ?_ ?_
    intro K hK
    refine wp_conv 33 rfl u8T s8 su _ rfl rfl hr4 ?_
    refine hK _ _ ?_
    clear hK K
    simp only [List.setIfInBounds_toArray, List.set_cons_zero, List.set_cons_succ]
    refine reg_one 11 (m1 := #[true, true, true, true, true, true, true, true, true, true, true, true, false, false, false, false, false, false, false, false, false, false, false, false, false, false, false, false, false]) rfl (by rfl) rfl (by kernel_rfl) ?_
    intro K hK
    refine wp_conv 39 rfl u8T s8 su _ rfl rfl hr10 ?_
    refine hK _ _ ?_
    clear hK K
    simp only [List.setIfInBounds_toArray, List.set_cons_zero, List.set_cons_succ]
    rotate_left
    intro K hK
    refine wp_conv 39 rfl u8T s8 su _ rfl rfl hr10 ?_
    refine hK _ _ ?_
    clear hK K
    simp only [List.setIfInBounds_toArray, List.set_cons_zero, List.set_cons_succ]
    refine reg_one 5 (m1 := #[true, true, true, true, true, true, true, true, true, true, true, true, false, false, false, false, false, false, false, false, false, false, false, false, false, false, false, false, false]) rfl (by rfl) rfl (by kernel_rfl) ?_
    intro K hK
    refine wp_conv 33 rfl u8T s8 su _ rfl rfl hr4 ?_
    refine hK _ _ ?_
    clear hK K
    simp only [List.setIfInBounds_toArray, List.set_cons_zero, List.set_cons_succ]
    rotate_left
    all_goals
      refine reg_take 12 (d := 40) (v := ?_) (listed' := #[true, true, true, true, true, true, true, true, true, true, true, true, true, false, false, false, false, false, false, false, false, false, false, false, false, false, false, false, false]) rfl rfl (by rfl) (by kernel_rfl) (by kernel_rfl) (by kernel_rfl) (fun _ _ _ h => h) (by rfl) ?_ ?_
      rotate_left
      · (intro w; go_simp; try with_reducible rfl)
      simp only [List.setIfInBounds_toArray, List.set_cons_zero, List.set_cons_succ]
      refine reg_take 13 (d := 41) (v := ?_) (listed' := #[true, true, true, true, true, true, true, true, true, true, true, true, true, true, false, false, false, false, false, false, false, false, false, false, false, false, false, false, false]) rfl rfl (by rfl) (by kernel_rfl) (by kernel_rfl) (by kernel_rfl) (fun _ _ _ h => h) (by rfl) ?_ ?_
      rotate_left
      · (intro w; go_simp; try with_reducible rfl)
      simp only [List.setIfInBounds_toArray, List.set_cons_zero, List.set_cons_succ]
      refine reg_take 14 (d := 42) (v := ?_) (listed' := #[true, true, true, true, true, true, true, true, true, true, true, true, true, true, true, false, false, false, false, false, false, false, false, false, false, false, false, false, false]) rfl rfl (by rfl) (by kernel_rfl) (by kernel_rfl) (by kernel_rfl) (fun _ _ _ h => h) (by rfl) ?_ ?_
      rotate_left
      · (intro w; go_simp; try with_reducible rfl)
      simp only [List.setIfInBounds_toArray, List.set_cons_zero, List.set_cons_succ]
      refine reg_take 15 (d := 43) (v := ?_) (listed' := #[true, true, true, true, true, true, true, true, true, true, true, true, true, true, true, true, false, false, false, false, false, false, false, false, false, false, false, false, false]) rfl rfl (by rfl) (by kernel_rfl) (by kernel_rfl) (by kernel_rfl) (fun _ _ _ h => h) (by rfl) ?_ ?_
      rotate_left
      · (intro w; go_simp; try with_reducible rfl)
      simp only [List.setIfInBounds_toArray, List.set_cons_zero, List.set_cons_succ]
      refine reg_take 16 (d := 44) (v := ?_) (listed' := #[true, true, true, true, true, true, true, true, true, true, true, true, true, true, true, true, true, false, false, false, false, false, false, false, false, false, false, false, false]) rfl rfl (by rfl) (by kernel_rfl) (by kernel_rfl) (by kernel_rfl) (fun _ _ _ h => h) (by rfl) ?_ ?_
      rotate_left
      · (intro w; go_simp; try with_reducible rfl)
      simp only [List.setIfInBounds_toArray, List.set_cons_zero, List.set_cons_succ]
      refine reg_take 17 (d := 45) (v := ?_) (listed' := #[true, true, true, true, true, true, true, true, true, true, true, true, true, true, true, true, true, true, false, false, false, false, false, false, false, false, false, false, false]) rfl rfl (by rfl) (by kernel_rfl) (by kernel_rfl) (by kernel_rfl) (fun _ _ _ h => h) (by rfl) ?_ ?_
      rotate_left
      · (intro w; go_simp; try with_reducible rfl)
      simp only [List.setIfInBounds_toArray, List.set_cons_zero, List.set_cons_succ]
      refine reg_take 18 (d := 46) (v := ?_) (listed' := #[true, true, true, true, true, true, true, true, true, true, true, true, true, true, true, true, true, true, true, false, false, false, false, false, false, false, false, false, false]) rfl rfl (by rfl) (by kernel_rfl) (by kernel_rfl) (by kernel_rfl) (fun _ _ _ h => h) (by rfl) ?_ ?_
      rotate_left
      · (intro w; go_simp; try with_reducible rfl)
      simp only [List.setIfInBounds_toArray, List.set_cons_zero, List.set_cons_succ]
      refine reg_take 19 (d := 47) (v := ?_) (listed' := #[true, true, true, true, true, true, true, true, true, true, true, true, true, true, true, true, true, true, true, true, false, false, false, false, false, false, false, false, false]) rfl rfl (by rfl) (by kernel_rfl) (by kernel_rfl) (by kernel_rfl) (fun _ _ _ h => h) (by rfl) ?_ ?_
      rotate_left
      · (intro w; go_simp; try with_reducible rfl)
      simp only [List.setIfInBounds_toArray, List.set_cons_zero, List.set_cons_succ]
      refine reg_take 20 (d := 48) (v := ?_) (listed' := #[true, true, true, true, true, true, true, true, true, true, true, true, true, true, true, true, true, true, true, true, true, false, false, false, false, false, false, false, false]) rfl rfl (by rfl) (by kernel_rfl) (by kernel_rfl) (by kernel_rfl) (fun _ _ _ h => h) (by rfl) ?_ ?_
      rotate_left
      · (intro w; go_simp; try with_reducible rfl)
      simp only [List.setIfInBounds_toArray, List.set_cons_zero, List.set_cons_succ]
      refine reg_take 21 (d := 49) (v := ?_) (listed' := #[true, true, true, true, true, true, true, true, true, true, true, true, true, true, true, true, true, true, true, true, true, true, false, false, false, false, false, false, false]) rfl rfl (by rfl) (by kernel_rfl) (by kernel_rfl) (by kernel_rfl) (fun _ _ _ h => h) (by rfl) ?_ ?_
      rotate_left
      · (intro w; go_simp; try with_reducible rfl)
      simp only [List.setIfInBounds_toArray, List.set_cons_zero, List.set_cons_succ]
      refine reg_take 22 (d := 50) (v := ?_) (listed' := #[true, true, true, true, true, true, true, true, true, true, true, true, true, true, true, true, true, true, true, true, true, true, true, false, false, false, false, false, false]) rfl rfl (by rfl) (by kernel_rfl) (by kernel_rfl) (by kernel_rfl) (fun _ _ _ h => h) (by rfl) ?_ ?_
      rotate_left
      · (intro w; go_simp; try with_reducible rfl)
      simp only [List.setIfInBounds_toArray, List.set_cons_zero, List.set_cons_succ]
      refine reg_take 23 (d := 51) (v := ?_) (listed' := #[true, true, true, true, true, true, true, true, true, true, true, true, true, true, true, true, true, true, true, true, true, true, true, true, false, false, false, false, false]) rfl rfl (by rfl) (by kernel_rfl) (by kernel_rfl) (by kernel_rfl) (fun _ _ _ h => h) (by rfl) ?_ ?_
      rotate_left
      · (intro w; go_simp; try with_reducible rfl)
      simp only [List.setIfInBounds_toArray, List.set_cons_zero, List.set_cons_succ]
      refine reg_take 24 (d := 52) (v := ?_) (listed' := #[true, true, true, true, true, true, true, true, true, true, true, true, true, true, true, true, true, true, true, true, true, true, true, true, true, false, false, false, false]) rfl rfl (by rfl) (by kernel_rfl) (by kernel_rfl) (by kernel_rfl) (fun _ _ _ h => h) (by rfl) ?_ ?_
      rotate_left
      · (intro w; go_simp; try with_reducible rfl)
      simp only [List.setIfInBounds_toArray, List.set_cons_zero, List.set_cons_succ]
      refine reg_take 25 (d := 53) (v := ?_) (listed' := #[true, true, true, true, true, true, true, true, true, true, true, true, true, true, true, true, true, true, true, true, true, true, true, true, true, true, false, false, false]) rfl rfl (by rfl) (by kernel_rfl) (by kernel_rfl) (by kernel_rfl) (fun _ _ _ h => h) (by rfl) ?_ ?_
      rotate_left
      · (intro w; go_simp; try with_reducible rfl)
      simp only [List.setIfInBounds_toArray, List.set_cons_zero, List.set_cons_succ]
      refine reg_take 26 (d := 54) (v := ?_) (listed' := #[true, true, true, true, true, true, true, true, true, true, true, true, true, true, true, true, true, true, true, true, true, true, true, true, true, true, true, false, false]) rfl rfl (by rfl) (by kernel_rfl) (by kernel_rfl) (by kernel_rfl) (fun _ _ _ h => h) (by rfl) ?_ ?_
      rotate_left
      · (intro w; go_simp; try with_reducible rfl)
      simp only [List.setIfInBounds_toArray, List.set_cons_zero, List.set_cons_succ]
      refine reg_take 27 (d := 55) (v := ?_) (listed' := #[true, true, true, true, true, true, true, true, true, true, true, true, true, true, true, true, true, true, true, true, true, true, true, true, true, true, true, true, false]) rfl rfl (by rfl) (by kernel_rfl) (by kernel_rfl) (by kernel_rfl) (fun _ _ _ h => h) (by rfl) ?_ ?_
      rotate_left
      · (intro w; go_simp; try with_reducible rfl)
      simp only [List.setIfInBounds_toArray, List.set_cons_zero, List.set_cons_succ]
      refine reg_take 28 (d := 4) (v := ?_) (listed' := #[true, true, true, true, true, true, true, true, true, true, true, true, true, true, true, true, true, true, true, true, true, true, true, true, true, true, true, true, true]) rfl rfl (by rfl) (by kernel_rfl) (by kernel_rfl) (by kernel_rfl) (fun _ _ _ h => h) (by rfl) ?_ ?_
      rotate_left
      · (intro w; go_simp; try with_reducible rfl)
      simp only [List.setIfInBounds_toArray, List.set_cons_zero, List.set_cons_succ]
      refine reg_done (by kernel_rfl) ?_
    all_goals
      go_wp2
      go_ret
      exact ⟨rfl, hB⟩
  · go_enter Try.func7, Try.ntmps7
    go_wp2_with (first | (go_at_call 10; refine (known1 _).mono ?_; rintro e w1 ⟨rfl, hb⟩) | (go_at_call 27; refine (readvar_any _ _ _ _ _ (h.below hb)).mono ?_; rintro e w' ⟨rfl, rfl⟩) | (go_at_call 28; refine (rreadvar_any _ _ _ _ _ (h.below hb)).mono ?_; rintro e w' ⟨rfl, rfl⟩))
    go_ret
    exact ⟨rfl, hb⟩
end Go.Proofs.Ytpaddiggieklfaa
