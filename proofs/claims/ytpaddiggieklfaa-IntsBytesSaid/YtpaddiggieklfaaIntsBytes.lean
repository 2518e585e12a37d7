/- The walk of almanaclaw1.IntsBytes: it answers true at every bytes and numbers. -/
import Derived.Test.YtpaddiggieklfaaKnown1
import Derived.Test.YtpaddiggieklfaaPut
import Derived.Test.YtpaddiggieklfaaGet
import Derived.Test.YtpaddiggieklfaaRegion
import Derived.Deep.DeepCutAuto
namespace Go.Proofs.Ytpaddiggieklfaa
open Go.RowKit
set_option maxRecDepth 100000 in
set_option maxHeartbeats 4000000 in
theorem intsBytes_walk (a : Option Addr) (n c : Nat) (l : List Int) (u m p v q : Int) (w : World) (h : RdAt .u8 w a n c l) (w1 : (Lit.int .u64 u).wf = true) (w2 : (Lit.int .i64 m).wf = true) (w3 : (Lit.int .i64 p).wf = true) (w4 : (Lit.int .i64 v).wf = true) (w5 : (Lit.int .i64 q).wf = true) :
    Calls Try.prog 8 #[.slice a n c, .int .u64 u, .int .i64 m, .int .i64 p, .int .i64 v, .int .i64 q] w fun e w' => e = .returned (.bool true) ∧ Below w.heap.size w w' := by
  obtain ⟨u1, u2⟩ := wf_u64_bd w1
  obtain ⟨m1, m2⟩ := wf_i64_bd w2
  obtain ⟨p1, p2⟩ := wf_i64_bd w3
  obtain ⟨v1, v2⟩ := wf_i64_bd w4
  obtain ⟨t1, t2⟩ := wf_i64_bd w5
  clear w1 w2 w3 w4 w5
  have su : Try.prog.underlying 9 = some .string := Try.underlying9
  have s8 : Try.prog.underlying 5 = some (.int .u8) := Try.underlying5
  have hcap := h.cap
  have hmax := h.max
  have HL := Lib.hid h.len
  unfold maxLen at hmax
  by_cases c1 : n ≤ 2000
  · obtain ⟨m4, hm4⟩ : ∃ m', m' = (l ++ putL u (putN m)).length := ⟨_, rfl⟩
    have HM4 := Lib.hid hm4
    clear hm4
    go_enter Try.func8, Try.ntmps8
    go_wp2_with (go_at_call 10; refine (known1 _).mono ?_; rintro e w1 ⟨rfl, hb⟩)
    have hB := hb.drew
    clear hb
    go_cut [44] from 30 to 44 (fun z wc => z = .bool false ∧ Below w.heap.size w wc)
    case first =>
      refine reg_start (by kernel_rfl) 15 rfl ?_
      refine reg_take 1 (d := 31) (v := ?_) (listed' := #[false, true, false, false, false, false, false, false, false, false, false, false, false, false, false]) rfl rfl (by rfl) (by kernel_rfl) (by kernel_rfl) (by kernel_rfl) (fun _ _ _ h => h) (by rfl) ?_ ?_
      rotate_left
      · (intro w; go_simp; try with_reducible rfl)
      simp only [List.setIfInBounds_toArray, List.set_cons_zero, List.set_cons_succ]
      refine reg_take 3 (d := 33) (v := ?_) (listed' := #[false, true, false, true, false, false, false, false, false, false, false, false, false, false, false]) rfl rfl (by rfl) (by kernel_rfl) (by kernel_rfl) (by kernel_rfl) (fun _ _ _ h => h) (by rfl) ?_ ?_
      rotate_left
      · (intro w; go_simp; try with_reducible rfl)
      simp only [List.setIfInBounds_toArray, List.set_cons_zero, List.set_cons_succ]
      refine reg_take 4 (d := 34) (v := ?_) (listed' := #[false, true, false, true, true, false, false, false, false, false, false, false, false, false, false]) rfl rfl (by rfl) (by kernel_rfl) (by kernel_rfl) (by kernel_rfl) (fun _ _ _ h => h) (by rfl) ?_ ?_
      rotate_left
      · (intro w; go_simp; try with_reducible rfl)
      simp only [List.setIfInBounds_toArray, List.set_cons_zero, List.set_cons_succ]
      refine reg_take 8 (d := 38) (v := ?_) (listed' := #[false, true, false, true, true, false, false, false, true, false, false, false, false, false, false]) rfl rfl (by rfl) (by kernel_rfl) (by kernel_rfl) (by kernel_rfl) (fun _ _ _ h => h) (by rfl) ?_ ?_
      rotate_left
      · (intro w; go_simp; try with_reducible rfl)
      simp only [List.setIfInBounds_toArray, List.set_cons_zero, List.set_cons_succ]
      refine reg_take 10 (d := 40) (v := ?_) (listed' := #[false, true, false, true, true, false, false, false, true, false, true, false, false, false, false]) rfl rfl (by rfl) (by kernel_rfl) (by kernel_rfl) (by kernel_rfl) (fun _ _ _ h => h) (by rfl) ?_ ?_
      rotate_left
      · (intro w; go_simp; try with_reducible rfl)
      simp only [List.setIfInBounds_toArray, List.set_cons_zero, List.set_cons_succ]
      refine reg_take 11 (d := 41) (v := ?_) (listed' := #[false, true, false, true, true, false, false, false, true, false, true, true, false, false, false]) rfl rfl (by rfl) (by kernel_rfl) (by kernel_rfl) (by kernel_rfl) (fun _ _ _ h => h) (by rfl) ?_ ?_
      rotate_left
      · (intro w; go_simp; try with_reducible rfl)
      simp only [List.setIfInBounds_toArray, List.set_cons_zero, List.set_cons_succ]
      refine reg_two 0 7 (m1 := #[true, true, false, true, true, false, false, false, true, false, true, true, false, false, false]) (m2 := #[false, true, false, true, true, false, false, true, true, false, true, true, false, false, false]) rfl (by rfl) rfl rfl (by rfl) rfl (by kernel_rfl) ?_ ?_
      intro K hK
      refine wp_empty 30 rfl 5 _ (by go_simp) ?_
      replace hB := Below.more hB (.cells #[] 5)
      refine hK _ _ ?_
      clear hK K
      simp only [List.setIfInBounds_toArray, List.set_cons_zero, List.set_cons_succ]
      refine reg_two 2 7 (m1 := #[true, true, true, true, true, false, false, false, true, false, true, true, false, false, false]) (m2 := #[true, true, false, true, true, false, false, true, true, false, true, true, false, false, false]) rfl (by rfl) rfl rfl (by rfl) rfl (by kernel_rfl) ?_ ?_
      intro K hK
      refine wp_app_all 32 rfl u8T u8I (by decide) _ _ rfl _ w.heap.size _ [] rfl (Owns.empty _ _ _ _ _ _) _ _ _ l rfl (h.below hB) (by have := HL.out; simp; omega) hB.size ?_
      intro v2 w2 ho2 hg2
      replace hB := Below.call hB hg2.fromNone
      rw [List.nil_append] at ho2
      obtain ⟨a2, c2, rfl⟩ := ho2.shapeN n HL.out
      clear hg2
      refine hK _ _ ?_
      clear hK K
      simp only [List.setIfInBounds_toArray, List.set_cons_zero, List.set_cons_succ]
      refine reg_two 5 7 (m1 := #[true, true, true, true, true, true, false, false, true, false, true, true, false, false, false]) (m2 := #[true, true, true, true, true, false, false, true, true, false, true, true, false, false, false]) rfl (by rfl) rfl rfl (by rfl) rfl (by kernel_rfl) ?_ ?_
      intro K hK
      go_simp
      refine (put_any _ _ _ _ _ _ _ ho2.rd (by omega) u1 u2 m1 m2).mono ?_
      rintro e w4 ⟨r4, rfl, ho4, hb4⟩
      replace hB := Below.call hB hb4
      obtain ⟨a4, c4, rfl⟩ := ho4.shapeN m4 HM4.out.symm
      have hr4 := ho4.rd
      clear hb4 ho4 ho2
      refine hK _ _ ?_
      clear hK K
      refine reg_two 6 7 (m1 := #[true, true, true, true, true, true, true, false, true, false, true, true, false, false, false]) (m2 := #[true, true, true, true, true, true, false, true, true, false, true, true, false, false, false]) rfl (by rfl) rfl rfl (by rfl) rfl (by kernel_rfl) ?_ ?_
      intro K hK
      refine wp_conv 36 rfl u8T s8 su _ rfl rfl hr4 ?_
      refine hK _ _ ?_
      clear hK K
      simp only [List.setIfInBounds_toArray, List.set_cons_zero, List.set_cons_succ]
      refine reg_one 7 (m1 := #[true, true, true, true, true, true, true, true, true, false, true, true, false, false, false]) rfl (by rfl) rfl (by kernel_rfl) ?_
      intro K hK
      refine wp_empty 37 rfl 5 _ (by go_simp) ?_
      replace hB := Below.more hB (.cells #[] 5)
      refine hK _ _ ?_
      clear hK K
      simp only [List.setIfInBounds_toArray, List.set_cons_zero, List.set_cons_succ]
      refine reg_one 9 (m1 := #[true, true, true, true, true, true, true, true, true, true, true, true, false, false, false]) rfl (by rfl) rfl (by kernel_rfl) ?_
      intro K hK
      refine wp_app_all 39 rfl u8T u8I (by decide) _ _ rfl _ w.heap.size _ [] rfl (Owns.empty _ _ _ _ _ _) _ _ _ l rfl (h.below hB) (by have := HL.out; simp; omega) hB.size ?_
      intro v8 w8 ho8 hg8
      replace hB := Below.call hB hg8.fromNone
      rw [List.nil_append] at ho8
      clear hg8
      refine hK _ _ ?_
      clear hK K
      simp only [List.setIfInBounds_toArray, List.set_cons_zero, List.set_cons_succ]
      refine reg_one 12 (m1 := #[true, true, true, true, true, true, true, true, true, true, true, true, true, false, false]) rfl (by rfl) rfl (by kernel_rfl) ?_
      intro K hK
      go_simp
      refine (rput_any _ _ _ _ _ w.heap.size ho8 hB.size (by have := HL.out; omega) u1 u2 m1 m2).mono ?_
      rintro e w10 ⟨r10, rfl, ho10, hg10⟩
      replace hB := hB.trans (hg10.below hB.size (fun g hg => (ho8.at_base g hg).1))
      obtain ⟨a10, c10, rfl⟩ := ho10.shapeN m4 HM4.out.symm
      have hr10 := ho10.rd
      clear ho8 ho10 hg10
      refine hK _ _ ?_
      clear hK K
      refine reg_one 13 (m1 := #[true, true, true, true, true, true, true, true, true, true, true, true, true, true, false]) rfl (by rfl) rfl (by kernel_rfl) ?_
      intro K hK
      refine wp_conv 43 rfl u8T s8 su _ rfl rfl hr10 ?_
      refine hK _ _ ?_
      clear hK K
      simp only [List.setIfInBounds_toArray, List.set_cons_zero, List.set_cons_succ]
      rotate_left
      intro K hK
      refine wp_empty 37 rfl 5 _ (by go_simp) ?_
      replace hB := Below.more hB (.cells #[] 5)
      replace hr4 := hr4.alloc (.cells #[] 5)
      refine hK _ _ ?_
      clear hK K
      simp only [List.setIfInBounds_toArray, List.set_cons_zero, List.set_cons_succ]
      refine reg_two 6 9 (m1 := #[true, true, true, true, true, true, true, true, true, false, true, true, false, false, false]) (m2 := #[true, true, true, true, true, true, false, true, true, true, true, true, false, false, false]) rfl (by rfl) rfl rfl (by rfl) rfl (by kernel_rfl) ?_ ?_
      intro K hK
      refine wp_conv 36 rfl u8T s8 su _ rfl rfl hr4 ?_
      refine hK _ _ ?_
      clear hK K
      simp only [List.setIfInBounds_toArray, List.set_cons_zero, List.set_cons_succ]
      refine reg_one 9 (m1 := #[true, true, true, true, true, true, true, true, true, true, true, true, false, false, false]) rfl (by rfl) rfl (by kernel_rfl) ?_
      intro K hK
      refine wp_app_all 39 rfl u8T u8I (by decide) _ _ rfl _ w.heap.size _ [] rfl (Owns.empty _ _ _ _ _ _) _ _ _ l rfl (h.below hB) (by have := HL.out; simp; omega) hB.size ?_
      intro v8 w8 ho8 hg8
      replace hB := Below.call hB hg8.fromNone
      rw [List.nil_append] at ho8
      clear hg8
      refine hK _ _ ?_
      clear hK K
      simp only [List.setIfInBounds_toArray, List.set_cons_zero, List.set_cons_succ]
      refine reg_one 12 (m1 := #[true, true, true, true, true, true, true, true, true, true, true, true, true, false, false]) rfl (by rfl) rfl (by kernel_rfl) ?_
      intro K hK
      go_simp
      refine (rput_any _ _ _ _ _ w.heap.size ho8 hB.size (by have := HL.out; omega) u1 u2 m1 m2).mono ?_
      rintro e w10 ⟨r10, rfl, ho10, hg10⟩
      replace hB := hB.trans (hg10.below hB.size (fun g hg => (ho8.at_base g hg).1))
      obtain ⟨a10, c10, rfl⟩ := ho10.shapeN m4 HM4.out.symm
      have hr10 := ho10.rd
      clear ho8 ho10 hg10
      refine hK _ _ ?_
      clear hK K
      refine reg_one 13 (m1 := #[true, true, true, true, true, true, true, true, true, true, true, true, true, true, false]) rfl (by rfl) rfl (by kernel_rfl) ?_
      intro K hK
      refine wp_conv 43 rfl u8T s8 su _ rfl rfl hr10 ?_
      refine hK _ _ ?_
      clear hK K
      simp only [List.setIfInBounds_toArray, List.set_cons_zero, List.set_cons_succ]
      rotate_left
      intro K hK
      refine wp_app_all 39 rfl u8T u8I (by decide) _ _ rfl _ w.heap.size _ [] rfl (Owns.empty _ _ _ _ _ _) _ _ _ l rfl (h.below hB) (by have := HL.out; simp; omega) hB.size ?_
      intro v8 w8 ho8 hg8
      replace hB := Below.call hB hg8.fromNone
      rw [List.nil_append] at ho8
      have hn8 := hg8.newRoom
      have h40 := hr4
      replace hr4 := hr4.below hg8.fromNone
      clear hg8
      refine hK _ _ ?_
      clear hK K
      simp only [List.setIfInBounds_toArray, List.set_cons_zero, List.set_cons_succ]
      refine reg_two 6 12 (m1 := #[true, true, true, true, true, true, true, true, true, true, true, true, false, false, false]) (m2 := #[true, true, true, true, true, true, false, true, true, true, true, true, true, false, false]) rfl (by rfl) rfl rfl (by rfl) rfl (by kernel_rfl) ?_ ?_
      intro K hK
      refine wp_conv 36 rfl u8T s8 su _ rfl rfl hr4 ?_
      refine hK _ _ ?_
      clear hK K
      simp only [List.setIfInBounds_toArray, List.set_cons_zero, List.set_cons_succ]
      refine reg_one 12 (m1 := #[true, true, true, true, true, true, true, true, true, true, true, true, true, false, false]) rfl (by rfl) rfl (by kernel_rfl) ?_
      intro K hK
      go_simp
      refine (rput_any _ _ _ _ _ w.heap.size ho8 hB.size (by have := HL.out; omega) u1 u2 m1 m2).mono ?_
      rintro e w10 ⟨r10, rfl, ho10, hg10⟩
      replace hB := hB.trans (hg10.below hB.size (fun g hg => (ho8.at_base g hg).1))
      obtain ⟨a10, c10, rfl⟩ := ho10.shapeN m4 HM4.out.symm
      have hr10 := ho10.rd
      clear ho8 ho10 hg10
      refine hK _ _ ?_
      clear hK K
      refine reg_one 13 (m1 := #[true, true, true, true, true, true, true, true, true, true, true, true, true, true, false]) rfl (by rfl) rfl (by kernel_rfl) ?_
      intro K hK
      refine wp_conv 43 rfl u8T s8 su _ rfl rfl hr10 ?_
      refine hK _ _ ?_
      clear hK K
      simp only [List.setIfInBounds_toArray, List.set_cons_zero, List.set_cons_succ]
      rotate_left
      intro K hK
      go_simp
      refine (rput_any _ _ _ _ _ w.heap.size ho8 hB.size (by have := HL.out; omega) u1 u2 m1 m2).mono ?_
      rintro e w10 ⟨r10, rfl, ho10, hg10⟩
      replace hB := hB.trans (hg10.below hB.size (fun g hg => (ho8.at_base g hg).1))
      obtain ⟨a10, c10, rfl⟩ := ho10.shapeN m4 HM4.out.symm
      have hr10 := ho10.rd
      replace hr4 := h40.apart hr4 hg10.1 hn8
      clear ho8 ho10 hg10
      refine hK _ _ ?_
      clear hK K
      refine reg_two 6 13 (m1 := #[true, true, true, true, true, true, true, true, true, true, true, true, true, false, false]) (m2 := #[true, true, true, true, true, true, false, true, true, true, true, true, true, true, false]) rfl (by rfl) rfl rfl (by rfl) rfl (by kernel_rfl) ?_ ?_
      intro K hK
      refine wp_conv 36 rfl u8T s8 su _ rfl rfl hr4 ?_
      refine hK _ _ ?_
      clear hK K
      simp only [List.setIfInBounds_toArray, List.set_cons_zero, List.set_cons_succ]
      refine reg_one 13 (m1 := #[true, true, true, true, true, true, true, true, true, true, true, true, true, true, false]) rfl (by rfl) rfl (by kernel_rfl) ?_
      intro K hK
      refine wp_conv 43 rfl u8T s8 su _ rfl rfl hr10 ?_
      refine hK _ _ ?_
      clear hK K
      simp only [List.setIfInBounds_toArray, List.set_cons_zero, List.set_cons_succ]
      rotate_left
      intro K hK
      refine wp_conv 43 rfl u8T s8 su _ rfl rfl hr10 ?_
      refine hK _ _ ?_
      clear hK K
      simp only [List.setIfInBounds_toArray, List.set_cons_zero, List.set_cons_succ]
      refine reg_one 6 (m1 := #[true, true, true, true, true, true, true, true, true, true, true, true, true, true, false]) rfl (by rfl) rfl (by kernel_rfl) ?_
      intro K hK
      refine wp_conv 36 rfl u8T s8 su _ rfl rfl hr4 ?_
      refine hK _ _ ?_
      clear hK K
      simp only [List.setIfInBounds_toArray, List.set_cons_zero, List.set_cons_succ]
      rotate_left
      intro K hK
      refine wp_empty 37 rfl 5 _ (by go_simp) ?_
      replace hB := Below.more hB (.cells #[] 5)
      replace ho2 := ho2.alloc (.cells #[] 5)
      refine hK _ _ ?_
      clear hK K
      simp only [List.setIfInBounds_toArray, List.set_cons_zero, List.set_cons_succ]
      refine reg_one 5 (m1 := #[true, true, true, true, true, true, false, true, true, false, true, true, false, false, false]) rfl (by rfl) rfl (by kernel_rfl) ?_
      intro K hK
      go_simp
      refine (put_any _ _ _ _ _ _ _ ho2.rd (by omega) u1 u2 m1 m2).mono ?_
      rintro e w4 ⟨r4, rfl, ho4, hb4⟩
      replace hB := Below.call hB hb4
      obtain ⟨a4, c4, rfl⟩ := ho4.shapeN m4 HM4.out.symm
      have hr4 := ho4.rd
      clear hb4 ho4 ho2
      refine hK _ _ ?_
      clear hK K
      refine reg_two 6 9 (m1 := #[true, true, true, true, true, true, true, true, true, false, true, true, false, false, false]) (m2 := #[true, true, true, true, true, true, false, true, true, true, true, true, false, false, false]) rfl (by rfl) rfl rfl (by rfl) rfl (by kernel_rfl) ?_ ?_
      intro K hK
      refine wp_conv 36 rfl u8T s8 su _ rfl rfl hr4 ?_
      refine hK _ _ ?_
      clear hK K
      simp only [List.setIfInBounds_toArray, List.set_cons_zero, List.set_cons_succ]
      refine reg_one 9 (m1 := #[true, true, true, true, true, true, true, true, true, true, true, true, false, false, false]) rfl (by rfl) rfl (by kernel_rfl) ?_
      intro K hK
      refine wp_app_all 39 rfl u8T u8I (by decide) _ _ rfl _ w.heap.size _ [] rfl (Owns.empty _ _ _ _ _ _) _ _ _ l rfl (h.below hB) (by have := HL.out; simp; omega) hB.size ?_
      intro v8 w8 ho8 hg8
      replace hB := Below.call hB hg8.fromNone
      rw [List.nil_append] at ho8
      clear hg8
      refine hK _ _ ?_
      clear hK K
      simp only [List.setIfInBounds_toArray, List.set_cons_zero, List.set_cons_succ]
      refine reg_one 12 (m1 := #[true, true, true, true, true, true, true, true, true, true, true, true, true, false, false]) rfl (by rfl) rfl (by kernel_rfl) ?_
      intro K hK
      go_simp
      refine (rput_any _ _ _ _ _ w.heap.size ho8 hB.size (by have := HL.out; omega) u1 u2 m1 m2).mono ?_
      rintro e w10 ⟨r10, rfl, ho10, hg10⟩
      replace hB := hB.trans (hg10.below hB.size (fun g hg => (ho8.at_base g hg).1))
      obtain ⟨a10, c10, rfl⟩ := ho10.shapeN m4 HM4.out.symm
      have hr10 := ho10.rd
      clear ho8 ho10 hg10
      refine hK _ _ ?_
      clear hK K
      refine reg_one 13 (m1 := #[true, true, true, true, true, true, true, true, true, true, true, true, true, true, false]) rfl (by rfl) rfl (by kernel_rfl) ?_
      intro K hK
      refine wp_conv 43 rfl u8T s8 su _ rfl rfl hr10 ?_
      refine hK _ _ ?_
      clear hK K
      simp only [List.setIfInBounds_toArray, List.set_cons_zero, List.set_cons_succ]
      rotate_left
      intro K hK
      refine wp_app_all 39 rfl u8T u8I (by decide) _ _ rfl _ w.heap.size _ [] rfl (Owns.empty _ _ _ _ _ _) _ _ _ l rfl (h.below hB) (by have := HL.out; simp; omega) hB.size ?_
      intro v8 w8 ho8 hg8
      replace hB := Below.call hB hg8.fromNone
      rw [List.nil_append] at ho8
      have hn8 := hg8.newRoom
      have h40 := hr4
      replace hr4 := hr4.below hg8.fromNone
      clear hg8
      refine hK _ _ ?_
      clear hK K
      simp only [List.setIfInBounds_toArray, List.set_cons_zero, List.set_cons_succ]
      refine reg_two 6 12 (m1 := #[true, true, true, true, true, true, true, true, true, true, true, true, false, false, false]) (m2 := #[true, true, true, true, true, true, false, true, true, true, true, true, true, false, false]) rfl (by rfl) rfl rfl (by rfl) rfl (by kernel_rfl) ?_ ?_
      intro K hK
      refine wp_conv 36 rfl u8T s8 su _ rfl rfl hr4 ?_
      refine hK _ _ ?_
      clear hK K
      simp only [List.setIfInBounds_toArray, List.set_cons_zero, List.set_cons_succ]
      refine reg_one 12 (m1 := #[true, true, true, true, true, true, true, true, true, true, true, true, true, false, false]) rfl (by rfl) rfl (by kernel_rfl) ?_
      intro K hK
      go_simp
      refine (rput_any _ _ _ _ _ w.heap.size ho8 hB.size (by have := HL.out; omega) u1 u2 m1 m2).mono ?_
      rintro e w10 ⟨r10, rfl, ho10, hg10⟩
      replace hB := hB.trans (hg10.below hB.size (fun g hg => (ho8.at_base g hg).1))
      obtain ⟨a10, c10, rfl⟩ := ho10.shapeN m4 HM4.out.symm
      have hr10 := ho10.rd
      clear ho8 ho10 hg10
      refine hK _ _ ?_
      clear hK K
      refine reg_one 13 (m1 := #[true, true, true, true, true, true, true, true, true, true, true, true, true, true, false]) rfl (by rfl) rfl (by kernel_rfl) ?_
      intro K hK
      refine wp_conv 43 rfl u8T s8 su _ rfl rfl hr10 ?_
      refine hK _ _ ?_
      clear hK K
      simp only [List.setIfInBounds_toArray, List.set_cons_zero, List.set_cons_succ]
      rotate_left
      intro K hK
      go_simp
      refine (rput_any _ _ _ _ _ w.heap.size ho8 hB.size (by have := HL.out; omega) u1 u2 m1 m2).mono ?_
      rintro e w10 ⟨r10, rfl, ho10, hg10⟩
      replace hB := hB.trans (hg10.below hB.size (fun g hg => (ho8.at_base g hg).1))
      obtain ⟨a10, c10, rfl⟩ := ho10.shapeN m4 HM4.out.symm
      have hr10 := ho10.rd
      replace hr4 := h40.apart hr4 hg10.1 hn8
      clear ho8 ho10 hg10
      refine hK _ _ ?_
      clear hK K
      refine reg_two 6 13 (m1 := #[true, true, true, true, true, true, true, true, true, true, true, true, true, false, false]) (m2 := #[true, true, true, true, true, true, false, true, true, true, true, true, true, true, false]) rfl (by rfl) rfl rfl (by rfl) rfl (by kernel_rfl) ?_ ?_
      intro K hK
      refine wp_conv 36 rfl u8T s8 su _ rfl rfl hr4 ?_
      refine hK _ _ ?_
      clear hK K
      simp only [List.setIfInBounds_toArray, List.set_cons_zero, List.set_cons_succ]
      refine reg_one 13 (m1 := #[true, true, true, true, true, true, true, true, true, true, true, true, true, true, false]) rfl (by rfl) rfl (by kernel_rfl) ?_
      intro K hK
      refine wp_conv 43 rfl u8T s8 su _ rfl rfl hr10 ?_
      refine hK _ _ ?_
      clear hK K
      simp only [List.setIfInBounds_toArray, List.set_cons_zero, List.set_cons_succ]
      rotate_left
      intro K hK
      refine wp_conv 43 rfl u8T s8 su _ rfl rfl hr10 ?_
      refine hK _ _ ?_
      clear hK K
      simp only [List.setIfInBounds_toArray, List.set_cons_zero, List.set_cons_succ]
      refine reg_one 6 (m1 := #[true, true, true, true, true, true, true, true, true, true, true, true, true, true, false]) rfl (by rfl) rfl (by kernel_rfl) ?_
      intro K hK
      refine wp_conv 36 rfl u8T s8 su _ rfl rfl hr4 ?_
      refine hK _ _ ?_
      clear hK K
      simp only [List.setIfInBounds_toArray, List.set_cons_zero, List.set_cons_succ]
      rotate_left
      intro K hK
      refine wp_empty 37 rfl 5 _ (by go_simp) ?_
      replace hB := Below.more hB (.cells #[] 5)
      refine hK _ _ ?_
      clear hK K
      simp only [List.setIfInBounds_toArray, List.set_cons_zero, List.set_cons_succ]
      refine reg_one 2 (m1 := #[true, true, true, true, true, false, false, true, true, false, true, true, false, false, false]) rfl (by rfl) rfl (by kernel_rfl) ?_
      intro K hK
      refine wp_app_all 32 rfl u8T u8I (by decide) _ _ rfl _ w.heap.size _ [] rfl (Owns.empty _ _ _ _ _ _) _ _ _ l rfl (h.below hB) (by have := HL.out; simp; omega) hB.size ?_
      intro v2 w2 ho2 hg2
      replace hB := Below.call hB hg2.fromNone
      rw [List.nil_append] at ho2
      obtain ⟨a2, c2, rfl⟩ := ho2.shapeN n HL.out
      clear hg2
      refine hK _ _ ?_
      clear hK K
      simp only [List.setIfInBounds_toArray, List.set_cons_zero, List.set_cons_succ]
      refine reg_one 5 (m1 := #[true, true, true, true, true, true, false, true, true, false, true, true, false, false, false]) rfl (by rfl) rfl (by kernel_rfl) ?_
      intro K hK
      go_simp
      refine (put_any _ _ _ _ _ _ _ ho2.rd (by omega) u1 u2 m1 m2).mono ?_
      rintro e w4 ⟨r4, rfl, ho4, hb4⟩
      replace hB := Below.call hB hb4
      obtain ⟨a4, c4, rfl⟩ := ho4.shapeN m4 HM4.out.symm
      have hr4 := ho4.rd
      clear hb4 ho4 ho2
      refine hK _ _ ?_
      clear hK K
      refine reg_two 6 9 (m1 := #[true, true, true, true, true, true, true, true, true, false, true, true, false, false, false]) (m2 := #[true, true, true, true, true, true, false, true, true, true, true, true, false, false, false]) rfl (by rfl) rfl rfl (by rfl) rfl (by kernel_rfl) ?_ ?_
      intro K hK
      refine wp_conv 36 rfl u8T s8 su _ rfl rfl hr4 ?_
      refine hK _ _ ?_
      clear hK K
      simp only [List.setIfInBounds_toArray, List.set_cons_zero, List.set_cons_succ]
      refine reg_one 9 (m1 := #[true, true, true, true, true, true, true, true, true, true, true, true, false, false, false]) rfl (by rfl) rfl (by kernel_rfl) ?_
      intro K hK
      refine wp_app_all 39 rfl u8T u8I (by decide) _ _ rfl _ w.heap.size _ [] rfl (Owns.empty _ _ _ _ _ _) _ _ _ l rfl (h.below hB) (by have := HL.out; simp; omega) hB.size ?_
      intro v8 w8 ho8 hg8
      replace hB := Below.call hB hg8.fromNone
      rw [List.nil_append] at ho8
      clear hg8
      refine hK _ _ ?_
      clear hK K
      simp only [List.setIfInBounds_toArray, List.set_cons_zero, List.set_cons_succ]
      refine reg_one 12 (m1 := #[true, true, true, true, true, true, true, true, true, true, true, true, true, false, false]) rfl (by rfl) rfl (by kernel_rfl) ?_
      intro K hK
      go_simp
      refine (rput_any _ _ _ _ _ w.heap.size ho8 hB.size (by have := HL.out; omega) u1 u2 m1 m2).mono ?_
      rintro e w10 ⟨r10, rfl, ho10, hg10⟩
      replace hB := hB.trans (hg10.below hB.size (fun g hg => (ho8.at_base g hg).1))
      obtain ⟨a10, c10, rfl⟩ := ho10.shapeN m4 HM4.out.symm
      have hr10 := ho10.rd
      clear ho8 ho10 hg10
      refine hK _ _ ?_
      clear hK K
      refine reg_one 13 (m1 := #[true, true, true, true, true, true, true, true, true, true, true, true, true, true, false]) rfl (by rfl) rfl (by kernel_rfl) ?_
      intro K hK
      refine wp_conv 43 rfl u8T s8 su _ rfl rfl hr10 ?_
      refine hK _ _ ?_
      clear hK K
      simp only [List.setIfInBounds_toArray, List.set_cons_zero, List.set_cons_succ]
      rotate_left
      intro K hK
      refine wp_app_all 39 rfl u8T u8I (by decide) _ _ rfl _ w.heap.size _ [] rfl (Owns.empty _ _ _ _ _ _) _ _ _ l rfl (h.below hB) (by have := HL.out; simp; omega) hB.size ?_
      intro v8 w8 ho8 hg8
      replace hB := Below.call hB hg8.fromNone
      rw [List.nil_append] at ho8
      have hn8 := hg8.newRoom
      have h40 := hr4
      replace hr4 := hr4.below hg8.fromNone
      clear hg8
      refine hK _ _ ?_
      clear hK K
      simp only [List.setIfInBounds_toArray, List.set_cons_zero, List.set_cons_succ]
      refine reg_two 6 12 (m1 := #[true, true, true, true, true, true, true, true, true, true, true, true, false, false, false]) (m2 := #[true, true, true, true, true, true, false, true, true, true, true, true, true, false, false]) rfl (by rfl) rfl rfl (by rfl) rfl (by kernel_rfl) ?_ ?_
      intro K hK
      refine wp_conv 36 rfl u8T s8 su _ rfl rfl hr4 ?_
      refine hK _ _ ?_
      clear hK K
      simp only [List.setIfInBounds_toArray, List.set_cons_zero, List.set_cons_succ]
      refine reg_one 12 (m1 := #[true, true, true, true, true, true, true, true, true, true, true, true, true, false, false]) rfl (by rfl) rfl (by kernel_rfl) ?_
      intro K hK
      go_simp
      refine (rput_any _ _ _ _ _ w.heap.size ho8 hB.size (by have := HL.out; omega) u1 u2 m1 m2).mono ?_
      rintro e w10 ⟨r10, rfl, ho10, hg10⟩
      replace hB := hB.trans (hg10.below hB.size (fun g hg => (ho8.at_base g hg).1))
      obtain ⟨a10, c10, rfl⟩ := ho10.shapeN m4 HM4.out.symm
      have hr10 := ho10.rd
      clear ho8 ho10 hg10
      refine hK _ _ ?_
      clear hK K
      refine reg_one 13 (m1 := #[true, true, true, true, true, true, true, true, true, true, true, true, true, true, false]) rfl (by rfl) rfl (by kernel_rfl) ?_
      intro K hK
      refine wp_conv 43 rfl u8T s8 su _ rfl rfl hr10 ?_
      refine hK _ _ ?_
      clear hK K
      simp only [List.setIfInBounds_toArray, List.set_cons_zero, List.set_cons_succ]
      rotate_left
      intro K hK
      go_simp
      refine (rput_any _ _ _ _ _ w.heap.size ho8 hB.size (by have := HL.out; omega) u1 u2 m1 m2).mono ?_
      rintro e w10 ⟨r10, rfl, ho10, hg10⟩
      replace hB := hB.trans (hg10.below hB.size (fun g hg => (ho8.at_base g hg).1))
      obtain ⟨a10, c10, rfl⟩ := ho10.shapeN m4 HM4.out.symm
      have hr10 := ho10.rd
      replace hr4 := h40.apart hr4 hg10.1 hn8
      clear ho8 ho10 hg10
      refine hK _ _ ?_
      clear hK K
      refine reg_two 6 13 (m1 := #[true, true, true, true, true, true, true, true, true, true, true, true, true, false, false]) (m2 := #[true, true, true, true, true, true, false, true, true, true, true, true, true, true, false]) rfl (by rfl) rfl rfl (by rfl) rfl (by kernel_rfl) ?_ ?_
      intro K hK
      refine wp_conv 36 rfl u8T s8 su _ rfl rfl hr4 ?_
      refine hK _ _ ?_
      clear hK K
      simp only [List.setIfInBounds_toArray, List.set_cons_zero, List.set_cons_succ]
      refine reg_one 13 (m1 := #[true, true, true, true, true, true, true, true, true, true, true, true, true, true, false]) rfl (by rfl) rfl (by kernel_rfl) ?_
      intro K hK
      refine wp_conv 43 rfl u8T s8 su _ rfl rfl hr10 ?_
      refine hK _ _ ?_
      clear hK K
      simp only [List.setIfInBounds_toArray, List.set_cons_zero, List.set_cons_succ]
      rotate_left
      intro K hK
      refine wp_conv 43 rfl u8T s8 su _ rfl rfl hr10 ?_
      refine hK _ _ ?_
      clear hK K
      simp only [List.setIfInBounds_toArray, List.set_cons_zero, List.set_cons_succ]
      refine reg_one 6 (m1 := #[true, true, true, true, true, true, true, true, true, true, true, true, true, true, false]) rfl (by rfl) rfl (by kernel_rfl) ?_
      intro K hK
      refine wp_conv 36 rfl u8T s8 su _ rfl rfl hr4 ?_
      refine hK _ _ ?_
      clear hK K
      simp only [List.setIfInBounds_toArray, List.set_cons_zero, List.set_cons_succ]
      rotate_left
      intro K hK
      refine wp_empty 37 rfl 5 _ (by go_simp) ?_
      replace hB := Below.more hB (.cells #[] 5)
      refine hK _ _ ?_
      clear hK K
      simp only [List.setIfInBounds_toArray, List.set_cons_zero, List.set_cons_succ]
      refine reg_one 0 (m1 := #[true, true, false, true, true, false, false, true, true, false, true, true, false, false, false]) rfl (by rfl) rfl (by kernel_rfl) ?_
      intro K hK
      refine wp_empty 30 rfl 5 _ (by go_simp) ?_
      replace hB := Below.more hB (.cells #[] 5)
      refine hK _ _ ?_
      clear hK K
      simp only [List.setIfInBounds_toArray, List.set_cons_zero, List.set_cons_succ]
      refine reg_one 2 (m1 := #[true, true, true, true, true, false, false, true, true, false, true, true, false, false, false]) rfl (by rfl) rfl (by kernel_rfl) ?_
      intro K hK
      refine wp_app_all 32 rfl u8T u8I (by decide) _ _ rfl _ w.heap.size _ [] rfl (Owns.empty _ _ _ _ _ _) _ _ _ l rfl (h.below hB) (by have := HL.out; simp; omega) hB.size ?_
      intro v2 w2 ho2 hg2
      replace hB := Below.call hB hg2.fromNone
      rw [List.nil_append] at ho2
      obtain ⟨a2, c2, rfl⟩ := ho2.shapeN n HL.out
      clear hg2
      refine hK _ _ ?_
      clear hK K
      simp only [List.setIfInBounds_toArray, List.set_cons_zero, List.set_cons_succ]
      refine reg_one 5 (m1 := #[true, true, true, true, true, true, false, true, true, false, true, true, false, false, false]) rfl (by rfl) rfl (by kernel_rfl) ?_
      intro K hK
      go_simp
      refine (put_any _ _ _ _ _ _ _ ho2.rd (by omega) u1 u2 m1 m2).mono ?_
      rintro e w4 ⟨r4, rfl, ho4, hb4⟩
      replace hB := Below.call hB hb4
      obtain ⟨a4, c4, rfl⟩ := ho4.shapeN m4 HM4.out.symm
      have hr4 := ho4.rd
      clear hb4 ho4 ho2
      refine hK _ _ ?_
      clear hK K
      refine reg_two 6 9 (m1 := #[true, true, true, true, true, true, true, true, true, false, true, true, false, false, false]) (m2 := #[true, true, true, true, true, true, false, true, true, true, true, true, false, false, false]) rfl (by rfl) rfl rfl (by rfl) rfl (by kernel_rfl) ?_ ?_
      intro K hK
      refine wp_conv 36 rfl u8T s8 su _ rfl rfl hr4 ?_
      refine hK _ _ ?_
      clear hK K
      simp only [List.setIfInBounds_toArray, List.set_cons_zero, List.set_cons_succ]
      refine reg_one 9 (m1 := #[true, true, true, true, true, true, true, true, true, true, true, true, false, false, false]) rfl (by rfl) rfl (by kernel_rfl) ?_
      intro K hK
      refine wp_app_all 39 rfl u8T u8I (by decide) _ _ rfl _ w.heap.size _ [] rfl (Owns.empty _ _ _ _ _ _) _ _ _ l rfl (h.below hB) (by have := HL.out; simp; omega) hB.size ?_
      intro v8 w8 ho8 hg8
      replace hB := Below.call hB hg8.fromNone
      rw [List.nil_append] at ho8
      clear hg8
      refine hK _ _ ?_
      clear hK K
      simp only [List.setIfInBounds_toArray, List.set_cons_zero, List.set_cons_succ]
      refine reg_one 12 (m1 := #[true, true, true, true, true, true, true, true, true, true, true, true, true, false, false]) rfl (by rfl) rfl (by kernel_rfl) ?_
      intro K hK
      go_simp
      refine (rput_any _ _ _ _ _ w.heap.size ho8 hB.size (by have := HL.out; omega) u1 u2 m1 m2).mono ?_
      rintro e w10 ⟨r10, rfl, ho10, hg10⟩
      replace hB := hB.trans (hg10.below hB.size (fun g hg => (ho8.at_base g hg).1))
      obtain ⟨a10, c10, rfl⟩ := ho10.shapeN m4 HM4.out.symm
      have hr10 := ho10.rd
      clear ho8 ho10 hg10
      refine hK _ _ ?_
      clear hK K
      refine reg_one 13 (m1 := #[true, true, true, true, true, true, true, true, true, true, true, true, true, true, false]) rfl (by rfl) rfl (by kernel_rfl) ?_
      intro K hK
      refine wp_conv 43 rfl u8T s8 su _ rfl rfl hr10 ?_
      refine hK _ _ ?_
      clear hK K
      simp only [List.setIfInBounds_toArray, List.set_cons_zero, List.set_cons_succ]
      rotate_left
      intro K hK
      refine wp_app_all 39 rfl u8T u8I (by decide) _ _ rfl _ w.heap.size _ [] rfl (Owns.empty _ _ _ _ _ _) _ _ _ l rfl (h.below hB) (by have := HL.out; simp; omega) hB.size ?_
      intro v8 w8 ho8 hg8
      replace hB := Below.call hB hg8.fromNone
      rw [List.nil_append] at ho8
      have hn8 := hg8.newRoom
      have h40 := hr4
      replace hr4 := hr4.below hg8.fromNone
      clear hg8
      refine hK _ _ ?_
      clear hK K
      simp only [List.setIfInBounds_toArray, List.set_cons_zero, List.set_cons_succ]
      refine reg_two 6 12 (m1 := #[true, true, true, true, true, true, true, true, true, true, true, true, false, false, false]) (m2 := #[true, true, true, true, true, true, false, true, true, true, true, true, true, false, false]) rfl (by rfl) rfl rfl (by rfl) rfl (by kernel_rfl) ?_ ?_
      intro K hK
      refine wp_conv 36 rfl u8T s8 su _ rfl rfl hr4 ?_
      refine hK _ _ ?_
      clear hK K
      simp only [List.setIfInBounds_toArray, List.set_cons_zero, List.set_cons_succ]
      refine reg_one 12 (m1 := #[true, true, true, true, true, true, true, true, true, true, true, true, true, false, false]) rfl (by rfl) rfl (by kernel_rfl) ?_
      intro K hK
      go_simp
      refine (rput_any _ _ _ _ _ w.heap.size ho8 hB.size (by have := HL.out; omega) u1 u2 m1 m2).mono ?_
      rintro e w10 ⟨r10, rfl, ho10, hg10⟩
      replace hB := hB.trans (hg10.below hB.size (fun g hg => (ho8.at_base g hg).1))
      obtain ⟨a10, c10, rfl⟩ := ho10.shapeN m4 HM4.out.symm
      have hr10 := ho10.rd
      clear ho8 ho10 hg10
      refine hK _ _ ?_
      clear hK K
      refine reg_one 13 (m1 := #[true, true, true, true, true, true, true, true, true, true, true, true, true, true, false]) rfl (by rfl) rfl (by kernel_rfl) ?_
      intro K hK
      refine wp_conv 43 rfl u8T s8 su _ rfl rfl hr10 ?_
      refine hK _ _ ?_
      clear hK K
      simp only [List.setIfInBounds_toArray, List.set_cons_zero, List.set_cons_succ]
      rotate_left
      intro K hK
      go_simp
      refine (rput_any _ _ _ _ _ w.heap.size ho8 hB.size (by have := HL.out; omega) u1 u2 m1 m2).mono ?_
      rintro e w10 ⟨r10, rfl, ho10, hg10⟩
      replace hB := hB.trans (hg10.below hB.size (fun g hg => (ho8.at_base g hg).1))
      obtain ⟨a10, c10, rfl⟩ := ho10.shapeN m4 HM4.out.symm
      have hr10 := ho10.rd
      replace hr4 := h40.apart hr4 hg10.1 hn8
      clear ho8 ho10 hg10
      refine hK _ _ ?_
      clear hK K
      refine reg_two 6 13 (m1 := #[true, true, true, true, true, true, true, true, true, true, true, true, true, false, false]) (m2 := #[true, true, true, true, true, true, false, true, true, true, true, true, true, true, false]) rfl (by rfl) rfl rfl (by rfl) rfl (by kernel_rfl) ?_ ?_
      intro K hK
      refine wp_conv 36 rfl u8T s8 su _ rfl rfl hr4 ?_
      refine hK _ _ ?_
      clear hK K
      simp only [List.setIfInBounds_toArray, List.set_cons_zero, List.set_cons_succ]
      refine reg_one 13 (m1 := #[true, true, true, true, true, true, true, true, true, true, true, true, true, true, false]) rfl (by rfl) rfl (by kernel_rfl) ?_
      intro K hK
      refine wp_conv 43 rfl u8T s8 su _ rfl rfl hr10 ?_
      refine hK _ _ ?_
      clear hK K
      simp only [List.setIfInBounds_toArray, List.set_cons_zero, List.set_cons_succ]
      rotate_left
      intro K hK
      refine wp_conv 43 rfl u8T s8 su _ rfl rfl hr10 ?_
      refine hK _ _ ?_
      clear hK K
      simp only [List.setIfInBounds_toArray, List.set_cons_zero, List.set_cons_succ]
      refine reg_one 6 (m1 := #[true, true, true, true, true, true, true, true, true, true, true, true, true, true, false]) rfl (by rfl) rfl (by kernel_rfl) ?_
      intro K hK
      refine wp_conv 36 rfl u8T s8 su _ rfl rfl hr4 ?_
      refine hK _ _ ?_
      clear hK K
      simp only [List.setIfInBounds_toArray, List.set_cons_zero, List.set_cons_succ]
      rotate_left
      all_goals
        refine reg_take 14 (d := 44) (v := ?_) (listed' := #[true, true, true, true, true, true, true, true, true, true, true, true, true, true, true]) rfl rfl (by rfl) (by kernel_rfl) (by kernel_rfl) (by kernel_rfl) (fun _ _ _ h => h) (by rfl) ?_ ?_
        rotate_left
        · (intro w; go_simp; try with_reducible rfl)
        simp only [List.setIfInBounds_toArray, List.set_cons_zero, List.set_cons_succ]
        refine reg_done (by kernel_rfl) ?_
      all_goals
        go_wp2_with fail
        go_meet
        case rel => exact ⟨rfl, hB⟩
    case rest =>
      obtain ⟨rfl, hB⟩ := hcut
      go_wp2_with (first | (go_at_call 33; refine (get_any _ _ _ _ _ _ (h.below hB)).mono ?_; rintro e w' ⟨rfl, rfl⟩) | (go_at_call 34; refine (rget_any _ _ _ _ _ _ (h.below hB)).mono ?_; rintro e w' ⟨rfl, rfl⟩) | (go_at_call 12; refine (up_any _ _ _ v2 t2).mono ?_; rintro e w' ⟨rfl, rfl⟩) | (go_at_call 35; refine (rup_any _ _ _ v2 t2).mono ?_; rintro e w' ⟨rfl, rfl⟩) | (go_at_call 11; refine (field_any _ _ _ _ _ _ _ (h.below hB) (by omega) p1 p2 m1 m2).mono ?_; rintro e w' ⟨rfl, rfl⟩) | (go_at_call 36; refine (rfield_any _ _ _ _ _ _ _ (h.below hB) (by omega) p1 p2 m1 m2).mono ?_; rintro e w' ⟨rfl, rfl⟩))
      go_ret
      exact ⟨rfl, hB⟩
  · go_enter Try.func8, Try.ntmps8
    go_wp2_with (go_at_call 10; refine (known1 _).mono ?_; rintro e w1 ⟨rfl, hb⟩)
    go_ret
    exact ⟨rfl, hb⟩
end Go.Proofs.Ytpaddiggieklfaa
