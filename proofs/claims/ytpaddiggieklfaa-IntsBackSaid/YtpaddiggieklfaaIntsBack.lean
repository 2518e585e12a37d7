/- The walk of almanaclaw1.IntsBack: it answers true at every numbers and bytes. -/
import Derived.Test.YtpaddiggieklfaaKnown1
import Derived.Test.YtpaddiggieklfaaBackLaw
namespace Go.Proofs.Ytpaddiggieklfaa
open Go.RowKit

theorem back_get (u : Int) (n : Nat) (hn : n ≤ 8) (h0 : 0 ≤ u) : getV (putL u n) n n = u % 2 ^ (8 * n) ∧ getOk n n = true := by
  have hok : getOk n n = true := by unfold getOk; simp; omega
  exact ⟨by rw [getV_yes hok]; exact getK_putL u n h0 n (Nat.le_refl _), hok⟩
theorem back_field (u : Int) (n : Nat) (hn : n ≤ 8) (h0 : 0 ≤ u) : fieldV (putL u n) n 0 (8 * (n : Int)) = u % 2 ^ (8 * n) ∧ fieldOk n 0 (8 * (n : Int)) = true := by
  have hok : fieldOk n 0 (8 * (n : Int)) = true := by unfold fieldOk; rw [decide_eq_true_eq]; omega
  refine ⟨?_, hok⟩
  have e1 : (8 * (n : Int)) = ((8 * n : Nat) : Int) := by simp
  have e0 : (0 : Int) = ((0 : Nat) : Int) := rfl
  rw [e1] at hok ⊢
  rw [e0] at hok ⊢
  rw [fieldV_yes hok, field_get _ _ (fun i hi => putL_byte u n i hi)]
  exact getK_putL u n h0 n (Nat.le_refl _)
theorem back_mask (u : Int) (n : Nat) (hn : n < 8) (h0 : 0 ≤ u) (h1 : u ≤ 18446744073709551615) : bits .and .u64 u (IntKind.u64.wrap (IntKind.u64.wrap (2 ^ (8 * n)) - 1)) = u % 2 ^ (8 * n) := by
  have hp := pow_le_of (show 8 * n ≤ 56 by omega)
  have hp1 : (1 : Int) ≤ 2 ^ (8 * n) := by exact_mod_cast Nat.one_le_two_pow
  rw [IntWalk.u64_in (2 ^ (8 * n)) (by omega), IntWalk.u64_in _ (by omega)]
  exact u64_and_mask u (8 * n) (by omega) h0 h1

set_option maxRecDepth 100000 in
set_option maxHeartbeats 2000000 in
theorem intsBack_walk (v u n : Int) (a : Option Addr) (nm c : Nat) (l : List Int) (w : World) (w0 : (Lit.int .i64 v).wf = true) (w1 : (Lit.int .u64 u).wf = true) (w2 : (Lit.int .i64 n).wf = true) (h : RdAt .u8 w a nm c l) :
    Calls Try.prog 9 #[.int .i64 v, .int .u64 u, .int .i64 n, .slice a nm c] w fun e w' => e = .returned (.bool true) ∧ Below w.heap.size w w' := by
  obtain ⟨v1, v2⟩ := wf_i64_bd w0
  obtain ⟨u1, u2⟩ := wf_u64_bd w1
  obtain ⟨n1, n2⟩ := wf_i64_bd w2
  have hcap := h.cap
  have hmax := h.max
  have HL := Lib.hid h.len
  unfold maxLen at hmax
  clear w0 w1 w2
  have e1 := zag_zig v
  have e2 := zig_zag u u1
  have e3 := turn_turn u u1 u2
  obtain ⟨b1, b2⟩ := zigI_bd v v1 v2
  obtain ⟨b3, b4⟩ := zagI_bd u u1 u2
  obtain ⟨b5, b6⟩ := turnK_bd u 8
  have b7 : turnK u 8 ≤ 18446744073709551615 := by omega
  clear b6
  obtain ⟨N, hN⟩ : ∃ N, N = (varF 9 u ++ l).length := ⟨_, rfl⟩
  obtain ⟨r1, r2, r3⟩ := readvar_var u u1 u2 l N hN
  have HV := (varF_len 9 u)
  have hlen := h.len
  have hN2 : (N : Int) - nm = (varF 9 u).length := by rw [hN, List.length_append, hlen]; omega
  have hN3 : N ≤ nm + 10 := by rw [hN, List.length_append, hlen]; omega
  have HN := Lib.hid hN
  have HVV := Lib.hid HV
  clear hlen hN HV
  by_cases c1 : 2000 < nm
  · go_enter Try.func9, Try.ntmps9
    go_wp2_with (go_at_call 10; refine (known1 _).mono ?_; rintro e w1 ⟨rfl, hb⟩)
    go_ret
    exact ⟨rfl, hb⟩
  by_cases k1 : n < 0
  · skip
    go_enter Try.func9, Try.ntmps9
    go_wp2_with (first | (go_at_call 10; refine (known1 _).mono ?_; rintro e w1 ⟨rfl, hb⟩) | (go_at_call 19; refine (zig_any _ _ (by omega) (by omega)).mono ?_; rintro e w' ⟨rfl, rfl⟩) | (go_at_call 21; refine (zag_any _ _ (by omega) (by omega)).mono ?_; rintro e w' ⟨rfl, rfl⟩) | (go_at_call 25; refine (turn_any _ _ (by omega) (by omega)).mono ?_; rintro e w' ⟨rfl, rfl⟩) | (go_at_call 29; refine (var_any _ _ _ _ _ _ (RdAt.nil _ _) (by omega) u1 u2).mono ?_; rintro e w4 ⟨r4, rfl, ho4, hb4⟩; rw [List.nil_append] at ho4) | (at_builtin; (refine app_all u8T u8I (by decide) rfl _ _ rfl _ w1.heap.size r4 (varF 9 u) rfl ho4 _ _ _ l rfl ((h.below hb).below hb4) (by have := HVV.out; omega) hb4.size ?_); intro v5 w5 ho5 hg5; have hb5 := hb.trans ((hb4.mono hb.size).trans ((hg5.below hb4.size (fun g hg => (ho4.at_base g hg).1)).mono hb.size)); obtain ⟨a5, c5, rfl⟩ := ho5.shapeN N HN.out.symm) | (go_at_call 27; refine (readvar_any _ _ _ _ _ ho5.rd).mono ?_; rintro e w' ⟨rfl, rfl⟩))
    go_ret
    exact ⟨rfl, hb5⟩
  by_cases k2 : 8 < n
  · skip
    go_enter Try.func9, Try.ntmps9
    go_wp2_with (first | (go_at_call 10; refine (known1 _).mono ?_; rintro e w1 ⟨rfl, hb⟩) | (go_at_call 19; refine (zig_any _ _ (by omega) (by omega)).mono ?_; rintro e w' ⟨rfl, rfl⟩) | (go_at_call 21; refine (zag_any _ _ (by omega) (by omega)).mono ?_; rintro e w' ⟨rfl, rfl⟩) | (go_at_call 25; refine (turn_any _ _ (by omega) (by omega)).mono ?_; rintro e w' ⟨rfl, rfl⟩) | (go_at_call 29; refine (var_any _ _ _ _ _ _ (RdAt.nil _ _) (by omega) u1 u2).mono ?_; rintro e w4 ⟨r4, rfl, ho4, hb4⟩; rw [List.nil_append] at ho4) | (at_builtin; (refine app_all u8T u8I (by decide) rfl _ _ rfl _ w1.heap.size r4 (varF 9 u) rfl ho4 _ _ _ l rfl ((h.below hb).below hb4) (by have := HVV.out; omega) hb4.size ?_); intro v5 w5 ho5 hg5; have hb5 := hb.trans ((hb4.mono hb.size).trans ((hg5.below hb4.size (fun g hg => (ho4.at_base g hg).1)).mono hb.size)); obtain ⟨a5, c5, rfl⟩ := ho5.shapeN N HN.out.symm) | (go_at_call 27; refine (readvar_any _ _ _ _ _ ho5.rd).mono ?_; rintro e w' ⟨rfl, rfl⟩))
    go_ret
    exact ⟨rfl, hb5⟩
  obtain ⟨n, rfl⟩ := Int.eq_ofNat_of_zero_le (show 0 ≤ n by omega)
  have HP := Lib.hid (show putN n = n by unfold putN; omega)
  obtain ⟨g1, g2⟩ := back_get u n (by omega) u1
  obtain ⟨g3, g4⟩ := back_field u n (by omega) u1
  by_cases k3 : n < 8
  · have hm := back_mask u n k3 u1 u2
    have k4 : ((n : Int) == 8) = false := by simp; omega
    go_enter Try.func9, Try.ntmps9
    go_wp2_with (first | (go_at_call 10; refine (known1 _).mono ?_; rintro e w1 ⟨rfl, hb⟩) | (go_at_call 19; refine (zig_any _ _ (by omega) (by omega)).mono ?_; rintro e w' ⟨rfl, rfl⟩) | (go_at_call 21; refine (zag_any _ _ (by omega) (by omega)).mono ?_; rintro e w' ⟨rfl, rfl⟩) | (go_at_call 25; refine (turn_any _ _ (by omega) (by omega)).mono ?_; rintro e w' ⟨rfl, rfl⟩) | (go_at_call 29; refine (var_any _ _ _ _ _ _ (RdAt.nil _ _) (by omega) u1 u2).mono ?_; rintro e w4 ⟨r4, rfl, ho4, hb4⟩; rw [List.nil_append] at ho4) | (at_builtin; (refine app_all u8T u8I (by decide) rfl _ _ rfl _ w1.heap.size r4 (varF 9 u) rfl ho4 _ _ _ l rfl ((h.below hb).below hb4) (by have := HVV.out; omega) hb4.size ?_); intro v5 w5 ho5 hg5; have hb5 := hb.trans ((hb4.mono hb.size).trans ((hg5.below hb4.size (fun g hg => (ho4.at_base g hg).1)).mono hb.size)); obtain ⟨a5, c5, rfl⟩ := ho5.shapeN N HN.out.symm) | (go_at_call 27; refine (readvar_any _ _ _ _ _ ho5.rd).mono ?_; rintro e w' ⟨rfl, rfl⟩) | (go_at_call 31; refine (put_any _ _ _ _ _ _ _ (RdAt.nil _ _) (by omega) u1 u2 (by omega) (by omega)).mono ?_; rintro e w6 ⟨r6, rfl, ho6, hb6⟩; rw [List.nil_append, HP.out] at ho6; have hb7 := Below.call hb5 hb6; obtain ⟨a6, c6, rfl⟩ := ho6.shapeN n (putL_len u n)) | (go_at_call 33; refine (get_any _ _ _ _ _ _ ho6.rd).mono ?_; rintro e w' ⟨rfl, rfl⟩) | (go_at_call 11; refine (field_any _ _ _ _ _ _ _ ho6.rd (by omega) (by omega) (by omega) (by omega) (by omega)).mono ?_; rintro e w' ⟨rfl, rfl⟩))
    go_ret
    exact ⟨rfl, hb7⟩
  · have k4 : ((n : Int) == 8) = true := by simp; omega
    have hu : u % 2 ^ (8 * n) = u := by rw [show n = 8 by omega]; omega
    rw [hu] at g1 g3
    clear hu
    go_enter Try.func9, Try.ntmps9
    go_wp2_with (first | (go_at_call 10; refine (known1 _).mono ?_; rintro e w1 ⟨rfl, hb⟩) | (go_at_call 19; refine (zig_any _ _ (by omega) (by omega)).mono ?_; rintro e w' ⟨rfl, rfl⟩) | (go_at_call 21; refine (zag_any _ _ (by omega) (by omega)).mono ?_; rintro e w' ⟨rfl, rfl⟩) | (go_at_call 25; refine (turn_any _ _ (by omega) (by omega)).mono ?_; rintro e w' ⟨rfl, rfl⟩) | (go_at_call 29; refine (var_any _ _ _ _ _ _ (RdAt.nil _ _) (by omega) u1 u2).mono ?_; rintro e w4 ⟨r4, rfl, ho4, hb4⟩; rw [List.nil_append] at ho4) | (at_builtin; (refine app_all u8T u8I (by decide) rfl _ _ rfl _ w1.heap.size r4 (varF 9 u) rfl ho4 _ _ _ l rfl ((h.below hb).below hb4) (by have := HVV.out; omega) hb4.size ?_); intro v5 w5 ho5 hg5; have hb5 := hb.trans ((hb4.mono hb.size).trans ((hg5.below hb4.size (fun g hg => (ho4.at_base g hg).1)).mono hb.size)); obtain ⟨a5, c5, rfl⟩ := ho5.shapeN N HN.out.symm) | (go_at_call 27; refine (readvar_any _ _ _ _ _ ho5.rd).mono ?_; rintro e w' ⟨rfl, rfl⟩) | (go_at_call 31; refine (put_any _ _ _ _ _ _ _ (RdAt.nil _ _) (by omega) u1 u2 (by omega) (by omega)).mono ?_; rintro e w6 ⟨r6, rfl, ho6, hb6⟩; rw [List.nil_append, HP.out] at ho6; have hb7 := Below.call hb5 hb6; obtain ⟨a6, c6, rfl⟩ := ho6.shapeN n (putL_len u n)) | (go_at_call 33; refine (get_any _ _ _ _ _ _ ho6.rd).mono ?_; rintro e w' ⟨rfl, rfl⟩) | (go_at_call 11; refine (field_any _ _ _ _ _ _ _ ho6.rd (by omega) (by omega) (by omega) (by omega) (by omega)).mono ?_; rintro e w' ⟨rfl, rfl⟩))
    go_ret
    exact ⟨rfl, hb7⟩
end Go.Proofs.Ytpaddiggieklfaa
