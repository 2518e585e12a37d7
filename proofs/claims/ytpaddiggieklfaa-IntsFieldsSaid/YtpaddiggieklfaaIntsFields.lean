/- The walk of almanaclaw1.IntsFields: it answers true at every bytes and numbers. -/
import Derived.Test.YtpaddiggieklfaaKnown1
namespace Go.Proofs.Ytpaddiggieklfaa
open Go.RowKit

theorem fieldK_join (l : List Int) (p n m : Nat) (h : n + m ≤ 64) : bits BinOp.or IntKind.u64 (fieldK l p n) (IntKind.u64.wrap (fieldK l (p + n) m * 2 ^ n)) = fieldK l p (n + m) := by
  have h1 := fieldK_bd l p n
  have h2 := fieldK_bd l (p + n) m
  have h3 := fieldK_bd l p (n + m)
  rw [fieldK_split] at h3 ⊢
  have hp := pow_le_of h
  have hp1 : (1 : Int) ≤ 2 ^ n := by exact_mod_cast Nat.one_le_two_pow
  have h4 : 0 ≤ fieldK l (p + n) m * 2 ^ n := Int.mul_nonneg h2.1 (by omega)
  have hpn := pow_le_of (show n ≤ 64 by omega)
  have e : bits .or .u64 (fieldK l p n) (fieldK l (p + n) m * 2 ^ n) = bits .or .u64 (fieldK l (p + n) m * 2 ^ n) (fieldK l p n) := by
    unfold bits; simp only; rw [BitVec.or_comm]
  rw [IntWalk.u64_in _ (by omega), e, u64_join _ _ n h4 (by omega) h1.1 (by omega) (by simp) h1.2]
  omega

set_option maxHeartbeats 1000000 in
theorem intsFields_walk (a : Option Addr) (n c : Nat) (l : List Int) (p m k : Int) (w : World) (h : RdAt .u8 w a n c l) (w1 : (Lit.int .i64 p).wf = true) (w2 : (Lit.int .i64 m).wf = true) (w3 : (Lit.int .i64 k).wf = true) :
    Calls Try.prog 3 #[.slice a n c, .int .i64 p, .int .i64 m, .int .i64 k] w fun e w' => e = .returned (.bool true) ∧ Below w.heap.size w w' := by
  have hp := wf_i64_bd w1
  have hm := wf_i64_bd w2
  have hk := wf_i64_bd w3
  obtain ⟨p1, p2⟩ := hp
  obtain ⟨m1, m2⟩ := hm
  obtain ⟨k1, k2⟩ := hk
  have hcap := h.cap
  have hmax := h.max
  unfold maxLen at hmax
  have key : (2000 < n) ∨ (n ≤ 2000 ∧ p < 0) ∨ (n ≤ 2000 ∧ 0 ≤ p ∧ 16000 < p) ∨ (n ≤ 2000 ∧ 0 ≤ p ∧ p ≤ 16000 ∧ m < 0) ∨ (n ≤ 2000 ∧ 0 ≤ p ∧ p ≤ 16000 ∧ 0 ≤ m ∧ k < 0) ∨ (n ≤ 2000 ∧ 0 ≤ p ∧ p ≤ 16000 ∧ 0 ≤ m ∧ 0 ≤ k ∧ 64 < m) ∨ (n ≤ 2000 ∧ 0 ≤ p ∧ p ≤ 16000 ∧ 0 ≤ m ∧ 0 ≤ k ∧ m ≤ 64 ∧ 64 - m < k) ∨ (n ≤ 2000 ∧ 0 ≤ p ∧ p ≤ 16000 ∧ 0 ≤ m ∧ 0 ≤ k ∧ m ≤ 64 ∧ k ≤ 64 - m) := by omega
  rcases key with c1 | ⟨c1, c2⟩ | ⟨c1, c2, c3⟩ | ⟨c1, c2, c3, c4⟩ | ⟨c1, c2, c3, c4, c5⟩ | ⟨c1, c2, c3, c4, c5, c6⟩ | ⟨c1, c2, c3, c4, c5, c6, c7⟩ | ⟨c1, c2, c3, c4, c5, c6, c7⟩
  case inr.inr.inr.inr.inr.inr.inr =>
    obtain ⟨p, rfl⟩ := Int.eq_ofNat_of_zero_le c2
    obtain ⟨m, rfl⟩ := Int.eq_ofNat_of_zero_le c4
    obtain ⟨k, rfl⟩ := Int.eq_ofNat_of_zero_le c5
    have f1 : fieldOk n p m = decide ((p : Int) ≤ 8 * n - m) := by unfold fieldOk; rw [decide_eq_decide]; omega
    have f2 : fieldOk n ((p : Int) + m) k = decide ((p : Int) + m ≤ 8 * n - k) := by unfold fieldOk; rw [decide_eq_decide]; omega
    have f3 : fieldOk n p ((m : Int) + k) = decide ((p : Int) ≤ 8 * n - (m + k)) := by unfold fieldOk; rw [decide_eq_decide]; omega
    by_cases g : (p : Int) ≤ 8 * n - (m + k)
    · have F1 : fieldOk n p m = true := by rw [f1]; simp; omega
      have F2 : fieldOk n ((p : Int) + m) k = true := by rw [f2]; simp; omega
      have F3 : fieldOk n p ((m : Int) + k) = true := by rw [f3]; simp; omega
      have V1 : fieldV l n p m = fieldK l p m := fieldV_yes F1
      have V2 : fieldV l n ((p : Int) + m) k = fieldK l (p + m) k := by rw [show (p : Int) + m = ((p + m : Nat) : Int) from rfl] at F2 ⊢; exact fieldV_yes F2
      have V3 : fieldV l n p ((m : Int) + k) = fieldK l p (m + k) := by rw [show (m : Int) + k = ((m + k : Nat) : Int) from rfl] at F3 ⊢; exact fieldV_yes F3
      have hj := fieldK_join l p m k (by omega)
      clear f1 f2 f3 g
      go_enter Try.func3, Try.ntmps3
      go_wp2_with (first | (go_at_call 10; refine (known1 _).mono ?_; rintro e w1 ⟨rfl, hb⟩) | (go_at_call 11; refine (field_any _ _ _ _ _ _ _ (h.below hb) (by omega) (by omega) (by omega) (by omega) (by omega)).mono ?_; rintro e w' ⟨rfl, rfl⟩))
      go_ret
      exact ⟨rfl, hb⟩
    · have F3 : fieldOk n p ((m : Int) + k) = false := by rw [f3]; simp; omega
      by_cases g1 : (p : Int) ≤ 8 * n - m
      · have F1 : fieldOk n p m = true := by rw [f1]; simp; omega
        have F2 : fieldOk n ((p : Int) + m) k = false := by rw [f2]; simp; omega
        clear f1 f2 f3 g
        go_enter Try.func3, Try.ntmps3
        go_wp2_with (first | (go_at_call 10; refine (known1 _).mono ?_; rintro e w1 ⟨rfl, hb⟩) | (go_at_call 11; refine (field_any _ _ _ _ _ _ _ (h.below hb) (by omega) (by omega) (by omega) (by omega) (by omega)).mono ?_; rintro e w' ⟨rfl, rfl⟩))
        go_ret
        exact ⟨rfl, hb⟩
      · have F1 : fieldOk n p m = false := by rw [f1]; simp; omega
        clear f1 f2 f3 g
        go_enter Try.func3, Try.ntmps3
        go_wp2_with (first | (go_at_call 10; refine (known1 _).mono ?_; rintro e w1 ⟨rfl, hb⟩) | (go_at_call 11; refine (field_any _ _ _ _ _ _ _ (h.below hb) (by omega) (by omega) (by omega) (by omega) (by omega)).mono ?_; rintro e w' ⟨rfl, rfl⟩))
        go_ret
        exact ⟨rfl, hb⟩
  all_goals
    go_enter Try.func3, Try.ntmps3
    go_wp2_with (go_at_call 10; refine (known1 _).mono ?_; rintro e w1 ⟨rfl, hb⟩)
    go_ret
    exact ⟨rfl, hb⟩
end Go.Proofs.Ytpaddiggieklfaa
