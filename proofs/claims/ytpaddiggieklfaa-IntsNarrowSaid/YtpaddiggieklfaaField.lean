/- Contracts of ints.Field, ints.Get and of the references'. -/
import Derived.Test.YtpaddiggieklfaaProg
import Derived.Test.YtpaddiggieklfaaFieldLaw
import Derived.ProofKit
namespace Go.Proofs.Ytpaddiggieklfaa
open Go.RowKit

def fieldOk (n : Nat) (p m : Int) : Bool := decide (0 ≤ m ∧ m ≤ 64 ∧ 0 ≤ p ∧ p ≤ 8 * n - m)
def fieldV (l : List Int) (n : Nat) (p m : Int) : Int := if fieldOk n p m then fieldK l p.toNat m.toNat else 0
theorem fieldV_no {l : List Int} {n : Nat} {p m : Int} (h : fieldOk n p m = false) : fieldV l n p m = 0 := by unfold fieldV; simp [h]
theorem fieldV_yes {l : List Int} {n : Nat} {p m : Nat} (h : fieldOk n p m = true) : fieldV l n p m = fieldK l p m := by unfold fieldV; simp [h]

theorem field_any (a : Option Addr) (n c : Nat) (l : List Int) (p m : Int) (w : World) (h : RdAt .u8 w a n c l) (hn : n ≤ 1099511627776)
    (p1 : -9223372036854775808 ≤ p) (p2 : p ≤ 9223372036854775807) (m1 : -9223372036854775808 ≤ m) (m2 : m ≤ 9223372036854775807) :
    Calls Try.prog 11 #[.slice a n c, .int .i64 p, .int .i64 m] w fun e w' => e = .returned (.tuple #[.int .u64 (fieldV l n p m), .bool (fieldOk n p m)]) ∧ w = w' := by
  by_cases hok : fieldOk n p m = true
  · have q : 0 ≤ m ∧ m ≤ 64 ∧ 0 ≤ p ∧ p ≤ 8 * n - m := by unfold fieldOk at hok; simpa using hok
    obtain ⟨q1, q2, q3, q4⟩ := q
    obtain ⟨p, rfl⟩ := Int.eq_ofNat_of_zero_le q3
    obtain ⟨m, rfl⟩ := Int.eq_ofNat_of_zero_le q1
    rw [hok, fieldV_yes hok]
    clear hok
    go_enter Try.func11, Try.ntmps11
    go_wp2
    go_loop [8, 31] (fun x i => ∃ k : Nat, k ≤ m ∧ i = .int .i64 k ∧ x = .int .u64 (fieldK l p k)) (fun _ i => m - (intOf i).toNat)
    case atStart => exact ⟨0, by omega, rfl, rfl⟩
    case round =>
      obtain ⟨k, hk, rfl, rfl⟩ := hrel
      by_cases hp : k < m
      · obtain ⟨b, o, rfl, hc⟩ := h.cell ((p + k) / 8) (by omega)
        have hb := h.byte ((p + k) / 8) (by omega)
        have hb1 := hb.1
        have hb2 := hb.2
        clear hb
        have ha := i64_and_7 ((p : Int) + k) (by omega) (by omega)
        have e1 : ((p : Int) + k) % 8 = ((p + k) % 8 : Nat) := by omega
        rw [e1] at ha
        clear e1
        go_wp2
        go_round
        case rel => exact ⟨k + 1, by omega, by go_num, by rw [field_step l p k (by omega) hb1 hb2]⟩
        case measure => simp [intOf] <;> omega
      · obtain rfl : k = m := by omega
        go_wp2
        go_ret2
        exact ⟨rfl, rfl⟩
  · have hok' : fieldOk n p m = false := by simpa using hok
    rw [hok', fieldV_no hok']
    have q : ¬ (0 ≤ m ∧ m ≤ 64 ∧ 0 ≤ p ∧ p ≤ 8 * n - m) := by unfold fieldOk at hok; simpa using hok
    clear hok hok'
    by_cases c1 : m < 0
    · go_enter Try.func11, Try.ntmps11
      go_wp2
      go_ret2
      exact ⟨rfl, rfl⟩
    by_cases c2 : 64 < m
    · go_enter Try.func11, Try.ntmps11
      go_wp2
      go_ret2
      exact ⟨rfl, rfl⟩
    by_cases c3 : p < 0
    · go_enter Try.func11, Try.ntmps11
      go_wp2
      go_ret2
      exact ⟨rfl, rfl⟩
    have c4 : 8 * n - m < p := by omega
    clear q
    go_enter Try.func11, Try.ntmps11
    go_wp2
    go_ret2
    exact ⟨rfl, rfl⟩

theorem rfield_any (a : Option Addr) (n c : Nat) (l : List Int) (p m : Int) (w : World) (h : RdAt .u8 w a n c l) (hn : n ≤ 1099511627776)
    (p1 : -9223372036854775808 ≤ p) (p2 : p ≤ 9223372036854775807) (m1 : -9223372036854775808 ≤ m) (m2 : m ≤ 9223372036854775807) :
    Calls Try.prog 36 #[.slice a n c, .int .i64 p, .int .i64 m] w fun e w' => e = .returned (.tuple #[.int .u64 (fieldV l n p m), .bool (fieldOk n p m)]) ∧ w = w' := by
  by_cases hok : fieldOk n p m = true
  · have q : 0 ≤ m ∧ m ≤ 64 ∧ 0 ≤ p ∧ p ≤ 8 * n - m := by unfold fieldOk at hok; simpa using hok
    obtain ⟨q1, q2, q3, q4⟩ := q
    obtain ⟨p, rfl⟩ := Int.eq_ofNat_of_zero_le q3
    obtain ⟨m, rfl⟩ := Int.eq_ofNat_of_zero_le q1
    rw [hok, fieldV_yes hok]
    clear hok
    go_enter Try.func36, Try.ntmps36
    go_wp2
    go_loop [8, 9] (fun x i => ∃ j : Nat, j ≤ m ∧ i = .int .i64 (j - 1) ∧ x = .int .u64 (fieldK l (p + j) (m - j))) (fun _ i => (intOf i + 1).toNat)
    case atStart => exact ⟨m, by omega, rfl, by simp [fieldK]⟩
    case round =>
      obtain ⟨j, hj, rfl, rfl⟩ := hrel
      cases j with
      | zero =>
        have e : ((0 : Nat) : Int) - 1 = -1 := rfl
        rw [e]
        clear e
        go_wp2
        go_ret2
        exact ⟨rfl, rfl⟩
      | succ k =>
        have e : ((k + 1 : Nat) : Int) - 1 = k := by omega
        rw [e]
        clear e
        obtain ⟨b, o, rfl, hc⟩ := h.cell ((p + k) / 8) (by omega)
        have hb := h.byte ((p + k) / 8) (by omega)
        have hb1 := hb.1
        have hb2 := hb.2
        have hf := fieldK_bd l (p + (k + 1)) (m - (k + 1))
        have hf1 := hf.1
        have hf2 : fieldK l (p + (k + 1)) (m - (k + 1)) ≤ 9223372036854775807 := by have := pow_le_of (show m - (k + 1) ≤ 63 by omega); omega
        have hs := rfield_step l p k (m - (k + 1)) hb1 hb2
        have hq : bits BinOp.and IntKind.u8 (nth l ((p + k) / 8) / 2 ^ ((p + k) % 8)) 1 ≤ 1 := by rw [byte_bit _ _ hb1 hb2]; omega
        have hq0 : 0 ≤ bits BinOp.and IntKind.u8 (nth l ((p + k) / 8) / 2 ^ ((p + k) % 8)) 1 := by rw [byte_bit _ _ hb1 hb2]; omega
        rw [show m - (k + 1) + 1 = m - k by omega] at hs
        have HS := Lib.hid hs
        clear hf hb hs
        go_wp2
        go_round
        case rel => exact ⟨k, by omega, rfl, by rw [HS.out]⟩
        case measure => simp [intOf] <;> omega
  · have hok' : fieldOk n p m = false := by simpa using hok
    rw [hok', fieldV_no hok']
    have q : ¬ (0 ≤ m ∧ m ≤ 64 ∧ 0 ≤ p ∧ p ≤ 8 * n - m) := by unfold fieldOk at hok; simpa using hok
    clear hok hok'
    by_cases c1 : m < 0
    · go_enter Try.func36, Try.ntmps36
      go_wp2
      go_ret2
      exact ⟨rfl, rfl⟩
    by_cases c2 : 64 < m
    · go_enter Try.func36, Try.ntmps36
      go_wp2
      go_ret2
      exact ⟨rfl, rfl⟩
    by_cases c3 : p < 0
    · go_enter Try.func36, Try.ntmps36
      go_wp2
      go_ret2
      exact ⟨rfl, rfl⟩
    by_cases c5 : 8 * (n : Int) < p
    · clear q
      go_enter Try.func36, Try.ntmps36
      go_wp2
      go_ret2
      exact ⟨rfl, rfl⟩
    have c4 : 8 * n - p < m := by omega
    clear q
    go_enter Try.func36, Try.ntmps36
    go_wp2
    go_ret2
    exact ⟨rfl, rfl⟩
end Go.Proofs.Ytpaddiggieklfaa
