/- Contracts of ints.Zig, Zag, Log, Turn and of the references'. -/
import Derived.Test.YtpaddiggieklfaaProg
import Derived.Test.YtpaddiggieklfaaBits
import Derived.WalkKit
import Derived.ProofKit
import Derived.Lib.Hide
namespace Go.Proofs.Ytpaddiggieklfaa
open Go.RowKit

theorem zig_any (v : Int) (w : World) (h1 : -9223372036854775808 ≤ v) (h2 : v ≤ 9223372036854775807) :
    Calls Try.prog 19 #[.int .i64 v] w fun e w' => e = .returned (.int .u64 (zigI v)) ∧ w = w' := by
  go_enter Try.func19, Try.ntmps19
  go_wp2
  go_ret
  exact ⟨ret_int (zig_go v h1 h2), rfl⟩
theorem zag_any (v : Int) (w : World) (h1 : 0 ≤ v) (h2 : v ≤ 18446744073709551615) :
    Calls Try.prog 21 #[.int .u64 v] w fun e w' => e = .returned (.int .i64 (zagI v)) ∧ w = w' := by
  go_enter Try.func21, Try.ntmps21
  go_wp2
  go_ret
  exact ⟨ret_int (zag_go v h1 h2), rfl⟩
theorem rzig_any (v : Int) (w : World) (h1 : -9223372036854775808 ≤ v) (h2 : v ≤ 9223372036854775807) :
    Calls Try.prog 20 #[.int .i64 v] w fun e w' => e = .returned (.int .u64 (zigI v)) ∧ w = w' := by
  go_enter Try.func20, Try.ntmps20
  go_wp2
  · go_ret
    exact ⟨ret_int (by unfold zigI; rw [if_pos (by assumption)]), rfl⟩
  · go_ret
    exact ⟨ret_int (by unfold zigI; rw [if_neg (by omega)]), rfl⟩
theorem rzag_any (v : Int) (w : World) (h1 : 0 ≤ v) (h2 : v ≤ 18446744073709551615) :
    Calls Try.prog 22 #[.int .u64 v] w fun e w' => e = .returned (.int .i64 (zagI v)) ∧ w = w' := by
  by_cases h : v % 2 = 1
  · have h' : (v % 2 == 1) = true := by simpa using h
    have e : zagI v = -(v / 2) - 1 := by unfold zagI; rw [if_pos h]
    clear h
    go_enter Try.func22, Try.ntmps22
    go_wp2
    go_ret
    exact ⟨ret_int e.symm, rfl⟩
  · have h' : (v % 2 == 1) = false := by simpa using h
    have e : zagI v = v / 2 := by unfold zagI; rw [if_neg h]
    clear h
    go_enter Try.func22, Try.ntmps22
    go_wp2
    go_ret
    exact ⟨ret_int e.symm, rfl⟩

theorem log_any (v : Int) (w : World) (h1 : 0 ≤ v) (h2 : v ≤ 18446744073709551615) :
    Calls Try.prog 23 #[.int .u64 v] w fun e w' => e = .returned (.int .i64 (logF 64 v)) ∧ w = w' := by
  go_enter Try.func23, Try.ntmps23
  go_wp2
  go_loop [0, 3] (fun x n => ∃ (y m : Int) (f : Nat), 0 ≤ m ∧ m + f ≤ 64 ∧ 0 ≤ y ∧ y ≤ 18446744073709551615 ∧ y < 2 ^ f ∧ x = .int .u64 y ∧ n = .int .i64 m ∧ Hid (m + logF f y = logF 64 v)) (fun x _ => (intOf x).toNat)
  case atStart => exact ⟨v, 0, 64, by omega, by omega, by omega, by omega, by omega, rfl, rfl, by show _ = _; omega⟩
  case round =>
    obtain ⟨y, m, f, hm0, hm1, hy0, hyb, hy1, rfl, rfl, hl⟩ := hrel
    by_cases hp : 0 < y
    · cases f with
      | zero => exfalso; simp at hy1; omega
      | succ f =>
        have hy2 : y / 2 < 2 ^ f := by rw [Int.pow_succ] at hy1; omega
        clear hy1
        go_wp2
        go_round
        case rel => exact ⟨y / 2, m + 1, f, by omega, by omega, by omega, by omega, hy2, rfl, rfl, by have := hl.out; rw [logF_step f y hp] at this; show _ = _; omega⟩
        case measure => simp [intOf] <;> omega
    · go_wp2
      go_ret
      exact ⟨ret_int (by have := hl.out; rw [logF_nil _ _ (by omega)] at this; omega), rfl⟩
theorem rlog_any (v : Int) (w : World) (h1 : 0 ≤ v) (h2 : v ≤ 18446744073709551615) :
    Calls Try.prog 24 #[.int .u64 v] w fun e w' => e = .returned (.int .i64 (logF 64 v)) ∧ w = w' := by
  go_enter Try.func24, Try.ntmps24
  go_wp2
  go_loop [0, 3] (fun x n => ∃ (y m : Int) (f : Nat), 0 ≤ m ∧ m + f ≤ 64 ∧ 0 ≤ y ∧ y ≤ 18446744073709551615 ∧ y < 2 ^ f ∧ x = .int .u64 y ∧ n = .int .i64 m ∧ Hid (m + logF f y = logF 64 v)) (fun x _ => (intOf x).toNat)
  case atStart => exact ⟨v, 0, 64, by omega, by omega, by omega, by omega, by omega, rfl, rfl, by show _ = _; omega⟩
  case round =>
    obtain ⟨y, m, f, hm0, hm1, hy0, hyb, hy1, rfl, rfl, hl⟩ := hrel
    by_cases hp : 0 < y
    · cases f with
      | zero => exfalso; simp at hy1; omega
      | succ f =>
        have hy2 : y / 2 < 2 ^ f := by rw [Int.pow_succ] at hy1; omega
        clear hy1
        go_wp2
        go_round
        case rel => exact ⟨y / 2, m + 1, f, by omega, by omega, by omega, by omega, hy2, rfl, rfl, by have := hl.out; rw [logF_step f y hp] at this; show _ = _; omega⟩
        case measure => simp [intOf] <;> omega
    · go_wp2
      go_ret
      exact ⟨ret_int (by have := hl.out; rw [logF_nil _ _ (by omega)] at this; omega), rfl⟩
theorem turn_any (v : Int) (w : World) (h1 : 0 ≤ v) (h2 : v ≤ 18446744073709551615) :
    Calls Try.prog 25 #[.int .u64 v] w fun e w' => e = .returned (.int .u64 (turnK v 8)) ∧ w = w' := by
  go_enter Try.func25, Try.ntmps25
  go_wp2
  go_loop [3, 5] (fun x i => ∃ k : Nat, k ≤ 8 ∧ i = .int .i64 k ∧ x = .int .u64 (turnK v k)) (fun _ i => 8 - (intOf i).toNat)
  case atStart => exact ⟨0, by omega, rfl, rfl⟩
  case round =>
    obtain ⟨k, hk, rfl, rfl⟩ := hrel
    by_cases hp : k < 8
    · go_wp2
      go_round
      case rel => exact ⟨k + 1, by omega, by go_num, by rw [turn_go v k hp h1 h2]⟩
      case measure => simp [intOf] <;> omega
    · go_wp2
      go_ret
      exact ⟨ret_int (by rw [show k = 8 by omega]), rfl⟩
theorem rturn_any (v : Int) (w : World) (h1 : 0 ≤ v) (h2 : v ≤ 18446744073709551615) :
    Calls Try.prog 26 #[.int .u64 v] w fun e w' => e = .returned (.int .u64 (turnK v 8)) ∧ w = w' := by
  go_enter Try.func26, Try.ntmps26
  go_wp2
  go_loop [0, 3, 4] (fun y x i => ∃ k : Nat, k ≤ 8 ∧ i = .int .i64 k ∧ x = .int .u64 (turnK v k) ∧ y = .int .u64 (v / 2 ^ (8 * k))) (fun _ _ i => 8 - (intOf i).toNat)
  case atStart => exact ⟨0, by omega, rfl, rfl, by simp⟩
  case round =>
    obtain ⟨k, hk, rfl, rfl, rfl⟩ := hrel
    by_cases hp : k < 8
    · have hb := turnK_small v k hp
      have hd := div_bd v (8 * k) h1
      have hb1 := hb.1
      have hb2 := hb.2
      have hd1 := hd.1
      have hd2 : v / 2 ^ (8 * k) ≤ 18446744073709551615 := by omega
      clear hb hd
      go_wp2
      go_round
      case rel => exact ⟨k + 1, by omega, by go_num, rfl, by rw [turn_ref]⟩
      case measure => simp [intOf] <;> omega
    · go_wp2
      go_ret
      exact ⟨ret_int (by rw [show k = 8 by omega]), rfl⟩
end Go.Proofs.Ytpaddiggieklfaa
