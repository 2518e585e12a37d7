/- The contract of ints.Up: what it answers for every two numbers. -/
import Derived.Test.YtpaddiggieklfaaProg
import Derived.WalkKit
import Derived.ProofKit
import Derived.Lib.Hide
namespace Go.Proofs.Ytpaddiggieklfaa
open Go.RowKit

def upMore (v to : Int) : Int := -(v % to) % to

theorem upMore_bd (v to : Int) (h : 1 ≤ to) : 0 ≤ upMore v to ∧ upMore v to < to := by
  unfold upMore
  exact ⟨Int.emod_nonneg _ (by omega), Int.emod_lt_of_pos _ (by omega)⟩

def upOk (v to : Int) : Bool := decide (0 ≤ v ∧ 1 ≤ to ∧ v ≤ 4611686018427387904 ∧ upMore v to ≤ 4611686018427387904 - v)
def upVal (v to : Int) : Int := if upOk v to then v + upMore v to else 0

theorem up_any (v to : Int) (w : World) (h1 : v ≤ 9223372036854775807) (h2 : to ≤ 9223372036854775807) :
    Calls Try.prog 12 #[.int .i64 v, .int .i64 to] w fun e w' => e = .returned (.tuple #[.int .i64 (upVal v to), .bool (upOk v to)]) ∧ w = w' := by
  by_cases c1 : v < 0
  · have e1 : upOk v to = false := by unfold upOk; simp; omega
    have e2 : upVal v to = 0 := by unfold upVal; simp [e1]
    rw [e1, e2]; clear e1 e2
    go_enter Try.func12, Try.ntmps12
    go_wp2
    go_ret2
    exact ⟨rfl, rfl⟩
  by_cases c2 : to < 1
  · have e1 : upOk v to = false := by unfold upOk; simp; omega
    have e2 : upVal v to = 0 := by unfold upVal; simp [e1]
    rw [e1, e2]; clear e1 e2
    go_enter Try.func12, Try.ntmps12
    go_wp2
    go_ret2
    exact ⟨rfl, rfl⟩
  have m1 : 0 ≤ v % to := Int.emod_nonneg _ (by omega)
  have m2 : v % to < to := Int.emod_lt_of_pos _ (by omega)
  have b := upMore_bd v to (by omega)
  have b1 := b.1
  have b2 := b.2
  clear b
  by_cases c3 : 4611686018427387904 < v
  · have e1 : upOk v to = false := by unfold upOk; simp; omega
    have e2 : upVal v to = 0 := by unfold upVal; simp [e1]
    rw [e1, e2]; clear e1 e2
    go_enter Try.func12, Try.ntmps12
    go_wp2
    go_ret2
    exact ⟨rfl, rfl⟩
  by_cases c4 : 4611686018427387904 - v < upMore v to
  · have e1 : upOk v to = false := by unfold upOk; simp; omega
    have e2 : upVal v to = 0 := by unfold upVal; simp [e1]
    rw [e1, e2]; clear e1 e2
    unfold upMore at c4 b1 b2
    go_enter Try.func12, Try.ntmps12
    go_wp2
    go_ret2
    exact ⟨rfl, rfl⟩
  · have e1 : upOk v to = true := by unfold upOk; simp; omega
    have e2 : upVal v to = v + upMore v to := by unfold upVal; simp [e1]
    rw [e1, e2]; clear e1 e2
    unfold upMore at *
    go_enter Try.func12, Try.ntmps12
    go_wp2
    go_ret2
    exact ⟨rfl, rfl⟩

theorem up_no {v to : Int} (h : upOk v to = false) : upVal v to = 0 := by unfold upVal; simp [h]
theorem up_yes {v to : Int} (h : upOk v to = true) : upVal v to = v + upMore v to := by unfold upVal; simp [h]
theorem upMore_zero {v to : Int} (h : v % to = 0) : upMore v to = 0 := by unfold upMore; rw [h]; simp
theorem upMore_pos {v to : Int} (h1 : 0 < v % to) (h2 : v % to < to) : upMore v to = to - v % to := by
  unfold upMore
  rw [show -(v % to) % to = (to - v % to) % to by rw [Int.sub_eq_add_neg, Int.add_comm, Int.add_emod_right]]
  exact Int.emod_eq_of_lt (by omega) (by omega)
theorem ret_ib {k : IntKind} {a a' : Int} {b b' : Bool} (h1 : a = a') (h2 : b = b') : Ending.returned (.tuple #[.int k a, .bool b]) = .returned (.tuple #[.int k a', .bool b']) := by rw [h1, h2]

theorem rup_any (v to : Int) (w : World) (h1 : v ≤ 9223372036854775807) (h2 : to ≤ 9223372036854775807) :
    Calls Try.prog 35 #[.int .i64 v, .int .i64 to] w fun e w' => e = .returned (.tuple #[.int .i64 (upVal v to), .bool (upOk v to)]) ∧ w = w' := by
  by_cases c1 : v < 0
  · have e1 : upOk v to = false := by unfold upOk; simp; omega
    rw [e1, up_no e1]; clear e1
    go_enter Try.func35, Try.ntmps35
    go_wp2
    go_ret2
    exact ⟨rfl, rfl⟩
  by_cases c2 : to < 1
  · have e1 : upOk v to = false := by unfold upOk; simp; omega
    rw [e1, up_no e1]; clear e1
    go_enter Try.func35, Try.ntmps35
    go_wp2
    go_ret2
    exact ⟨rfl, rfl⟩
  by_cases c3 : 4611686018427387904 < v
  · have e1 : upOk v to = false := by unfold upOk; simp; omega
    rw [e1, up_no e1]; clear e1
    go_enter Try.func35, Try.ntmps35
    go_wp2
    go_ret2
    exact ⟨rfl, rfl⟩
  have m1 : 0 ≤ v % to := Int.emod_nonneg _ (by omega)
  have m2 : v % to < to := Int.emod_lt_of_pos _ (by omega)
  have q0 : v / to * to + v % to = v := by have := Int.mul_ediv_add_emod v to; rw [Int.mul_comm] at this; exact this
  have q1 : 0 ≤ v / to := Int.ediv_nonneg (by omega) (by omega)
  have q2 : v / to ≤ v := Int.ediv_le_self _ (by omega)
  have q3 : (v / to + 1) * to = v / to * to + to := by rw [Int.add_mul, Int.one_mul]
  by_cases z : v % to = 0
  · have e1 : upOk v to = true := by unfold upOk; rw [upMore_zero z]; simp; omega
    have e2 : upVal v to = v / to * to := by rw [up_yes e1, upMore_zero z]; omega
    have a1 : ¬ v / to * to < v := by omega
    have a2 : 0 ≤ v / to * to := Int.mul_nonneg q1 (by omega)
    have a3 : v / to * to ≤ 4611686018427387904 := by omega
    have E2 := Lib.hid e2
    have E1 := Lib.hid e1
    clear e1 e2 q0 q3 z
    go_enter Try.func35, Try.ntmps35
    go_wp2
    go_ret2
    exact ⟨ret_ib E2.out.symm E1.out.symm, rfl⟩
  · have zz := upMore_pos (v := v) (to := to) (by omega) m2
    have a1 : v / to * to < v := by omega
    have a2 : 0 ≤ v / to * to := Int.mul_nonneg q1 (by omega)
    by_cases c4 : 4611686018427387904 - to < v / to * to
    · have e1 : upOk v to = false := by unfold upOk; rw [zz]; simp; omega
      have E2 := Lib.hid (up_no e1)
      have E1 := Lib.hid e1
      clear e1 q0 q3 z zz
      go_enter Try.func35, Try.ntmps35
      go_wp2
      go_ret2
      exact ⟨ret_ib E2.out.symm E1.out.symm, rfl⟩
    · have e1 : upOk v to = true := by unfold upOk; rw [zz]; simp; omega
      have e2 : upVal v to = (v / to + 1) * to := by rw [up_yes e1, zz]; omega
      have a3 : 0 ≤ (v / to + 1) * to := by omega
      have a4 : (v / to + 1) * to ≤ 4611686018427387904 := by omega
      have E2 := Lib.hid e2
      have E1 := Lib.hid e1
      clear e1 e2 q0 q3 z zz
      go_enter Try.func35, Try.ntmps35
      go_wp2
      go_ret2
      exact ⟨ret_ib E2.out.symm E1.out.symm, rfl⟩
end Go.Proofs.Ytpaddiggieklfaa
