/- Plain laws: Get tells what Put laid. No program in sight. -/
import Derived.Test.YtnlhpfcepbmbfaaPut
namespace Go.Proofs.Ytnlhpfcepbmbfaa
open Go.RowKit
theorem nth_zero (x : Int) (t : List Int) : nth (x :: t) 0 = x := rfl
theorem nth_succ (x : Int) (t : List Int) (j : Nat) : nth (x :: t) (j + 1) = nth t j := by simp [nth, List.getD]
theorem nth_app {l r : List Int} {j : Nat} (h : j < l.length) : nth (l ++ r) j = nth l j := by simp [nth, List.getD, List.getElem?_append_left h]
theorem nth_putL (u : Int) : ∀ (n i : Nat), i < n → nth (putL u n) i = u / 2 ^ (8 * i) % 256
  | n + 1, i, h => by
    rw [putL]
    by_cases e : i < n
    · rw [nth_app (by rw [putL_len]; exact e)]; exact nth_putL u n i e
    · obtain rfl : i = n := by omega
      simp [nth, List.getD, putL_len]
theorem getK_putL (u : Int) (n : Nat) (h0 : 0 ≤ u) : ∀ k, k ≤ n → getK (putL u n) k = u % 2 ^ (8 * k)
  | 0, _ => by simp [getK]
  | k + 1, h => by
    rw [getK, getK_putL u n h0 k (by omega), nth_putL u n k (by omega)]
    rw [show 8 * (k + 1) = 8 * k + 8 by omega, Int.pow_add]
    have hp : (0 : Int) < 2 ^ (8 * k) := Int.pow_pos (by decide)
    have e := Int.emod_def u (2 ^ (8 * k))
    have e2 := Int.emod_def u (2 ^ (8 * k) * 2 ^ 8)
    rw [← Int.ediv_ediv_of_nonneg (by omega)] at e2
    have e3 := Int.emod_def (u / 2 ^ (8 * k)) 256
    rw [e, e2, e3, show (2 : Int) ^ 8 = 256 from rfl]
    rw [Int.sub_mul, Int.mul_comm (u / 2 ^ (8 * k)), Int.mul_comm (256 * _), ← Int.mul_assoc (2 ^ (8 * k)) 256]
    omega
end Go.Proofs.Ytnlhpfcepbmbfaa
