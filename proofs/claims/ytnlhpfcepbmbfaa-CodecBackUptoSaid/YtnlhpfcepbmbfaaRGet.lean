/- The contract of the reference's Get. -/
import Derived.Test.YtnlhpfcepbmbfaaGet
namespace Go.Proofs.Ytnlhpfcepbmbfaa
open Go.RowKit
theorem rget_any (a : Option Addr) (n c : Nat) (l : List Int) (m : Int) (w : World) (h : RdAt .u8 w a n c l) :
    Calls Try.prog 36 #[.slice a n c, .int .i64 m] w fun e w' => e = .returned (.tuple #[.int .u64 (getV l n m), .bool (getOk n m)]) ∧ w = w' := by
  have hmax := h.max
  have hcap := h.cap
  unfold maxLen at hmax
  by_cases hok : getOk n m = true
  · have q : 0 ≤ m ∧ m ≤ 8 ∧ m ≤ n := by unfold getOk at hok; simpa using hok
    obtain ⟨q1, q2, q4⟩ := q
    obtain ⟨m, rfl⟩ := Int.eq_ofNat_of_zero_le q1
    rw [hok, getV_yes hok, ← getFrom_zero]
    clear hok
    go_enter Try.func36, Try.ntmps36
    go_wp2
    go_loop [6, 7] (fun x i => ∃ j : Nat, j ≤ m ∧ i = .int .i64 (j - 1) ∧ x = .int .u64 (getFrom l j (m - j))) (fun _ i => (intOf i + 1).toNat)
    case atStart => exact ⟨m, by omega, rfl, by simp [getFrom]⟩
    case round =>
      obtain ⟨j, hj, rfl, rfl⟩ := hrel
      cases j with
      | zero =>
        have e : ((0 : Nat) : Int) - 1 = -1 := rfl
        rw [e]
        clear e
        go_wp2
        go_ret2
        exact ⟨rfl, rfl⟩
      | succ k =>
        have e : ((k + 1 : Nat) : Int) - 1 = k := by omega
        rw [e]
        clear e
        obtain ⟨b, o, rfl, hc⟩ := h.cell k (by omega)
        have hb := h.byte k (by omega)
        have hb1 := hb.1
        have hb2 := hb.2
        have hf := getFrom_bd l (m - (k + 1)) (k + 1) (fun i hi => h.byte i (by omega))
        have hf1 := hf.1
        have hf2 : getFrom l (k + 1) (m - (k + 1)) ≤ 72057594037927935 := by have := pow_le_of (show 8 * (m - (k + 1)) ≤ 56 by omega); omega
        have HS : Hid (getFrom l (k + 1) (m - (k + 1)) * 256 + nth l k = getFrom l k (m - k)) := by
          show _ = _
          rw [show m - k = m - (k + 1) + 1 by omega, getFrom]; omega
        clear hf hb
        go_wp2
        go_round
        case rel => exact ⟨k, by omega, rfl, by rw [HS.out]⟩
        case measure => simp [intOf] <;> omega
  · have hok' : getOk n m = false := by simpa using hok
    rw [hok', getV_no hok']
    have q : ¬ (0 ≤ m ∧ m ≤ 8 ∧ m ≤ n) := by unfold getOk at hok; simpa using hok
    clear hok hok'
    by_cases c1 : m < 0
    · go_enter Try.func36, Try.ntmps36
      go_wp2
      go_ret2
      exact ⟨rfl, rfl⟩
    by_cases c2 : 8 < m
    · go_enter Try.func36, Try.ntmps36
      go_wp2
      go_ret2
      exact ⟨rfl, rfl⟩
    have c4 : n < m := by omega
    clear q
    go_enter Try.func36, Try.ntmps36
    go_wp2
    go_ret2
    exact ⟨rfl, rfl⟩
end Go.Proofs.Ytnlhpfcepbmbfaa
