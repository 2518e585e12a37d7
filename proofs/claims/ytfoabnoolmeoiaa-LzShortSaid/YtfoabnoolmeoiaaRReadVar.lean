/- The contract of the reference's ReadVar. -/
import Derived.Test.YtfoabnoolmeoiaaReadVar
namespace Go.Proofs.Ytfoabnoolmeoiaa
open Go.RowKit

theorem valFrom_small (l : List Int) (k j : Nat) (hj : j < k + 1) (hk : k ≤ 9) (h9 : k = 9 → nth l k % 128 ≤ 1) : 0 ≤ valFrom l (j + 1) (k - j) ∧ valFrom l (j + 1) (k - j) ≤ 144115188075855871 := by
  refine ⟨(valFrom_bd l _ _).1, ?_⟩
  by_cases h : k = 9
  · subst h
    by_cases hj9 : j = 9
    · subst hj9; simp [valFrom]
    · have e : 9 - j = (8 - j) + 1 := by omega
      have ht := valFrom_top l (8 - j) (j + 1) (by rw [show j + 1 + (8 - j) = 9 by omega]; exact h9 rfl)
      have hp := pow_le_of (show 7 * (8 - j) + 1 ≤ 57 by omega)
      rw [e]; omega
  · have hb := (valFrom_bd l (k - j) (j + 1)).2
    have hp := pow_le_of (show 7 * (k - j) ≤ 56 by omega)
    omega

set_option maxRecDepth 100000 in
set_option maxHeartbeats 400000 in
theorem rreadvar_any (a : Option Addr) (n c : Nat) (l : List Int) (w : World) (h : RdAt .u8 w a n c l) :
    Calls Try.prog 14 #[.slice a n c] w fun e w' => e = .returned (.tuple #[.int .u64 (rvV l n), .int .i64 (rvN l n), .int .i64 (rvE l n)]) ∧ w = w' := by
  have hmax := h.max
  have hcap := h.cap
  unfold maxLen at hmax
  go_enter Try.func14, Try.ntmps14
  go_wp2
  go_loop [5] (fun i => ∃ k : Nat, k ≤ n ∧ k ≤ 10 ∧ i = .int .i64 k ∧ ∀ j, j < k → j < n ∧ 128 ≤ nth l j) (fun i => n - (intOf i).toNat)
  case atStart => exact ⟨0, by omega, by omega, rfl, fun j hj => by omega⟩
  case round =>
    obtain ⟨k, hk, hk10, rfl, hall⟩ := hrel
    have HALL := Lib.hid hall
    clear hall
    by_cases h10 : k = 10
    · have hr := Lib.hid (rv_ten (lead_ten (l := l) (n := n) (fun j hj => HALL.out j (by omega))))
      have ht : ((k : Int) == 10) = true := by simp; omega
      have ht' : 10 ≤ (k : Int) := by omega
      clear h10
      by_cases hkn : k < n
      all_goals
        go_wp2
        go_ret3
        rw [hr.out.1, hr.out.2.1, hr.out.2.2]
        exact ⟨rfl, rfl⟩
    · have ht : ((k : Int) == 10) = false := by simp; omega
      by_cases hp : k < n
      · obtain ⟨b, o, rfl, hc⟩ := h.cell k hp
        have hb := h.byte k hp
        have hb1 := hb.1
        have hb2 := hb.2
        have hkk : ((k : Int) == n) = false := by simp; omega
        clear hb
        by_cases hgo : 128 ≤ nth l k
        · go_wp2
          go_round
          case rel => exact ⟨k + 1, by omega, by omega, by go_num, fun j hj => by by_cases e : j = k; (subst e; exact ⟨hp, hgo⟩); exact HALL.out j (by omega)⟩
          case measure => simp [intOf] <;> omega
        · have hl : lead l n = k := lead_at (by omega) HALL.out (by omega)
          have HL := Lib.hid hl
          clear hl
          by_cases hz : 0 < k ∧ nth l k = 0
          · have hr := Lib.hid (rv_form HL.out hp (Or.inl hz))
            obtain ⟨hz1, hz2⟩ := hz
            have hz3 : (nth l k == 0) = true := by simp [hz2]
            have hz4 : nth l k ≤ 0 := by omega
            clear hz2
            go_wp2
            go_ret3
            rw [hr.out.1, hr.out.2.1, hr.out.2.2]
            exact ⟨rfl, rfl⟩
          · by_cases h9 : k = 9 ∧ 1 < nth l k
            · have hr := Lib.hid (rv_form HL.out hp (Or.inr h9))
              obtain ⟨h91, h92⟩ := h9
              have hz3 : (nth l k == 0) = false := by simp; omega
              have k9 : ((k : Int) == 9) = true := by simp; omega
              have k9' : (k : Int) ≤ 9 := by omega
              have k9'' : 9 ≤ (k : Int) := by omega
              clear h91
              go_wp2
              go_ret3
              rw [hr.out.1, hr.out.2.1, hr.out.2.2]
              exact ⟨rfl, rfl⟩
            · have hr := Lib.hid (rv_ok HL.out hp (by omega) hz h9)
              have hsm := fun j hj => valFrom_small l k j hj (by omega) (fun e => by omega)
              have HS := Lib.hid hsm
              clear hsm
              have key : (((k : Int) == 9) = true ∧ nth l k ≤ 1 ∧ (nth l k == 0) = false ∧ 0 < (k : Int)) ∨ (((k : Int) == 9) = false ∧ (k : Int) ≤ 0 ∧ (nth l k == 0) = true) ∨ (((k : Int) == 9) = false ∧ (nth l k == 0) = false ∧ 0 < (k : Int)) ∨ (((k : Int) == 9) = false ∧ (nth l k == 0) = false ∧ (k : Int) ≤ 0) := by
                by_cases k9 : k = 9
                · exact Or.inl ⟨by simp; omega, by omega, by simp; omega, by omega⟩
                · by_cases z : nth l k = 0
                  · exact Or.inr (Or.inl ⟨by simp; omega, by omega, by simp [z]⟩)
                  · by_cases k0 : 0 < (k : Int)
                    · exact Or.inr (Or.inr (Or.inl ⟨by simp; omega, by simp [z], k0⟩))
                    · exact Or.inr (Or.inr (Or.inr ⟨by simp; omega, by simp [z], by omega⟩))
              clear hz h9
              rcases key with ⟨f1, f2, f3, f4⟩ | ⟨f1, f2, f3⟩ | ⟨f1, f3, f2⟩ | ⟨f1, f3, f2⟩
              all_goals
                go_wp2
                clear hb1 hb2 hc
                go_loop [6, 7] (fun x i => ∃ j : Nat, j ≤ k + 1 ∧ i = .int .i64 (j - 1) ∧ x = .int .u64 (valFrom l j (k + 1 - j))) (fun _ i => (intOf i + 1).toNat)
                case atStart => exact ⟨k + 1, by omega, by simp, by simp [valFrom]⟩
                case round =>
                  obtain ⟨j, hj, rfl, rfl⟩ := hrel
                  cases j with
                  | zero =>
                    have e : ((0 : Nat) : Int) - 1 = -1 := rfl
                    rw [e]
                    clear e
                    have hz := Lib.hid (valFrom_zero l (k + 1))
                    go_wp2
                    go_ret3
                    rw [hr.out.1, hr.out.2.1, hr.out.2.2, ← hz.out]
                    exact ⟨rfl, rfl⟩
                  | succ j =>
                    have e : ((j + 1 : Nat) : Int) - 1 = j := by omega
                    rw [e]
                    clear e
                    obtain ⟨b2, o2, e2, hc2⟩ := h.cell j (by omega)
                    injection e2 with e2
                    injection e2 with e2 e3
                    subst e2 e3
                    have hb := h.byte j (by omega)
                    have hb1 := hb.1
                    have hb2 := hb.2
                    have hf1 := (HS.out j hj).1
                    have hf2 := (HS.out j hj).2
                    have HV : Hid (valFrom l (j + 1) (k - j) * 128 + nth l j % 128 = valFrom l j (k + 1 - j)) := by
                      show _ = _
                      rw [show k + 1 - j = k - j + 1 by omega, valFrom]; omega
                    have ek : k + 1 - (j + 1) = k - j := by omega
                    rw [ek]
                    clear hb ek
                    go_wp2
                    go_round
                    case rel => exact ⟨j, by omega, rfl, by rw [HV.out]⟩
                    case measure => simp [intOf] <;> omega
      · obtain rfl : k = n := by omega
        have hr := Lib.hid (rv_short (l := l) (n := k) (lead_at (by omega) HALL.out (by omega)) (by omega))
        go_wp2
        go_ret3
        rw [hr.out.1, hr.out.2.1, hr.out.2.2]
        exact ⟨rfl, rfl⟩
end Go.Proofs.Ytfoabnoolmeoiaa
