/- Contracts of ints.ReadVar and of the reference's. -/
import Derived.Test.YtfoabnoolmeoiaaU8
import Derived.Test.YtfoabnoolmeoiaaFieldLaw
namespace Go.Proofs.Ytfoabnoolmeoiaa
open Go.RowKit

/-- How many of the first bytes (at most ten) go on. -/
def leadF (l : List Int) (n : Nat) : Nat → Nat → Nat
  | 0, k => k
  | f + 1, k => if k < n ∧ 128 ≤ nth l k then leadF l n f (k + 1) else k
def lead (l : List Int) (n : Nat) : Nat := leadF l n 10 0
def valK (l : List Int) : Nat → Int
  | 0 => 0
  | k + 1 => valK l k + nth l k % 128 * 2 ^ (7 * k)
def valFrom (l : List Int) (i : Nat) : Nat → Int
  | 0 => 0
  | n + 1 => nth l i % 128 + 128 * valFrom l (i + 1) n
def rvForm (l : List Int) (n : Nat) : Bool := decide (lead l n = 10 ∨ (lead l n ≠ n ∧ ((0 < lead l n ∧ nth l (lead l n) = 0) ∨ (lead l n = 9 ∧ 1 < nth l 9))))
def rvE (l : List Int) (n : Nat) : Int := if rvForm l n then 22 else if lead l n = n then 21 else 0
def rvV (l : List Int) (n : Nat) : Int := if rvE l n = 0 then valK l (lead l n + 1) else 0
def rvN (l : List Int) (n : Nat) : Int := if rvE l n = 0 then lead l n + 1 else 0

theorem lead_go (l : List Int) (n : Nat) : ∀ k, k ≤ 10 → (∀ j, j < k → j < n ∧ 128 ≤ nth l j) → lead l n = leadF l n (10 - k) k
  | 0, _, _ => rfl
  | k + 1, hk, h => by
    rw [lead_go l n k (by omega) (fun j hj => h j (by omega)), show 10 - k = (10 - (k + 1)) + 1 by omega, leadF, if_pos (h k (by omega))]
theorem lead_ten {l : List Int} {n : Nat} (h : ∀ j, j < 10 → j < n ∧ 128 ≤ nth l j) : lead l n = 10 := by rw [lead_go l n 10 (by omega) h]; rfl
theorem lead_at {l : List Int} {n k : Nat} (hk : k < 10) (h : ∀ j, j < k → j < n ∧ 128 ≤ nth l j) (hn : ¬ (k < n ∧ 128 ≤ nth l k)) : lead l n = k := by
  rw [lead_go l n k (by omega) h, show 10 - k = (9 - k) + 1 by omega, leadF, if_neg hn]
theorem rv_ten {l : List Int} {n : Nat} (h : lead l n = 10) : rvV l n = 0 ∧ rvN l n = 0 ∧ rvE l n = 22 := by
  have hf : rvForm l n = true := by unfold rvForm; simp [h]
  have he : rvE l n = 22 := by unfold rvE; simp [hf]
  refine ⟨?_, ?_, he⟩
  · unfold rvV; rw [if_neg (by omega)]
  · unfold rvN; rw [if_neg (by omega)]
theorem rv_short {l : List Int} {n : Nat} (h : lead l n = n) (hn : n < 10) : rvV l n = 0 ∧ rvN l n = 0 ∧ rvE l n = 21 := by
  have hf : rvForm l n = false := by unfold rvForm; simp [h]; omega
  have he : rvE l n = 21 := by unfold rvE; simp [hf, h]
  refine ⟨?_, ?_, he⟩
  · unfold rvV; rw [if_neg (by omega)]
  · unfold rvN; rw [if_neg (by omega)]
theorem rv_form {l : List Int} {n k : Nat} (h : lead l n = k) (hn : k < n) (hb : (0 < k ∧ nth l k = 0) ∨ (k = 9 ∧ 1 < nth l k)) : rvV l n = 0 ∧ rvN l n = 0 ∧ rvE l n = 22 := by
  have hf : rvForm l n = true := by
    unfold rvForm; rw [h]
    rcases hb with ⟨h1, h2⟩ | ⟨h1, h2⟩
    · exact decide_eq_true (Or.inr ⟨by omega, Or.inl ⟨h1, h2⟩⟩)
    · subst h1; exact decide_eq_true (Or.inr ⟨by omega, Or.inr ⟨rfl, h2⟩⟩)
  have he : rvE l n = 22 := by unfold rvE; simp [hf]
  refine ⟨?_, ?_, he⟩
  · unfold rvV; rw [if_neg (by omega)]
  · unfold rvN; rw [if_neg (by omega)]
theorem rv_ok {l : List Int} {n k : Nat} (h : lead l n = k) (hn : k < n) (hk : k < 10) (h1 : ¬ (0 < k ∧ nth l k = 0)) (h2 : ¬ (k = 9 ∧ 1 < nth l k)) : rvV l n = valK l (k + 1) ∧ rvN l n = k + 1 ∧ rvE l n = 0 := by
  have hf : rvForm l n = false := by
    unfold rvForm; rw [h]
    refine decide_eq_false ?_
    rintro (h3 | ⟨_, h3 | ⟨h3, h4⟩⟩)
    · omega
    · exact h1 h3
    · subst h3; exact h2 ⟨rfl, h4⟩
  have he : rvE l n = 0 := by unfold rvE; rw [h, hf]; simp; omega
  refine ⟨?_, ?_, he⟩
  · unfold rvV; rw [if_pos he, h]
  · unfold rvN; rw [if_pos he, h]
theorem valK_bd (l : List Int) : ∀ k, 0 ≤ valK l k ∧ valK l k < 2 ^ (7 * k)
  | 0 => by simp [valK]
  | k + 1 => by
    have ih := valK_bd l k
    have e : (2 : Int) ^ (7 * (k + 1)) = 2 ^ (7 * k) * 128 := by rw [Nat.mul_add, Int.pow_add]; rfl
    have hp1 : (1 : Int) ≤ 2 ^ (7 * k) := by exact_mod_cast Nat.one_le_two_pow
    have h0 : 0 ≤ nth l k % 128 * 2 ^ (7 * k) := Int.mul_nonneg (by omega) (by omega)
    have h1 : nth l k % 128 * 2 ^ (7 * k) ≤ 127 * 2 ^ (7 * k) := Int.mul_le_mul_of_nonneg_right (by omega) (by omega)
    unfold valK; rw [e]; omega
theorem valFrom_snoc (l : List Int) : ∀ (n i : Nat), valFrom l i (n + 1) = valFrom l i n + nth l (i + n) % 128 * 2 ^ (7 * n)
  | 0, i => by simp [valFrom]
  | n + 1, i => by
    have ih := valFrom_snoc l n (i + 1)
    have e : (2 : Int) ^ (7 * (n + 1)) = 128 * 2 ^ (7 * n) := by rw [Nat.mul_add, Int.pow_add, Int.mul_comm]; rfl
    rw [valFrom, ih, valFrom, e, show i + 1 + n = i + (n + 1) by omega, Int.mul_add, Int.add_assoc, Int.mul_left_comm]
theorem valFrom_zero (l : List Int) : ∀ n, valFrom l 0 n = valK l n
  | 0 => rfl
  | n + 1 => by rw [valFrom_snoc, valFrom_zero l n, valK, Nat.zero_add]
theorem valFrom_bd (l : List Int) : ∀ (n i : Nat), 0 ≤ valFrom l i n ∧ valFrom l i n < 2 ^ (7 * n)
  | 0, i => by simp [valFrom]
  | n + 1, i => by
    have ih := valFrom_bd l n (i + 1)
    have e : (2 : Int) ^ (7 * (n + 1)) = 128 * 2 ^ (7 * n) := by rw [Nat.mul_add, Int.pow_add, Int.mul_comm]; rfl
    unfold valFrom; rw [e]; omega
theorem valFrom_top (l : List Int) : ∀ (n i : Nat), nth l (i + n) % 128 ≤ 1 → valFrom l i (n + 1) < 2 ^ (7 * n + 1)
  | 0, i, h => by simp [valFrom] at *; omega
  | n + 1, i, h => by
    have ih := valFrom_top l n (i + 1) (by rw [show i + 1 + n = i + (n + 1) by omega]; exact h)
    have e : (2 : Int) ^ (7 * (n + 1) + 1) = 128 * 2 ^ (7 * n + 1) := by rw [show 7 * (n + 1) + 1 = 7 * n + 1 + 7 by omega, Int.pow_add, Int.mul_comm]; rfl
    rw [valFrom, e]; omega
theorem u8_and_127 (x : Int) (h1 : 0 ≤ x) (h2 : x ≤ 255) : bits .and .u8 x 127 = x % 128 := by
  obtain ⟨a, rfl⟩ := Int.eq_ofNat_of_zero_le h1
  rw [u8_and _ 127 h1 (by omega) (by omega) (by omega), Int.toNat_natCast, show (127 : Int).toNat = 2 ^ 7 - 1 from rfl, Nat.and_two_pow_sub_one_eq_mod]
  omega
theorem u8_and_128 (x : Int) (h1 : 0 ≤ x) (h2 : x ≤ 255) : bits .and .u8 x 128 = if 128 ≤ x then 128 else 0 := by
  obtain ⟨a, rfl⟩ := Int.eq_ofNat_of_zero_le h1
  rw [u8_and _ 128 h1 (by omega) (by omega) (by omega), Int.toNat_natCast, show (128 : Int).toNat = 128 from rfl]
  have : ∀ y : Fin 256, (y.val &&& 128) = if 128 ≤ y.val then 128 else 0 := by decide +kernel
  have := this ⟨a, by omega⟩
  simp only at this
  rw [this]
  split <;> split <;> omega
theorem val_step (l : List Int) (k : Nat) (hk : k ≤ 9) (h9 : k = 9 → nth l k ≤ 1) (h0 : 0 ≤ nth l k) :
    bits BinOp.or IntKind.u64 (valK l k) (IntKind.u64.wrap (nth l k % 128 * 2 ^ (7 * k))) = valK l (k + 1) := by
  have hf := valK_bd l k
  have hp1 : (1 : Int) ≤ 2 ^ (7 * k) := by exact_mod_cast Nat.one_le_two_pow
  have h1 : 0 ≤ nth l k % 128 * 2 ^ (7 * k) := Int.mul_nonneg (by omega) (by omega)
  have h2 : nth l k % 128 * 2 ^ (7 * k) ≤ 9223372036854775808 := by
    by_cases h : k = 9
    · subst h; have := h9 rfl; omega
    · have hp := pow_le_of (show 7 * k ≤ 56 by omega)
      have : nth l k % 128 * 2 ^ (7 * k) ≤ 127 * 2 ^ (7 * k) := Int.mul_le_mul_of_nonneg_right (by omega) (by omega)
      omega
  have hp := pow_le_of (show 7 * k ≤ 63 by omega)
  have e : bits .or .u64 (valK l k) (nth l k % 128 * 2 ^ (7 * k)) = bits .or .u64 (nth l k % 128 * 2 ^ (7 * k)) (valK l k) := by
    unfold bits; simp only; rw [BitVec.or_comm]
  rw [IntWalk.u64_in _ (by omega), e, u64_join _ _ (7 * k) h1 (by omega) hf.1 (by omega) (by simp) hf.2, valK]
  omega

set_option maxRecDepth 100000 in
set_option maxHeartbeats 400000 in
theorem readvar_any (a : Option Addr) (n c : Nat) (l : List Int) (w : World) (h : RdAt .u8 w a n c l) :
    Calls Try.prog 31 #[.slice a n c] w fun e w' => e = .returned (.tuple #[.int .u64 (rvV l n), .int .i64 (rvN l n), .int .i64 (rvE l n)]) ∧ w = w' := by
  have hmax := h.max
  have hcap := h.cap
  unfold maxLen at hmax
  go_enter Try.func31, Try.ntmps31
  go_wp2
  go_loop [5, 10] (fun x i => ∃ k : Nat, k ≤ n ∧ k ≤ 9 ∧ i = .int .i64 k ∧ x = .int .u64 (valK l k) ∧ ∀ j, j < k → j < n ∧ 128 ≤ nth l j) (fun _ i => n - (intOf i).toNat)
  case atStart => exact ⟨0, by omega, by omega, rfl, rfl, fun j hj => by omega⟩
  case round =>
    obtain ⟨k, hk, hk9, rfl, rfl, hall⟩ := hrel
    have HALL := Lib.hid hall
    clear hall
    by_cases hp : k < n
    · obtain ⟨b, o, rfl, hc⟩ := h.cell k hp
      have hb := h.byte k hp
      have hb1 := hb.1
      have hb2 := hb.2
      have h127 := u8_and_127 _ hb1 hb2
      clear hb
      by_cases hgo : 128 ≤ nth l k
      · have h128 : bits .and .u8 (nth l k) 128 = 128 := by rw [u8_and_128 _ hb1 hb2, if_pos hgo]
        by_cases h9 : k = 9
        · subst h9
          have hr := Lib.hid (rv_ten (lead_ten (l := l) (n := n) (fun j hj => by by_cases e : j = 9; (subst e; exact ⟨hp, hgo⟩); exact HALL.out j (by omega))))
          go_wp2
          go_ret3
          rw [hr.out.1, hr.out.2.1, hr.out.2.2]
          exact ⟨rfl, rfl⟩
        · have hs := Lib.hid (val_step l k hk9 (fun e => absurd e h9) hb1)
          have k9 : ((k : Int) == 9) = false := by simp; omega
          have k10 : ((k : Int) == 10) = false := by simp; omega
          go_wp2
          go_round
          case rel => exact ⟨k + 1, by omega, by omega, by go_num, by rw [hs.out], fun j hj => by by_cases e : j = k; (subst e; exact ⟨hp, hgo⟩); exact HALL.out j (by omega)⟩
          case measure => simp [intOf] <;> omega
      · have h128 : bits .and .u8 (nth l k) 128 = 0 := by rw [u8_and_128 _ hb1 hb2, if_neg hgo]
        have hl : lead l n = k := lead_at (by omega) HALL.out (by omega)
        have HL := Lib.hid hl
        clear hl
        have k10 : ((k : Int) == 10) = false := by simp; omega
        by_cases hz : 0 < k ∧ nth l k = 0
        · have hr := Lib.hid (rv_form HL.out hp (Or.inl hz))
          obtain ⟨hz1, hz2⟩ := hz
          have hz3 : (nth l k == 0) = true := by simp [hz2]
          have hz4 : nth l k ≤ 0 := by omega
          clear hz2
          go_wp2
          all_goals
            go_ret3
            rw [hr.out.1, hr.out.2.1, hr.out.2.2]
            exact ⟨rfl, rfl⟩
        · by_cases h9 : k = 9 ∧ 1 < nth l k
          · have hr := Lib.hid (rv_form HL.out hp (Or.inr h9))
            obtain ⟨h91, h92⟩ := h9
            have k9 : ((k : Int) == 9) = true := by simp; omega
            have k9' : (k : Int) ≤ 9 := by omega
            have k9'' : 9 ≤ (k : Int) := by omega
            clear h91
            go_wp2
            go_ret3
            rw [hr.out.1, hr.out.2.1, hr.out.2.2]
            exact ⟨rfl, rfl⟩
          · have hr := Lib.hid (rv_ok HL.out hp (by omega) hz h9)
            have hs := Lib.hid (val_step l k hk9 (fun e => by omega) hb1)
            by_cases hk0 : k = 0
            · have hk1 : (k : Int) ≤ 0 := by omega
              have k9 : ((k : Int) == 9) = false := by simp; omega
              clear hk0 hz h9
              by_cases hz3 : (nth l k == 0) = true
              all_goals
                try simp only [Bool.not_eq_true] at hz3
                go_wp2
                go_ret3
                rw [hr.out.1, hr.out.2.1, hr.out.2.2, ← hs.out]
                exact ⟨rfl, rfl⟩
            · have hz3 : (nth l k == 0) = false := by simp; omega
              by_cases k9 : k = 9
              · have h91 : nth l k ≤ 1 := by omega
                have k9a : ((k : Int) == 9) = true := by simp; omega
                clear hz h9 k9
                go_wp2
                go_ret3
                rw [hr.out.1, hr.out.2.1, hr.out.2.2, ← hs.out]
                exact ⟨rfl, rfl⟩
              · have k9' : ((k : Int) == 9) = false := by simp; omega
                clear hz h9
                go_wp2
                go_ret3
                rw [hr.out.1, hr.out.2.1, hr.out.2.2, ← hs.out]
                exact ⟨rfl, rfl⟩
    · obtain rfl : k = n := by omega
      have hr := Lib.hid (rv_short (l := l) (n := k) (lead_at (by omega) HALL.out (by omega)) (by omega))
      go_wp2
      go_ret3
      rw [hr.out.1, hr.out.2.1, hr.out.2.2]
      exact ⟨rfl, rfl⟩
end Go.Proofs.Ytfoabnoolmeoiaa
