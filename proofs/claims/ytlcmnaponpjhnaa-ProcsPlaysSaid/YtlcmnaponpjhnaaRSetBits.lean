/- The reference's set of numbers: contracts of Bits and Of; procs.Of. -/
import Derived.Test.YtlcmnaponpjhnaaRSet
namespace Go.Proofs.Ytlcmnaponpjhnaa
open Go.RowKit
/-- No number from n on is in it. -/
def lowB (v : BitVec 64) (n : Nat) : Prop := ∀ i, n ≤ i → v.getLsbD i = false
theorem lowB_lt {v : BitVec 64} {n : Nat} (h : lowB v n) : v.toNat < 2 ^ n :=
  Nat.lt_pow_two_of_testBit _ fun i hi => by have := h i hi; rw [BitVec.getLsbD] at this; exact this
theorem lowB_zero (n : Nat) : lowB 0#64 n := fun i _ => by simp
theorem lowB_put {v : BitVec 64} {n k : Nat} (h : lowB v n) (hk : k < n) : lowB (v ||| qbit k) n := fun i hi => by
  by_cases h64 : i < 64
  · rw [put_get _ _ _ h64, h i hi, decide_eq_false (by omega)]; rfl
  · rw [BitVec.getLsbD_of_ge _ _ (by omega)]
theorem lowB_drop {v : BitVec 64} {n k : Nat} (h : lowB v n) : lowB (v &&& ~~~ qbit k) n := fun i hi => by
  rw [BitVec.getLsbD_and, h i hi]; rfl
theorem bits_step (v : BitVec 64) (j : Nat) : 2 * (qnum v / 2 ^ (j + 1)) + (if v.getLsbD j = true then 1 else 0) = qnum v / 2 ^ j := by
  unfold qnum
  have h1 : (v.toNat : Int) / 2 ^ j = ((v.toNat / 2 ^ j : Nat) : Int) := by simp
  have h2 : (v.toNat : Int) / 2 ^ (j + 1) = ((v.toNat / 2 ^ j / 2 : Nat) : Int) := by rw [Nat.div_div_eq_div_mul, ← Nat.pow_succ]; simp
  have h3 : v.getLsbD j = decide (v.toNat / 2 ^ j % 2 = 1) := by rw [BitVec.getLsbD, Nat.testBit_eq_decide_div_mod_eq]
  rw [h1, h2, h3]
  by_cases hb : v.toNat / 2 ^ j % 2 = 1
  · rw [decide_eq_true hb, if_pos rfl]; omega
  · rw [decide_eq_false hb, if_neg (by decide)]; omega
theorem rbits_any (g h n : Nat) (v : BitVec 64) (w : World) (r : RSetAt w g h n v) (hn : n ≤ 64) (hv : lowB v n) :
    Calls Try.prog 20 #[.pointer (some ⟨g, 0, none⟩)] w fun e w' => e = .returned (.int .u64 (qnum v)) ∧ w = w' := by
  have c0 := r.head
  have R := Lib.hid r
  have hz : qnum v / 2 ^ n = 0 := by unfold qnum; have := lowB_lt hv; exact Int.ediv_eq_zero_of_lt (by omega) (by exact_mod_cast this)
  have HZ := Lib.hid hz
  have hq1 := qnum_bd v
  clear r hz
  go_enter Try.func20, Try.ntmps20
  go_wp2
  go_loop [3, 4] (fun x i => ∃ k : Nat, k ≤ n ∧ i = .int .i64 ((k : Int) - 1) ∧ x = .int .u64 (qnum v / 2 ^ k)) (fun _ i => (intOf i + 1).toNat)
  case atStart => exact ⟨n, by omega, rfl, by rw [HZ.out]⟩
  case round =>
    obtain ⟨k, hk, rfl, rfl⟩ := hrel
    cases k with
    | zero =>
      have h0 : (2 : Int) ^ 0 = 1 := rfl
      rw [h0, Int.ediv_one]
      go_wp2
      go_ret
      exact ⟨rfl, rfl⟩
    | succ j =>
      have hs := bits_step v j
      have hy0 : 0 ≤ qnum v / 2 ^ (j + 1) := Int.ediv_nonneg hq1.1 (Int.le_of_lt (Int.pow_pos (by decide)))
      have hle : qnum v / 2 ^ j ≤ qnum v := Int.ediv_le_self _ hq1.1
      obtain ⟨y, hy⟩ : ∃ y, qnum v / 2 ^ (j + 1) = y := ⟨_, rfl⟩
      rw [hy] at hs hy0 ⊢
      have e1 : ((j + 1 : Nat) : Int) - 1 = j := by omega
      rw [e1]
      have c1 := R.out.bit (i := j) (by omega)
      clear hy e1
      by_cases hb : v.getLsbD j = true
      · rw [hb] at c1
        rw [if_pos hb] at hs
        have hb1 : 2 * y + 1 ≤ 18446744073709551615 := by omega
        have HS := Lib.hid hs
        clear hb hs hle
        go_wp2
        go_round
        case rel => exact ⟨j, by omega, rfl, by rw [← HS.out]⟩
        case measure => simp [intOf] <;> omega
      · rw [if_neg hb] at hs
        rw [Bool.not_eq_true] at hb
        rw [hb] at c1
        have hb1 : 2 * y ≤ 18446744073709551615 := by omega
        have HS := Lib.hid hs
        clear hb hs hle
        go_wp2
        go_round
        case rel => exact ⟨j, by omega, rfl, by rw [← HS.out, Int.add_zero]⟩
        case measure => simp [intOf] <;> omega
/-- What a row of numbers, taken first, makes: none where one may not be. -/
def ofL (n : Int) : BitVec 64 → List Int → Option (BitVec 64)
  | v, [] => some v
  | v, p :: r => if 0 ≤ p ∧ p < n ∧ v.getLsbD p.toNat = false then ofL n (v ||| qbit p.toNat) r else none
end Go.Proofs.Ytlcmnaponpjhnaa
