/- Numbers that are taken, as a row of 64 bits: plain laws. No program in sight. -/
import Derived.Test.YtlcmnaponpjhnaaMem
namespace Go.Proofs.Ytlcmnaponpjhnaa
open Go.RowKit
def qnum (b : BitVec 64) : Int := (b.toNat : Int)
theorem qnum_bd (b : BitVec 64) : 0 ≤ qnum b ∧ qnum b ≤ 18446744073709551615 := by unfold qnum; have := b.isLt; omega
theorem ofInt_qnum (a : BitVec 64) : BitVec.ofInt 64 (qnum a) = a := by unfold qnum; rw [BitVec.ofInt_natCast, BitVec.ofNat_toNat]; simp
theorem wrap_qnum (b : BitVec 64) : IntKind.u64.wrap (b.toNat : Int) = qnum b := by rw [IntKind.wrap_u64]; unfold qnum; have := b.isLt; omega
theorem q_and (x y : Int) : bits .and .u64 x y = qnum (BitVec.ofInt 64 x &&& BitVec.ofInt 64 y) := wrap_qnum _
theorem q_or (x y : Int) : bits .or .u64 x y = qnum (BitVec.ofInt 64 x ||| BitVec.ofInt 64 y) := wrap_qnum _
theorem q_andNot (x y : Int) : bits .andNot .u64 x y = qnum (BitVec.ofInt 64 x &&& ~~~ BitVec.ofInt 64 y) := wrap_qnum _
theorem q_shr (a : BitVec 64) (k : Nat) : qnum a / 2 ^ k = qnum (a >>> k) := by
  unfold qnum; rw [BitVec.toNat_ushiftRight, Nat.shiftRight_eq_div_pow]; simp
def qbit (k : Nat) : BitVec 64 := 1#64 <<< k
theorem qbit_get (k i : Nat) (hi : i < 64) : (qbit k).getLsbD i = decide (i = k) := by
  unfold qbit
  rw [BitVec.getLsbD_shiftLeft, BitVec.getLsbD_one]
  by_cases h : i = k
  · subst h; simp [hi]
  · rw [decide_eq_false h]
    by_cases h2 : i < k
    · simp [h2]
    · rw [decide_eq_false (by omega : ¬ i - k = 0)]; simp
theorem qbit_num (k : Nat) (h : k < 64) : (2 : Int) ^ k = qnum (qbit k) := by
  unfold qnum qbit
  rw [BitVec.toNat_shiftLeft, Nat.shiftLeft_eq]
  have : 2 ^ k < 2 ^ 64 := Nat.pow_lt_pow_right (by decide) h
  simp only [BitVec.toNat_ofNat]
  rw [Nat.mod_eq_of_lt (by omega : 1 < 2 ^ 64), Nat.one_mul, Nat.mod_eq_of_lt this]
  simp
theorem q_and_one (r : BitVec 64) : r &&& 1#64 = if r.getLsbD 0 then 1#64 else 0#64 := by
  apply BitVec.eq_of_getLsbD_eq
  intro i hi
  rw [BitVec.getLsbD_and, BitVec.getLsbD_one]
  by_cases h : r.getLsbD 0 = true
  · rw [if_pos h, BitVec.getLsbD_one]
    cases i with
    | zero => rw [h]; rfl
    | succ i => simp
  · rw [if_neg h]
    cases i with
    | zero => rw [Bool.not_eq_true] at h; rw [h]; rfl
    | succ i => simp
theorem q_test (v : BitVec 64) (k : Nat) : bits .and .u64 (qnum v / 2 ^ k) 1 = if v.getLsbD k = true then 1 else 0 := by
  rw [q_and, q_shr, ofInt_qnum, show BitVec.ofInt 64 1 = 1#64 from rfl, q_and_one, BitVec.getLsbD_ushiftRight, Nat.add_zero]
  by_cases h : v.getLsbD k = true
  · rw [if_pos h, if_pos h]; rfl
  · rw [if_neg h, if_neg h]; rfl
theorem q_put (v : BitVec 64) (k : Nat) (h : k < 64) : bits .or .u64 (qnum v) (2 ^ k) = qnum (v ||| qbit k) := by
  rw [q_or, qbit_num k h, ofInt_qnum, ofInt_qnum]
theorem q_drop (v : BitVec 64) (k : Nat) (h : k < 64) : bits .andNot .u64 (qnum v) (2 ^ k) = qnum (v &&& ~~~ qbit k) := by
  rw [q_andNot, qbit_num k h, ofInt_qnum, ofInt_qnum]
theorem put_get (v : BitVec 64) (k i : Nat) (hi : i < 64) : (v ||| qbit k).getLsbD i = (v.getLsbD i || decide (i = k)) := by
  rw [BitVec.getLsbD_or, qbit_get k i hi]
theorem drop_get (v : BitVec 64) (k i : Nat) (hi : i < 64) : (v &&& ~~~ qbit k).getLsbD i = (v.getLsbD i && !decide (i = k)) := by
  rw [BitVec.getLsbD_and, BitVec.getLsbD_not, qbit_get k i hi, decide_eq_true hi, Bool.true_and]
theorem wrap_pow (k : Nat) (h : k < 64) : IntKind.u64.wrap (2 ^ k) = 2 ^ k := by
  rw [qbit_num k h]
  have := qnum_bd (qbit k)
  rw [IntKind.wrap_u64]
  omega
theorem q_put' (v : BitVec 64) (k : Nat) (h : k < 64) : bits .or .u64 (qnum v) (IntKind.u64.wrap (2 ^ k)) = qnum (v ||| qbit k) := by rw [wrap_pow k h, q_put v k h]
theorem q_drop' (v : BitVec 64) (k : Nat) (h : k < 64) : bits .andNot .u64 (qnum v) (IntKind.u64.wrap (2 ^ k)) = qnum (v &&& ~~~ qbit k) := by rw [wrap_pow k h, q_drop v k h]
def hasB (n : Int) (v : BitVec 64) (p : Int) : Bool := decide (0 ≤ p) && (decide (p < n) && v.getLsbD p.toNat)
/-- The least number below n that is not taken; n: there is none. -/
def firstF (v : BitVec 64) : Nat → Nat
  | 0 => 0
  | m + 1 => if firstF v m < m then firstF v m else if v.getLsbD m = true then m + 1 else m
theorem firstF_le (v : BitVec 64) : ∀ m, firstF v m ≤ m
  | 0 => Nat.le_refl _
  | m + 1 => by
    rw [firstF]
    split
    · omega
    · split <;> omega
theorem firstF_below (v : BitVec 64) : ∀ m j, j < firstF v m → v.getLsbD j = true
  | 0, j, h => by simp [firstF] at h
  | m + 1, j, h => by
    have hl := firstF_le v m
    rw [firstF] at h
    by_cases h1 : firstF v m < m
    · rw [if_pos h1] at h; exact firstF_below v m j h
    · rw [if_neg h1] at h
      by_cases h2 : v.getLsbD m = true
      · rw [if_pos h2] at h
        by_cases e : j = m
        · rw [e]; exact h2
        · exact firstF_below v m j (by omega)
      · rw [if_neg h2] at h
        exact firstF_below v m j (by omega)
theorem firstF_at (v : BitVec 64) : ∀ m, firstF v m < m → v.getLsbD (firstF v m) = false
  | 0, h => by simp [firstF] at h
  | m + 1, h => by
    rw [firstF] at h ⊢
    by_cases h1 : firstF v m < m
    · rw [if_pos h1]; exact firstF_at v m h1
    · rw [if_neg h1] at h ⊢
      by_cases h2 : v.getLsbD m = true
      · rw [if_pos h2] at h; omega
      · rw [if_neg h2]; simpa using h2
theorem firstF_eq {v : BitVec 64} {n k : Nat} (hk : k ≤ n) (hb : ∀ j, j < k → v.getLsbD j = true) (ha : k < n → v.getLsbD k = false) : firstF v n = k := by
  have h1 := firstF_le v n
  by_cases h : firstF v n < k
  · have := firstF_at v n (by omega)
    rw [hb _ h] at this
    cases this
  · by_cases h2 : k < firstF v n
    · have := firstF_below v n k h2
      rw [ha (by omega)] at this
      cases this
    · omega
/-- All that are taken, rising. -/
def pidsK (v : BitVec 64) : Nat → List Int
  | 0 => []
  | k + 1 => if v.getLsbD k = true then pidsK v k ++ [(k : Int)] else pidsK v k
theorem pidsK_le (v : BitVec 64) : ∀ k, (pidsK v k).length ≤ k
  | 0 => Nat.le_refl _
  | k + 1 => by
    have := pidsK_le v k
    rw [pidsK]
    split
    · simp; omega
    · omega
theorem pidsK_all {v : BitVec 64} : ∀ k, (∀ j, j < k → v.getLsbD j = true) → (pidsK v k).length = k
  | 0, _ => rfl
  | k + 1, h => by
    rw [pidsK, if_pos (h k (by omega)), List.length_append, pidsK_all k (fun j hj => h j (by omega))]; rfl
/-- The first n are taken. -/
def lowN : Nat → BitVec 64
  | 0 => 0#64
  | n + 1 => lowN n ||| qbit n
theorem lowN_get (i : Nat) (hi : i < 64) : ∀ n, (lowN n).getLsbD i = decide (i < n)
  | 0 => by simp [lowN]
  | n + 1 => by
    rw [lowN, put_get _ _ _ hi, lowN_get i hi n]
    by_cases h : i < n
    · rw [decide_eq_true h, decide_eq_true (by omega : i < n + 1)]; rfl
    · by_cases e : i = n
      · subst e; simp
      · rw [decide_eq_false h, decide_eq_false e, decide_eq_false (by omega : ¬ i < n + 1)]; rfl
theorem put_drop {v : BitVec 64} {k : Nat} (h : v.getLsbD k = false) : (v ||| qbit k) &&& ~~~ qbit k = v := by
  apply BitVec.eq_of_getLsbD_eq
  intro i hi
  rw [drop_get _ _ _ hi, put_get _ _ _ hi]
  by_cases e : i = k
  · subst e; rw [h]; simp
  · rw [decide_eq_false e]; simp
end Go.Proofs.Ytlcmnaponpjhnaa
