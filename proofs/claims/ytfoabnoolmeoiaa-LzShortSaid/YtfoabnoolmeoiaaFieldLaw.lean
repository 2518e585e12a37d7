/- Plain laws on bits of bytes: Field, Get. No program in sight. -/
import Derived.Test.YtfoabnoolmeoiaaMem
namespace Go.Proofs.Ytfoabnoolmeoiaa
open Go.RowKit

def bitAt (l : List Int) (j : Nat) : Int := nth l (j / 8) / 2 ^ (j % 8) % 2
def fieldK (l : List Int) (p : Nat) : Nat → Int
  | 0 => 0
  | k + 1 => fieldK l p k + bitAt l (p + k) * 2 ^ k
def getK (l : List Int) : Nat → Int
  | 0 => 0
  | k + 1 => getK l k + nth l k * 2 ^ (8 * k)

theorem bitAt_bd (l : List Int) (j : Nat) : 0 ≤ bitAt l j ∧ bitAt l j ≤ 1 := by
  unfold bitAt
  have h0 : 0 ≤ nth l (j / 8) / 2 ^ (j % 8) % 2 := Int.emod_nonneg _ (by omega)
  have h1 : nth l (j / 8) / 2 ^ (j % 8) % 2 < 2 := Int.emod_lt_of_pos _ (by omega)
  omega
theorem fieldK_bd (l : List Int) (p : Nat) : ∀ k, 0 ≤ fieldK l p k ∧ fieldK l p k < 2 ^ k
  | 0 => by simp [fieldK]
  | k + 1 => by
    have ih := fieldK_bd l p k
    have hb := bitAt_bd l (p + k)
    have e : (2 : Int) ^ (k + 1) = 2 ^ k * 2 := Int.pow_succ _ _
    unfold fieldK
    rcases (by omega : bitAt l (p + k) = 0 ∨ bitAt l (p + k) = 1) with h | h <;> rw [h, e] <;> omega
theorem fieldK_low (l : List Int) : ∀ (k p : Nat), fieldK l p (k + 1) = bitAt l p + 2 * fieldK l (p + 1) k
  | 0, p => by simp [fieldK]
  | k + 1, p => by
    have ih := fieldK_low l k p
    have e : (2 : Int) ^ (k + 1) = 2 * 2 ^ k := by rw [Int.pow_succ]; omega
    rw [fieldK, ih, fieldK, e, show p + 1 + k = p + (k + 1) by omega, Int.mul_add, Int.add_assoc, Int.mul_left_comm]
theorem fieldK_split (l : List Int) (p n : Nat) : ∀ m, fieldK l p (n + m) = fieldK l p n + fieldK l (p + n) m * 2 ^ n
  | 0 => by simp [fieldK]
  | m + 1 => by
    have ih := fieldK_split l p n m
    rw [← Nat.add_assoc, fieldK, ih, fieldK, Int.add_mul, Int.add_assoc, Int.pow_add, Nat.add_assoc, Int.mul_assoc, Int.mul_comm (2 ^ n)]
theorem field_one (x : Int) (k : Nat) (h1 : 0 ≤ x) (h2 : x ≤ 1) (hk : k ≤ 63) : IntKind.u64.wrap (x * 2 ^ k) = x * 2 ^ k := by
  have hp := pow_le_of hk
  have hp1 : (1 : Int) ≤ 2 ^ k := by exact_mod_cast Nat.one_le_two_pow
  refine IntWalk.u64_in _ ?_
  rcases (by omega : x = 0 ∨ x = 1) with h | h <;> rw [h] <;> omega
theorem field_go (l : List Int) (p k : Nat) (hk : k ≤ 63) :
    bits .or .u64 (fieldK l p k) (bitAt l (p + k) * 2 ^ k) = fieldK l p (k + 1) := by
  have hb := bitAt_bd l (p + k)
  have hf := fieldK_bd l p k
  have hp := pow_le_of hk
  have hp1 : (1 : Int) ≤ 2 ^ k := by exact_mod_cast Nat.one_le_two_pow
  rw [fieldK]
  have e : bits .or .u64 (fieldK l p k) (bitAt l (p + k) * 2 ^ k) = bits .or .u64 (bitAt l (p + k) * 2 ^ k) (fieldK l p k) := by
    unfold bits; simp only; rw [BitVec.or_comm]
  have hx : 0 ≤ bitAt l (p + k) * 2 ^ k ∧ bitAt l (p + k) * 2 ^ k ≤ 2 ^ k := by
    rcases (by omega : bitAt l (p + k) = 0 ∨ bitAt l (p + k) = 1) with h | h <;> rw [h] <;> omega
  rw [e, u64_join _ _ k hx.1 (by omega) hf.1 (by omega) (by simp) hf.2]
  omega
theorem byte_bit (x : Int) (i : Nat) (h1 : 0 ≤ x) (h2 : x ≤ 255) : bits .and .u8 (x / 2 ^ i) 1 = x / 2 ^ i % 2 := by
  have hd := div_bd x i h1
  rw [u8_and _ 1 hd.1 (by omega) (by omega) (by omega), show (1 : Int).toNat = 1 from rfl, Nat.and_one_is_mod]; omega
theorem i64_and_7 (x : Int) (h1 : 0 ≤ x) (h2 : x ≤ 9223372036854775807) : bits .and .i64 x 7 = x % 8 := by
  obtain ⟨a, rfl⟩ := Int.eq_ofNat_of_zero_le h1
  have h := bits_nat .i64 63 (by decide) (fun n h0 h1 => IntWalk.i64_in n (by omega)) a 7 (by omega) (by omega)
  have h' := h.1
  rw [show ((7 : Nat) : Int) = 7 from rfl] at h'
  rw [h', show (7 : Nat) = 2 ^ 3 - 1 from rfl, Nat.and_two_pow_sub_one_eq_mod]
  omega
theorem getK_bd (l : List Int) : ∀ k, (∀ i, i < k → 0 ≤ nth l i ∧ nth l i ≤ 255) → 0 ≤ getK l k ∧ getK l k < 2 ^ (8 * k)
  | 0, _ => by simp [getK]
  | k + 1, h => by
    have ih := getK_bd l k (fun i hi => h i (by omega))
    have hb := h k (by omega)
    have e : (2 : Int) ^ (8 * (k + 1)) = 2 ^ (8 * k) * 256 := by rw [Nat.mul_add, Int.pow_add]; rfl
    have hp1 : (1 : Int) ≤ 2 ^ (8 * k) := by exact_mod_cast Nat.one_le_two_pow
    have h0 : 0 ≤ nth l k * 2 ^ (8 * k) := Int.mul_nonneg hb.1 (by omega)
    have h1 : nth l k * 2 ^ (8 * k) ≤ 255 * 2 ^ (8 * k) := Int.mul_le_mul_of_nonneg_right hb.2 (by omega)
    unfold getK; rw [e]; omega
theorem get_wrap (x : Int) (k : Nat) (h1 : 0 ≤ x) (h2 : x ≤ 255) (hk : k ≤ 7) : IntKind.u64.wrap (x * 2 ^ (8 * k)) = x * 2 ^ (8 * k) := by
  have hp := pow_le_of (show 8 * k ≤ 56 by omega)
  have hp1 : (1 : Int) ≤ 2 ^ (8 * k) := by exact_mod_cast Nat.one_le_two_pow
  have h0 : 0 ≤ x * 2 ^ (8 * k) := Int.mul_nonneg h1 (by omega)
  have h3 : x * 2 ^ (8 * k) ≤ 255 * 2 ^ (8 * k) := Int.mul_le_mul_of_nonneg_right h2 (by omega)
  exact IntWalk.u64_in _ (by omega)
theorem get_go (l : List Int) (k : Nat) (hk : k ≤ 7) (h : ∀ i, i ≤ k → 0 ≤ nth l i ∧ nth l i ≤ 255) :
    bits .or .u64 (getK l k) (IntKind.u64.wrap (nth l k * 2 ^ (8 * k))) = getK l (k + 1) := by
  have hb := h k (by omega)
  have hf := getK_bd l k (fun i hi => h i (by omega))
  have hg := getK_bd l (k + 1) (fun i hi => h i (by omega))
  have hp := pow_le_of (show 8 * (k + 1) ≤ 64 by omega)
  have hp1 : (1 : Int) ≤ 2 ^ (8 * k) := by exact_mod_cast Nat.one_le_two_pow
  have h0 : 0 ≤ nth l k * 2 ^ (8 * k) := Int.mul_nonneg hb.1 (by omega)
  have e : bits .or .u64 (getK l k) (nth l k * 2 ^ (8 * k)) = bits .or .u64 (nth l k * 2 ^ (8 * k)) (getK l k) := by
    unfold bits; simp only; rw [BitVec.or_comm]
  unfold getK at hg
  rw [get_wrap _ _ hb.1 hb.2 hk, e, u64_join _ _ (8 * k) h0 (by omega) hf.1 (by omega) (by simp) hf.2]
  show _ = getK l k + nth l k * 2 ^ (8 * k)
  omega
/-- The bytes from i on, n of them, as a number. -/
def getFrom (l : List Int) (i : Nat) : Nat → Int
  | 0 => 0
  | n + 1 => nth l i + 256 * getFrom l (i + 1) n
theorem getFrom_snoc (l : List Int) : ∀ (n i : Nat), getFrom l i (n + 1) = getFrom l i n + nth l (i + n) * 2 ^ (8 * n)
  | 0, i => by simp [getFrom]
  | n + 1, i => by
    have ih := getFrom_snoc l n (i + 1)
    have e : (2 : Int) ^ (8 * (n + 1)) = 256 * 2 ^ (8 * n) := by rw [Nat.mul_add, Int.pow_add, Int.mul_comm]; rfl
    rw [getFrom, ih, getFrom, e, show i + 1 + n = i + (n + 1) by omega, Int.mul_add, Int.add_assoc, Int.mul_left_comm]
theorem getFrom_zero (l : List Int) : ∀ n, getFrom l 0 n = getK l n
  | 0 => rfl
  | n + 1 => by rw [getFrom_snoc, getFrom_zero l n, getK, Nat.zero_add]
theorem byte_field (l : List Int) (i : Nat) (h : 0 ≤ nth l i ∧ nth l i ≤ 255) : fieldK l (8 * i) 8 = nth l i := by
  have b (j : Nat) (hj : j < 8) : bitAt l (8 * i + j) = nth l i / 2 ^ j % 2 := by
    unfold bitAt; rw [show (8 * i + j) / 8 = i by omega, show (8 * i + j) % 8 = j by omega]
  simp only [fieldK, b 0 (by omega), b 1 (by omega), b 2 (by omega), b 3 (by omega), b 4 (by omega), b 5 (by omega), b 6 (by omega), b 7 (by omega)]
  obtain ⟨h1, h2⟩ := h
  generalize nth l i = x at *
  simp only [Int.pow_zero, Int.reducePow, Int.ediv_one, Int.mul_one]
  omega
theorem field_get (l : List Int) : ∀ n, (∀ i, i < n → 0 ≤ nth l i ∧ nth l i ≤ 255) → fieldK l 0 (8 * n) = getK l n
  | 0, _ => rfl
  | n + 1, h => by
    rw [Nat.mul_add, fieldK_split, field_get l n (fun i hi => h i (by omega)), Nat.zero_add]
    show _ + fieldK l (8 * n) 8 * _ = _
    rw [byte_field l n (h n (by omega)), getK]
theorem field_step (l : List Int) (p k : Nat) (hk : k ≤ 63) (h1 : 0 ≤ nth l ((p + k) / 8)) (h2 : nth l ((p + k) / 8) ≤ 255) :
    bits BinOp.or IntKind.u64 (fieldK l p k) (IntKind.u64.wrap (IntKind.u64.wrap (bits BinOp.and IntKind.u8 (nth l ((p + k) / 8) / 2 ^ ((p + k) % 8)) 1) * 2 ^ k)) = fieldK l p (k + 1) := by
  have hb := bitAt_bd l (p + k)
  rw [byte_bit _ _ h1 h2]
  show bits BinOp.or IntKind.u64 (fieldK l p k) (IntKind.u64.wrap (IntKind.u64.wrap (bitAt l (p + k)) * 2 ^ k)) = _
  rw [IntWalk.u64_in (bitAt l (p + k)) (by omega), field_one _ _ hb.1 hb.2 hk, field_go l p k hk]
theorem rfield_step (l : List Int) (p k m : Nat) (h1 : 0 ≤ nth l ((p + k) / 8)) (h2 : nth l ((p + k) / 8) ≤ 255) :
    2 * fieldK l (p + (k + 1)) m + bits BinOp.and IntKind.u8 (nth l ((p + k) / 8) / 2 ^ ((p + k) % 8)) 1 = fieldK l (p + k) (m + 1) := by
  rw [byte_bit _ _ h1 h2, fieldK_low, Int.add_comm]; rfl
theorem getFrom_bd (l : List Int) : ∀ (n i : Nat), (∀ j, j < i + n → 0 ≤ nth l j ∧ nth l j ≤ 255) → 0 ≤ getFrom l i n ∧ getFrom l i n < 2 ^ (8 * n)
  | 0, i, _ => by simp [getFrom]
  | n + 1, i, h => by
    have ih := getFrom_bd l n (i + 1) (fun j hj => h j (by omega))
    have hb := h i (by omega)
    have e : (2 : Int) ^ (8 * (n + 1)) = 256 * 2 ^ (8 * n) := by rw [Nat.mul_add, Int.pow_add, Int.mul_comm]; rfl
    unfold getFrom; rw [e]; omega
end Go.Proofs.Ytfoabnoolmeoiaa
