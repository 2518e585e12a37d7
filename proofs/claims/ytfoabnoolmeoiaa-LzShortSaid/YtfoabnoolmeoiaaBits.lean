/- Plain laws on numbers: what Zig, Zag, Log, Turn come to. No program in sight. -/
import Derived.WalkKit
import Derived.Lib.Hide
namespace Go.Proofs.Ytfoabnoolmeoiaa
open Go.RowKit

theorem ret_int {k : IntKind} {a b : Int} (h : a = b) : Ending.returned (.int k a) = .returned (.int k b) := by rw [h]
theorem ret_bool {a b : Bool} (h : a = b) : Ending.returned (.bool a) = .returned (.bool b) := by rw [h]

theorem wrap_i64' (n : Int) : IntKind.i64.wrap n = wrap64 n := IntWalk.i64_left n
theorem wrap_u64' (n : Int) : IntKind.u64.wrap n = n % 18446744073709551616 := IntKind.wrap_u64 n

def zigI (v : Int) : Int := if v < 0 then 2 * -(v + 1) + 1 else 2 * v
def zagI (u : Int) : Int := if u % 2 = 1 then -(u / 2) - 1 else u / 2

theorem zag_zig (v : Int) : zagI (zigI v) = v := by unfold zagI zigI; split <;> split <;> omega
theorem zig_zag (u : Int) (h : 0 ≤ u) : zigI (zagI u) = u := by unfold zagI zigI; split <;> split <;> omega
theorem zigI_bd (v : Int) (h1 : -9223372036854775808 ≤ v) (h2 : v ≤ 9223372036854775807) : 0 ≤ zigI v ∧ zigI v ≤ 18446744073709551615 := by
  unfold zigI; split <;> omega
theorem zagI_bd (v : Int) (h1 : 0 ≤ v) (h2 : v ≤ 18446744073709551615) : -9223372036854775808 ≤ zagI v ∧ zagI v ≤ 9223372036854775807 := by
  unfold zagI; split <;> omega

theorem ofInt64_toNat (x : Int) : ((BitVec.ofInt 64 x).toNat : Int) = x % 18446744073709551616 := by
  rw [BitVec.toNat_ofInt]; have : (0:Int) ≤ x % 18446744073709551616 := Int.emod_nonneg _ (by omega)
  omega

theorem xor_ones64 (x : BitVec 64) : x ^^^ BitVec.ofInt 64 (-1) = ~~~ x := by
  rw [show BitVec.ofInt 64 (-1) = BitVec.allOnes 64 from by decide, BitVec.xor_allOnes]

theorem u64_xor_ones (x : Int) (h1 : 0 ≤ x) (h2 : x ≤ 18446744073709551615) : bits .xor .u64 x 18446744073709551615 = 18446744073709551615 - x := by
  show IntKind.u64.wrap ((BitVec.ofInt 64 x ^^^ BitVec.ofInt 64 18446744073709551615).toNat : Int) = _
  rw [show BitVec.ofInt 64 18446744073709551615 = BitVec.allOnes 64 from by decide, BitVec.xor_allOnes, BitVec.toNat_not, IntKind.wrap_u64]
  have := ofInt64_toNat x
  omega
theorem u64_xor_zero (x : Int) (h1 : 0 ≤ x) (h2 : x ≤ 18446744073709551615) : bits .xor .u64 x 0 = x := by
  show IntKind.u64.wrap ((BitVec.ofInt 64 x ^^^ BitVec.ofInt 64 0).toNat : Int) = _
  rw [show BitVec.ofInt 64 0 = 0#64 from by decide, BitVec.xor_zero, IntKind.wrap_u64]
  have := ofInt64_toNat x
  omega
theorem i64_xor_ones (x : Int) (h1 : 0 ≤ x) (h2 : x ≤ 9223372036854775807) : bits .xor .i64 x (-1) = -x - 1 := by
  show IntKind.i64.wrap ((BitVec.ofInt 64 x ^^^ BitVec.ofInt 64 (-1)).toNat : Int) = _
  rw [xor_ones64, BitVec.toNat_not, IntKind.wrap_i64]
  have := ofInt64_toNat x
  omega
theorem i64_xor_zero (x : Int) (h1 : 0 ≤ x) (h2 : x ≤ 9223372036854775807) : bits .xor .i64 x 0 = x := by
  show IntKind.i64.wrap ((BitVec.ofInt 64 x ^^^ BitVec.ofInt 64 0).toNat : Int) = _
  rw [show BitVec.ofInt 64 0 = 0#64 from by decide, BitVec.xor_zero, IntKind.wrap_i64]
  have := ofInt64_toNat x
  omega
theorem u64_and_one (x : Int) (h1 : 0 ≤ x) (h2 : x ≤ 18446744073709551615) : bits .and .u64 x 1 = x % 2 := by
  rw [u64_and x 1 h1 (by omega) (by omega) (by omega)]
  rw [show (1 : Int).toNat = 1 from rfl, Nat.and_one_is_mod]; omega

theorem zig_go (v : Int) (h1 : -9223372036854775808 ≤ v) (h2 : v ≤ 9223372036854775807) :
    bits BinOp.xor IntKind.u64 (IntKind.u64.wrap (IntKind.u64.wrap v * 2)) (IntKind.u64.wrap (v / 9223372036854775808)) = zigI v := by
  unfold zigI
  split
  · have e1 : IntKind.u64.wrap (v / 9223372036854775808) = 18446744073709551615 := by rw [IntKind.wrap_u64]; omega
    have e2 : IntKind.u64.wrap (IntKind.u64.wrap v * 2) = 2 * v + 18446744073709551616 := by rw [IntKind.wrap_u64, IntKind.wrap_u64]; omega
    rw [e1, e2, u64_xor_ones _ (by omega) (by omega)]; omega
  · have e1 : IntKind.u64.wrap (v / 9223372036854775808) = 0 := by rw [IntKind.wrap_u64]; omega
    have e2 : IntKind.u64.wrap (IntKind.u64.wrap v * 2) = 2 * v := by rw [IntKind.wrap_u64, IntKind.wrap_u64]; omega
    rw [e1, e2, u64_xor_zero _ (by omega) (by omega)]
theorem zag_go (v : Int) (h1 : 0 ≤ v) (h2 : v ≤ 18446744073709551615) :
    bits BinOp.xor IntKind.i64 (v / 2) (wrap64 (-wrap64 (bits BinOp.and IntKind.u64 v 1))) = zagI v := by
  rw [u64_and_one v h1 h2]; unfold zagI
  split
  · rename_i h; rw [h, show wrap64 (-wrap64 1) = -1 from by unfold wrap64; decide, i64_xor_ones _ (by omega) (by omega)]
  · have h : v % 2 = 0 := by omega
    rw [h, show wrap64 (-wrap64 0) = 0 from by unfold wrap64; decide, i64_xor_zero _ (by omega) (by omega)]

/-- How many bits a number has (at most f). -/
def logF : Nat → Int → Int
  | 0, _ => 0
  | f + 1, v => if 0 < v then logF f (v / 2) + 1 else 0
theorem logF_bd (f : Nat) : ∀ v, 0 ≤ logF f v ∧ logF f v ≤ f := by
  induction f with
  | zero => intro v; simp [logF]
  | succ f ih => intro v; have := ih (v / 2); unfold logF; split <;> omega
theorem logF_step (f : Nat) (v : Int) (h : 0 < v) : logF (f + 1) v = logF f (v / 2) + 1 := by rw [logF, if_pos h]
theorem logF_nil (f : Nat) (v : Int) (h : v ≤ 0) : logF f v = 0 := by cases f with | zero => rfl | succ f => rw [logF, if_neg (by omega)]

/-- The bytes of v, the first k turned. -/
def turnK (v : Int) : Nat → Int
  | 0 => 0
  | k + 1 => turnK v k * 256 + v / 2 ^ (8 * k) % 256
theorem turnK_bd (v : Int) (k : Nat) : 0 ≤ turnK v k ∧ turnK v k < 2 ^ (8 * k) := by
  induction k with
  | zero => simp [turnK]
  | succ k ih =>
    have e : (2 : Int) ^ (8 * (k + 1)) = 2 ^ (8 * k) * 256 := by rw [Nat.mul_add, Int.pow_add]; rfl
    have h0 : 0 ≤ v / 2 ^ (8 * k) % 256 := Int.emod_nonneg _ (by omega)
    have h1 : v / 2 ^ (8 * k) % 256 < 256 := Int.emod_lt_of_pos _ (by omega)
    unfold turnK; rw [e]; omega
theorem u64_and_mask (x : Int) (i : Nat) (hi : i ≤ 64) (h1 : 0 ≤ x) (h2 : x ≤ 18446744073709551615) : bits .and .u64 x (2 ^ i - 1) = x % 2 ^ i := by
  have hp : (2 : Int) ^ i ≤ 2 ^ 64 := by exact_mod_cast Nat.pow_le_pow_right (by decide) hi
  have hp1 : (1 : Int) ≤ 2 ^ i := by exact_mod_cast Nat.one_le_two_pow
  obtain ⟨a, rfl⟩ := Int.eq_ofNat_of_zero_le h1
  rw [u64_and _ _ h1 (by omega) (by omega) (by omega)]
  have e : ((2 : Int) ^ i - 1).toNat = 2 ^ i - 1 := by
    have : ((2 : Int) ^ i) = ((2 ^ i : Nat) : Int) := by simp
    omega
  rw [e, Int.toNat_natCast, Nat.and_two_pow_sub_one_eq_mod]
  simp
theorem u64_and_255 (x : Int) (h1 : 0 ≤ x) (h2 : x ≤ 18446744073709551615) : bits .and .u64 x 255 = x % 256 := u64_and_mask x 8 (by decide) h1 h2
theorem u64_join (x y : Int) (i : Nat) (h1 : 0 ≤ x) (h2 : x ≤ 18446744073709551615) (h3 : 0 ≤ y) (h4 : y ≤ 18446744073709551615) (hx : x % 2 ^ i = 0) (hy : y < 2 ^ i) :
    bits .or .u64 x y = x + y := by
  obtain ⟨a, rfl⟩ := Int.eq_ofNat_of_zero_le h1
  obtain ⟨b, rfl⟩ := Int.eq_ofNat_of_zero_le h3
  rw [u64_or _ _ h1 (by omega) h3 (by omega), Int.toNat_natCast, Int.toNat_natCast]
  rw [nat_join i a b (by exact_mod_cast hx) (by exact_mod_cast hy)]
  simp
theorem pow_le_of {a b : Nat} (h : a ≤ b) : (2 : Int) ^ a ≤ 2 ^ b := by exact_mod_cast Nat.pow_le_pow_right (by decide) h
theorem div_bd (v : Int) (n : Nat) (h1 : 0 ≤ v) : 0 ≤ v / 2 ^ n ∧ v / 2 ^ n ≤ v :=
  ⟨Int.ediv_nonneg h1 (Int.pow_nonneg (by decide)), Int.ediv_le_self _ h1⟩
theorem turnK_small (v : Int) (k : Nat) (hk : k < 8) : 0 ≤ turnK v k ∧ turnK v k ≤ 72057594037927935 := by
  have hb := turnK_bd v k
  have := pow_le_of (show 8 * k ≤ 56 by omega)
  omega
theorem turn_go (v : Int) (k : Nat) (hk : k < 8) (h1 : 0 ≤ v) (h2 : v ≤ 18446744073709551615) :
    bits BinOp.or IntKind.u64 (IntKind.u64.wrap (turnK v k * 256)) (bits BinOp.and IntKind.u64 (v / 2 ^ (8 * k)) 255) = turnK v (k + 1) := by
  have hb := turnK_small v k hk
  have hd := div_bd v (8 * k) h1
  rw [u64_and_255 _ hd.1 (by omega), IntWalk.u64_in _ (by omega), u64_join _ _ 8 (by omega) (by omega) (by omega) (by omega) (by omega) (by omega)]
  rfl
theorem turn_ref (v : Int) (k : Nat) : v / 2 ^ (8 * k) / 256 = v / 2 ^ (8 * (k + 1)) := by
  rw [Int.ediv_ediv_of_nonneg (Int.pow_nonneg (by decide)), show 8 * (k + 1) = 8 * k + 8 from rfl, Int.pow_add]; rfl
theorem dig (v : Int) (n m : Nat) (h : m = n + 8) : v / 2 ^ n = v / 2 ^ n % 256 + 256 * (v / 2 ^ m) := by
  subst h
  rw [Int.pow_add, ← Int.ediv_ediv_of_nonneg (Int.pow_nonneg (by decide)), show (2 : Int) ^ 8 = 256 from rfl]; omega
theorem turn_turn (v : Int) (h1 : 0 ≤ v) (h2 : v ≤ 18446744073709551615) : turnK (turnK v 8) 8 = v := by
  obtain ⟨b0, hb0⟩ : ∃ x, x = v % 256 := ⟨_, rfl⟩
  obtain ⟨b1, hb1⟩ : ∃ x, x = v / 2 ^ 8 % 256 := ⟨_, rfl⟩
  obtain ⟨b2, hb2⟩ : ∃ x, x = v / 2 ^ 16 % 256 := ⟨_, rfl⟩
  obtain ⟨b3, hb3⟩ : ∃ x, x = v / 2 ^ 24 % 256 := ⟨_, rfl⟩
  obtain ⟨b4, hb4⟩ : ∃ x, x = v / 2 ^ 32 % 256 := ⟨_, rfl⟩
  obtain ⟨b5, hb5⟩ : ∃ x, x = v / 2 ^ 40 % 256 := ⟨_, rfl⟩
  obtain ⟨b6, hb6⟩ : ∃ x, x = v / 2 ^ 48 % 256 := ⟨_, rfl⟩
  obtain ⟨b7, hb7⟩ : ∃ x, x = v / 2 ^ 56 % 256 := ⟨_, rfl⟩
  have hv : v = b0 + 256 * (b1 + 256 * (b2 + 256 * (b3 + 256 * (b4 + 256 * (b5 + 256 * (b6 + 256 * b7)))))) := by
    have s0 := dig v 0 8 rfl
    have s1 := dig v 8 16 rfl
    have s2 := dig v 16 24 rfl
    have s3 := dig v 24 32 rfl
    have s4 := dig v 32 40 rfl
    have s5 := dig v 40 48 rfl
    have s6 := dig v 48 56 rfl
    have s7 := dig v 56 64 rfl
    have s8 : v / 2 ^ 64 = 0 := Int.ediv_eq_zero_of_lt h1 (by omega)
    rw [Int.pow_zero, Int.ediv_one] at s0
    rw [← hb0] at s0; rw [← hb1] at s1; rw [← hb2] at s2; rw [← hb3] at s3; rw [← hb4] at s4; rw [← hb5] at s5; rw [← hb6] at s6; rw [← hb7, s8] at s7
    rw [s7] at s6; rw [s6] at s5; rw [s5] at s4; rw [s4] at s3; rw [s3] at s2; rw [s2] at s1; rw [s1] at s0
    clear hb0 hb1 hb2 hb3 hb4 hb5 hb6 hb7 s1 s2 s3 s4 s5 s6 s7 s8
    omega
  have e : turnK v 8 = b7 + 256 * (b6 + 256 * (b5 + 256 * (b4 + 256 * (b3 + 256 * (b2 + 256 * (b1 + 256 * b0)))))) := by
    simp only [turnK, Nat.mul_zero, Nat.mul_one, Nat.reduceMul, Int.pow_zero, Int.ediv_one, ← hb0, ← hb1, ← hb2, ← hb3, ← hb4, ← hb5, ← hb6, ← hb7]
    omega
  have q0 : 0 ≤ b0 ∧ b0 < 256 := by omega
  have q1 : 0 ≤ b1 ∧ b1 < 256 := by omega
  have q2 : 0 ≤ b2 ∧ b2 < 256 := by omega
  have q3 : 0 ≤ b3 ∧ b3 < 256 := by omega
  have q4 : 0 ≤ b4 ∧ b4 < 256 := by omega
  have q5 : 0 ≤ b5 ∧ b5 < 256 := by omega
  have q6 : 0 ≤ b6 ∧ b6 < 256 := by omega
  have q7 : 0 ≤ b7 ∧ b7 < 256 := by omega
  rw [e, hv]
  clear hb0 hb1 hb2 hb3 hb4 hb5 hb6 hb7 e hv h1 h2
  simp only [turnK, Nat.mul_zero, Nat.mul_one, Nat.reduceMul, Int.pow_zero, Int.ediv_one, Int.reducePow]
  omega
end Go.Proofs.Ytfoabnoolmeoiaa
