/- Contracts of ints.Zig, Zag and of the references'. Plain laws on bits of bytes: Field, Get. No program in sight. Contracts of ints.Var and of the reference's. The contracts of codec's Writer: NewWriter, Int, Done. The contract of codec's Writer's Bytes. An operation as bytes (Encode). -/
import Derived.Test.YtnbjodoajfkekaaGreatMj0
import Derived.Test.YtnbjodoajfkekaaGreatProg
import Derived.Test.YtnbjodoajfkekaaGreatMj1
import Derived.WalkKit
import Derived.ProofKit
import Derived.Lib.Hide
import Derived.Test.YtnbjodoajfkekaaGreatMj15
import Derived.Test.YtnbjodoajfkekaaGreatMj3
import Derived.Test.YtnbjodoajfkekaaGreatMj10
import Derived.Test.YtnbjodoajfkekaaGreatMj17
import Derived.Test.YtnbjodoajfkekaaGreatMj24
import Derived.BigQuiet
import Derived.Deep.QuietTactic
import Derived.RegionTactic
namespace Go.Proofs.YtnbjodoajfkekaaGreat
open Go.RowKit

set_option maxRecDepth 100000 in
theorem zig_any (v : Int) (w : World) (h1 : -9223372036854775808 ≤ v) (h2 : v ≤ 9223372036854775807) :
    Calls Tryz.prog 106 #[.int .i64 v] w fun e w' => e = .returned (.int .u64 (zigI v)) ∧ w = w' := by
  go_enter Tryz.func106, Tryz.ntmps106
  go_wp2
  go_ret
  exact ⟨ret_int (zig_go v h1 h2), rfl⟩
set_option maxRecDepth 100000 in
theorem zag_any (v : Int) (w : World) (h1 : 0 ≤ v) (h2 : v ≤ 18446744073709551615) :
    Calls Tryz.prog 119 #[.int .u64 v] w fun e w' => e = .returned (.int .i64 (zagI v)) ∧ w = w' := by
  go_enter Tryz.func119, Tryz.ntmps119
  go_wp2
  go_ret
  exact ⟨ret_int (zag_go v h1 h2), rfl⟩
end Go.Proofs.YtnbjodoajfkekaaGreat

namespace Go.Proofs.YtnbjodoajfkekaaGreat
open Go.RowKit

def bitAt (l : List Int) (j : Nat) : Int := nth l (j / 8) / 2 ^ (j % 8) % 2
def fieldK (l : List Int) (p : Nat) : Nat → Int
  | 0 => 0
  | k + 1 => fieldK l p k + bitAt l (p + k) * 2 ^ k
def getK (l : List Int) : Nat → Int
  | 0 => 0
  | k + 1 => getK l k + nth l k * 2 ^ (8 * k)

theorem bitAt_bd (l : List Int) (j : Nat) : 0 ≤ bitAt l j ∧ bitAt l j ≤ 1 := by
  unfold bitAt
  have h0 : 0 ≤ nth l (j / 8) / 2 ^ (j % 8) % 2 := Int.emod_nonneg _ (by omega)
  have h1 : nth l (j / 8) / 2 ^ (j % 8) % 2 < 2 := Int.emod_lt_of_pos _ (by omega)
  omega
theorem fieldK_bd (l : List Int) (p : Nat) : ∀ k, 0 ≤ fieldK l p k ∧ fieldK l p k < 2 ^ k
  | 0 => by simp [fieldK]
  | k + 1 => by
    have ih := fieldK_bd l p k
    have hb := bitAt_bd l (p + k)
    have e : (2 : Int) ^ (k + 1) = 2 ^ k * 2 := Int.pow_succ _ _
    unfold fieldK
    rcases (by omega : bitAt l (p + k) = 0 ∨ bitAt l (p + k) = 1) with h | h <;> rw [h, e] <;> omega
theorem fieldK_low (l : List Int) : ∀ (k p : Nat), fieldK l p (k + 1) = bitAt l p + 2 * fieldK l (p + 1) k
  | 0, p => by simp [fieldK]
  | k + 1, p => by
    have ih := fieldK_low l k p
    have e : (2 : Int) ^ (k + 1) = 2 * 2 ^ k := by rw [Int.pow_succ]; omega
    rw [fieldK, ih, fieldK, e, show p + 1 + k = p + (k + 1) by omega, Int.mul_add, Int.add_assoc, Int.mul_left_comm]
theorem fieldK_split (l : List Int) (p n : Nat) : ∀ m, fieldK l p (n + m) = fieldK l p n + fieldK l (p + n) m * 2 ^ n
  | 0 => by simp [fieldK]
  | m + 1 => by
    have ih := fieldK_split l p n m
    rw [← Nat.add_assoc, fieldK, ih, fieldK, Int.add_mul, Int.add_assoc, Int.pow_add, Nat.add_assoc, Int.mul_assoc, Int.mul_comm (2 ^ n)]
theorem field_one (x : Int) (k : Nat) (h1 : 0 ≤ x) (h2 : x ≤ 1) (hk : k ≤ 63) : IntKind.u64.wrap (x * 2 ^ k) = x * 2 ^ k := by
  have hp := pow_le_of hk
  have hp1 : (1 : Int) ≤ 2 ^ k := by exact_mod_cast Nat.one_le_two_pow
  refine IntWalk.u64_in _ ?_
  rcases (by omega : x = 0 ∨ x = 1) with h | h <;> rw [h] <;> omega
theorem field_go (l : List Int) (p k : Nat) (hk : k ≤ 63) :
    bits .or .u64 (fieldK l p k) (bitAt l (p + k) * 2 ^ k) = fieldK l p (k + 1) := by
  have hb := bitAt_bd l (p + k)
  have hf := fieldK_bd l p k
  have hp := pow_le_of hk
  have hp1 : (1 : Int) ≤ 2 ^ k := by exact_mod_cast Nat.one_le_two_pow
  rw [fieldK]
  have e : bits .or .u64 (fieldK l p k) (bitAt l (p + k) * 2 ^ k) = bits .or .u64 (bitAt l (p + k) * 2 ^ k) (fieldK l p k) := by
    unfold bits; simp only; rw [BitVec.or_comm]
  have hx : 0 ≤ bitAt l (p + k) * 2 ^ k ∧ bitAt l (p + k) * 2 ^ k ≤ 2 ^ k := by
    rcases (by omega : bitAt l (p + k) = 0 ∨ bitAt l (p + k) = 1) with h | h <;> rw [h] <;> omega
  rw [e, u64_join _ _ k hx.1 (by omega) hf.1 (by omega) (by simp) hf.2]
  omega
theorem byte_bit (x : Int) (i : Nat) (h1 : 0 ≤ x) (h2 : x ≤ 255) : bits .and .u8 (x / 2 ^ i) 1 = x / 2 ^ i % 2 := by
  have hd := div_bd x i h1
  rw [u8_and _ 1 hd.1 (by omega) (by omega) (by omega), show (1 : Int).toNat = 1 from rfl, Nat.and_one_is_mod]; omega
theorem i64_and_7 (x : Int) (h1 : 0 ≤ x) (h2 : x ≤ 9223372036854775807) : bits .and .i64 x 7 = x % 8 := by
  obtain ⟨a, rfl⟩ := Int.eq_ofNat_of_zero_le h1
  have h := bits_nat .i64 63 (by decide) (fun n h0 h1 => IntWalk.i64_in n (by omega)) a 7 (by omega) (by omega)
  have h' := h.1
  rw [show ((7 : Nat) : Int) = 7 from rfl] at h'
  rw [h', show (7 : Nat) = 2 ^ 3 - 1 from rfl, Nat.and_two_pow_sub_one_eq_mod]
  omega
theorem getK_bd (l : List Int) : ∀ k, (∀ i, i < k → 0 ≤ nth l i ∧ nth l i ≤ 255) → 0 ≤ getK l k ∧ getK l k < 2 ^ (8 * k)
  | 0, _ => by simp [getK]
  | k + 1, h => by
    have ih := getK_bd l k (fun i hi => h i (by omega))
    have hb := h k (by omega)
    have e : (2 : Int) ^ (8 * (k + 1)) = 2 ^ (8 * k) * 256 := by rw [Nat.mul_add, Int.pow_add]; rfl
    have hp1 : (1 : Int) ≤ 2 ^ (8 * k) := by exact_mod_cast Nat.one_le_two_pow
    have h0 : 0 ≤ nth l k * 2 ^ (8 * k) := Int.mul_nonneg hb.1 (by omega)
    have h1 : nth l k * 2 ^ (8 * k) ≤ 255 * 2 ^ (8 * k) := Int.mul_le_mul_of_nonneg_right hb.2 (by omega)
    unfold getK; rw [e]; omega
theorem get_wrap (x : Int) (k : Nat) (h1 : 0 ≤ x) (h2 : x ≤ 255) (hk : k ≤ 7) : IntKind.u64.wrap (x * 2 ^ (8 * k)) = x * 2 ^ (8 * k) := by
  have hp := pow_le_of (show 8 * k ≤ 56 by omega)
  have hp1 : (1 : Int) ≤ 2 ^ (8 * k) := by exact_mod_cast Nat.one_le_two_pow
  have h0 : 0 ≤ x * 2 ^ (8 * k) := Int.mul_nonneg h1 (by omega)
  have h3 : x * 2 ^ (8 * k) ≤ 255 * 2 ^ (8 * k) := Int.mul_le_mul_of_nonneg_right h2 (by omega)
  exact IntWalk.u64_in _ (by omega)
theorem get_go (l : List Int) (k : Nat) (hk : k ≤ 7) (h : ∀ i, i ≤ k → 0 ≤ nth l i ∧ nth l i ≤ 255) :
    bits .or .u64 (getK l k) (IntKind.u64.wrap (nth l k * 2 ^ (8 * k))) = getK l (k + 1) := by
  have hb := h k (by omega)
  have hf := getK_bd l k (fun i hi => h i (by omega))
  have hg := getK_bd l (k + 1) (fun i hi => h i (by omega))
  have hp := pow_le_of (show 8 * (k + 1) ≤ 64 by omega)
  have hp1 : (1 : Int) ≤ 2 ^ (8 * k) := by exact_mod_cast Nat.one_le_two_pow
  have h0 : 0 ≤ nth l k * 2 ^ (8 * k) := Int.mul_nonneg hb.1 (by omega)
  have e : bits .or .u64 (getK l k) (nth l k * 2 ^ (8 * k)) = bits .or .u64 (nth l k * 2 ^ (8 * k)) (getK l k) := by
    unfold bits; simp only; rw [BitVec.or_comm]
  unfold getK at hg
  rw [get_wrap _ _ hb.1 hb.2 hk, e, u64_join _ _ (8 * k) h0 (by omega) hf.1 (by omega) (by simp) hf.2]
  show _ = getK l k + nth l k * 2 ^ (8 * k)
  omega
/-- The bytes from i on, n of them, as a number. -/
def getFrom (l : List Int) (i : Nat) : Nat → Int
  | 0 => 0
  | n + 1 => nth l i + 256 * getFrom l (i + 1) n
theorem getFrom_snoc (l : List Int) : ∀ (n i : Nat), getFrom l i (n + 1) = getFrom l i n + nth l (i + n) * 2 ^ (8 * n)
  | 0, i => by simp [getFrom]
  | n + 1, i => by
    have ih := getFrom_snoc l n (i + 1)
    have e : (2 : Int) ^ (8 * (n + 1)) = 256 * 2 ^ (8 * n) := by rw [Nat.mul_add, Int.pow_add, Int.mul_comm]; rfl
    rw [getFrom, ih, getFrom, e, show i + 1 + n = i + (n + 1) by omega, Int.mul_add, Int.add_assoc, Int.mul_left_comm]
theorem getFrom_zero (l : List Int) : ∀ n, getFrom l 0 n = getK l n
  | 0 => rfl
  | n + 1 => by rw [getFrom_snoc, getFrom_zero l n, getK, Nat.zero_add]
theorem byte_field (l : List Int) (i : Nat) (h : 0 ≤ nth l i ∧ nth l i ≤ 255) : fieldK l (8 * i) 8 = nth l i := by
  have b (j : Nat) (hj : j < 8) : bitAt l (8 * i + j) = nth l i / 2 ^ j % 2 := by
    unfold bitAt; rw [show (8 * i + j) / 8 = i by omega, show (8 * i + j) % 8 = j by omega]
  simp only [fieldK, b 0 (by omega), b 1 (by omega), b 2 (by omega), b 3 (by omega), b 4 (by omega), b 5 (by omega), b 6 (by omega), b 7 (by omega)]
  obtain ⟨h1, h2⟩ := h
  generalize nth l i = x at *
  simp only [Int.pow_zero, Int.reducePow, Int.ediv_one, Int.mul_one]
  omega
theorem field_get (l : List Int) : ∀ n, (∀ i, i < n → 0 ≤ nth l i ∧ nth l i ≤ 255) → fieldK l 0 (8 * n) = getK l n
  | 0, _ => rfl
  | n + 1, h => by
    rw [Nat.mul_add, fieldK_split, field_get l n (fun i hi => h i (by omega)), Nat.zero_add]
    show _ + fieldK l (8 * n) 8 * _ = _
    rw [byte_field l n (h n (by omega)), getK]
theorem field_step (l : List Int) (p k : Nat) (hk : k ≤ 63) (h1 : 0 ≤ nth l ((p + k) / 8)) (h2 : nth l ((p + k) / 8) ≤ 255) :
    bits BinOp.or IntKind.u64 (fieldK l p k) (IntKind.u64.wrap (IntKind.u64.wrap (bits BinOp.and IntKind.u8 (nth l ((p + k) / 8) / 2 ^ ((p + k) % 8)) 1) * 2 ^ k)) = fieldK l p (k + 1) := by
  have hb := bitAt_bd l (p + k)
  rw [byte_bit _ _ h1 h2]
  show bits BinOp.or IntKind.u64 (fieldK l p k) (IntKind.u64.wrap (IntKind.u64.wrap (bitAt l (p + k)) * 2 ^ k)) = _
  rw [IntWalk.u64_in (bitAt l (p + k)) (by omega), field_one _ _ hb.1 hb.2 hk, field_go l p k hk]
theorem rfield_step (l : List Int) (p k m : Nat) (h1 : 0 ≤ nth l ((p + k) / 8)) (h2 : nth l ((p + k) / 8) ≤ 255) :
    2 * fieldK l (p + (k + 1)) m + bits BinOp.and IntKind.u8 (nth l ((p + k) / 8) / 2 ^ ((p + k) % 8)) 1 = fieldK l (p + k) (m + 1) := by
  rw [byte_bit _ _ h1 h2, fieldK_low, Int.add_comm]; rfl
theorem getFrom_bd (l : List Int) : ∀ (n i : Nat), (∀ j, j < i + n → 0 ≤ nth l j ∧ nth l j ≤ 255) → 0 ≤ getFrom l i n ∧ getFrom l i n < 2 ^ (8 * n)
  | 0, i, _ => by simp [getFrom]
  | n + 1, i, h => by
    have ih := getFrom_bd l n (i + 1) (fun j hj => h j (by omega))
    have hb := h i (by omega)
    have e : (2 : Int) ^ (8 * (n + 1)) = 256 * 2 ^ (8 * n) := by rw [Nat.mul_add, Int.pow_add, Int.mul_comm]; rfl
    unfold getFrom; rw [e]; omega
end Go.Proofs.YtnbjodoajfkekaaGreat

namespace Go.Proofs.YtnbjodoajfkekaaGreat
open Go.RowKit

/-- v in sevens, the least first; at most f + 1 bytes. -/
def varF : Nat → Int → List Int
  | 0, v => [v]
  | f + 1, v => if 128 ≤ v then (v % 128 + 128) :: varF f (v / 128) else [v]
theorem varF_len : ∀ (f : Nat) (v : Int), 1 ≤ (varF f v).length ∧ (varF f v).length ≤ f + 1
  | 0, v => by simp [varF]
  | f + 1, v => by
    have := varF_len f (v / 128)
    unfold varF; split <;> simp <;> omega
theorem varF_step (f : Nat) (v : Int) (h : 128 ≤ v) : varF (f + 1) v = (v % 128 + 128) :: varF f (v / 128) := by rw [varF, if_pos h]
theorem varF_last (f : Nat) (v : Int) (h : v < 128) : varF f v = [v] := by cases f with | zero => rfl | succ f => rw [varF, if_neg (by omega)]
theorem u8_or_128 (x : Int) (h1 : 0 ≤ x) (h2 : x ≤ 255) : bits .or .u8 x 128 = x % 128 + 128 := by
  obtain ⟨a, rfl⟩ := Int.eq_ofNat_of_zero_le h1
  rw [u8_or _ 128 h1 (by omega) (by omega) (by omega), Int.toNat_natCast, show (128 : Int).toNat = 128 from rfl]
  have : ∀ y : Fin 256, (y.val ||| 128) = y.val % 128 + 128 := by decide +kernel
  have := this ⟨a, by omega⟩
  simp only at this
  omega
theorem u8_or_128' (y : Int) : bits .or .u8 (y % 256) 128 = y % 128 + 128 := by rw [u8_or_128 _ (by omega) (by omega)]; omega
theorem wf_128 (y : Int) : (Lit.int .u8 (y % 128 + 128)).wf = true := WalkArith.wf_u8 (by omega)

set_option maxRecDepth 100000 in
theorem var_any (a : Option Addr) (n c : Nat) (l : List Int) (v : Int) (w : World) (h : RdAt .u8 w a n c l) (hn : n ≤ 1000000000)
    (v1 : 0 ≤ v) (v2 : v ≤ 18446744073709551615) :
    Calls Tryz.prog 105 #[.slice a n c, .int .u64 v] w fun e w' => ∃ r, e = .returned r ∧ Owns .u8 5 w' w.heap.size r (l ++ varF 9 v) ∧ Below w.heap.size w w' := by
  have hlen := h.len
  go_enter Tryz.func105, Tryz.ntmps105
  go_wp2_with (at_builtin; refine app_all u8T u8I (by decide) rfl _ _ rfl _ w.heap.size _ [] rfl (Owns.empty _ _ _ _ _ _) _ _ _ l rfl (h.below ((Below.refl _ _).alloc (Nat.le_refl _) _)) (by simp; omega) (by simp) ?_; intro x1 w1 ho1 hg0)
  have hb1 := hg0.fromEmpty
  clear hg0
  go_loopw [1, 5] (fun y x wr => ∃ (q : Int) (f : Nat) (acc : List Int), f ≤ 9 ∧ acc.length + f = n + 9 ∧ 0 ≤ q ∧ q ≤ 18446744073709551615 ∧ q < 2 ^ (7 * f + 7) ∧ y = .int .u64 q ∧ Owns .u8 5 wr w.heap.size x acc ∧ Below w.heap.size w wr ∧ Hid (acc ++ varF f q = l ++ varF 9 v)) (fun y _ _ => (intOf y).toNat)
  case atStart => exact ⟨v, 9, l, by omega, by omega, v1, v2, by omega, rfl, by simpa using ho1, hb1, rfl⟩
  case round =>
    obtain ⟨q, f, acc, hf, hacc, hq0, hq1, hq2, rfl, ho, hb, hl⟩ := hrel
    have hsz := hb.size
    have HA := Lib.hid hacc
    have HL := Lib.hid hlen
    clear hlen hacc ho1 hb1
    by_cases hp : 128 ≤ q
    · cases f with
      | zero => exfalso; simp at hq2; omega
      | succ f =>
        have hq3 : q / 128 < 2 ^ (7 * f + 7) := by rw [show 7 * (f + 1) + 7 = 7 * f + 7 + 7 by omega, Int.pow_add] at hq2; omega
        have ho128 := u8_or_128' q
        clear hq2
        go_wp2_with (at_builtin; refine app_one u8T u8I (by decide) rfl _ _ rfl _ w.heap.size _ acc rfl ho _ rfl ?_ (by have := HA.out; omega) hsz ?_; exact wf_128 _; intro x2 w2 ho2 hb2)
        go_roundw
        case rel => exact ⟨q / 128, f, _, by omega, by have := HA.out; simp; omega, by omega, by omega, hq3, rfl, ho2, hb.trans (hb2.below hsz (fun g hg => (ho.at_base g hg).1)), by have := hl.out; rw [varF_step f q hp] at this; show _ = _; simpa using this⟩
        case measure => simp [intOf] <;> omega
    · go_wp2_with (at_builtin; refine app_one u8T u8I (by decide) rfl _ _ rfl _ w.heap.size _ acc rfl ho _ rfl ?_ (by have := HA.out; omega) hsz ?_; exact WalkArith.wf_u8 (by omega); intro x2 w2 ho2 hb2)
      go_ret
      exact ⟨_, rfl, by have := hl.out; rw [varF_last f q (by omega)] at this; rw [← this]; exact ho2, hb.trans (hb2.below hsz (fun g hg => (ho.at_base g hg).1))⟩

end Go.Proofs.YtnbjodoajfkekaaGreat

namespace Go.Proofs.YtnbjodoajfkekaaGreat
open Go.RowKit
set_option linter.unusedSimpArgs false in
set_option linter.unusedVariables false in
set_option maxRecDepth 100000 in
set_option maxHeartbeats 1000000 in
theorem wint_any (h : Nat) (v : Value) (l : List Int) (x : Int) (w : World) (ho : VarAt .u8 167 5 w h v l) (hl : l.length ≤ 1000000) (x1 : -9223372036854775808 ≤ x) (x2 : x ≤ 9223372036854775807) :
    Calls Tryz.prog 70 #[.pointer (some ⟨h, 0, none⟩), .int .i64 x] w fun e w' => e = .returned (.pointer (some ⟨h, 0, none⟩)) ∧ (∃ v', VarAt .u8 167 5 w' h v' (l ++ varF 9 (zigI x)) ∧ NewRoom w v v') ∧ Spared h (room v) w w' := by
  have hrow := ho.row
  have hlt : h < w.heap.size := ho.lt
  have hrv : room v ≠ some h := room_ne ho.own
  have hrg : ∀ q, room v = some q → h ≤ q := fun q hq => by have := (ho.own.at_base q hq).1; omega
  have hrl : ∀ q, room v = some q → q < w.heap.size := fun q hq => (ho.own.at_base q hq).2
  obtain ⟨w0, hw0⟩ : ∃ w0 : World, w0 = w := ⟨_, rfl⟩
  have hz := zigI_bd x x1 x2
  have hvl := (varF_len 9 (zigI x)).2
  replace hrow : w.drew.heap[h]? = some (.cells #[v] 167 (0, 0)) := hrow
  have hout : VarAt .u8 167 5 w.drew h v l := ⟨hrow, ho.own⟩
  have hB0 : Spared h (room v) w0 w.drew := by rw [hw0]; exact ⟨rfl, rfl, rfl, Nat.le_refl _, fun _ _ _ _ => rfl⟩
  have hsz0 : w0.heap.size = w.heap.size := by rw [hw0]
  have hlt0 : h ≤ w0.heap.size := by omega
  have hsz1 : w0.heap.size ≤ w.drew.heap.size := Nat.le_of_eq hsz0
  go_enter Tryz.func70, Tryz.ntmps70
  go_wp2_with fail
  refine' reg_order [eqV _, eqV _, eqV _, eqV _, eqV _, eqV _, eqV _, (fun v' w => Owns .u8 5 w w0.heap.size v' (varF 9 (zigI x))), (fun v' w => Owns .u8 5 w (h + 1) v' (l ++ varF 9 (zigI x)) ∧ NewRoom w0 v v'), eqV _, eqV _, (fun _ w => ∃ v', VarAt .u8 167 5 w h v' (l ++ varF 9 (zigI x)) ∧ NewRoom w0 v v')] [(8, fun w w' => World.grownBy w w' (room v)), (11, fun w w' => World.grownBy w w' (some h))] [(7, fun w => w0.heap.size ≤ w.heap.size), (4, fun w => w.heap[h]? = some (.cells #[v] 167 (0, 0))), (8, fun w => VarAt .u8 167 5 w h v l ∧ w0.heap.size ≤ w.heap.size), (11, fun w => w.heap[h]? = some (.cells #[v] 167 (0, 0))), (12, fun w => Spared h (room v) w0 w)] [5, 6, 7, 8, 9, 10, 11, 12, 13, 14, 15, 28] [[], [], [1], [2], [3], [], [5], [6], [4, 7], [0], [9], [8, 10]] [0, 1, 2, 3, 4, 5, 6, 7, 8, 9, 10, 11] 12 (by kernel_rfl) ⟨eqV_stays _, eqV_stays _, eqV_stays _, eqV_stays _, eqV_stays _, eqV_stays _, eqV_stays _, fun _ _ _ p b => Owns.below p b, fun _ _ _ p b => ⟨Owns.below p.1 b, p.2⟩, eqV_stays _, eqV_stays _, fun _ _ _ ⟨y, p, q⟩ b => ⟨y, p.below b, q⟩, trivial⟩ ⟨⟨.inl (eqV_stays _), .inl (eqV_stays _), .inl (eqV_stays _), .inl (eqV_stays _), .inl (eqV_stays _), .inl (eqV_stays _), .inl (eqV_stays _), .inl (fun _ _ _ p g => Owns.grown p g (fun b hb e => by have h1 := (Owns.at_base p b hb).1; have h2 := hrl b e.symm; omega)), .inr (.inr rfl), .inl (eqV_stays _), .inl (eqV_stays _), .inr (.inl (by kernel_rfl)), trivial⟩, ⟨.inl (eqV_stays _), .inl (eqV_stays _), .inl (eqV_stays _), .inl (eqV_stays _), .inl (eqV_stays _), .inl (eqV_stays _), .inl (eqV_stays _), .inl (fun _ _ _ p g => Owns.grown p g (fun b hb e => by have h1 := (Owns.at_base p b hb).1; injection e with e; omega)), .inl (fun _ _ _ p g => ⟨Owns.grown p.1 g (fun b hb e => room_ne p.1 (by rw [hb, e])), p.2⟩), .inl (eqV_stays _), .inl (eqV_stays _), .inr (.inr rfl), trivial⟩, trivial⟩ ⟨fun _ _ p b => Nat.le_trans p b.size, fun _ _ p b => row_keep p b, fun _ _ p b => ⟨p.1.below b, Nat.le_trans p.2 b.size⟩, fun _ _ p b => row_keep p b, fun _ _ p b => p.kept b, trivial⟩ ⟨⟨.inr (.inl (by kernel_rfl)), .inr (.inl (by kernel_rfl)), .inr (.inr rfl), .inl (fun _ _ p g => grown_row p g hrv), .inl (fun _ _ p g => p.row g), trivial⟩, ⟨.inr (.inl (by kernel_rfl)), .inr (.inl (by kernel_rfl)), .inr (.inl (by kernel_rfl)), .inr (.inr rfl), .inl (fun _ _ p g => p.at g), trivial⟩, trivial⟩ ⟨hsz1, hrow, ⟨hout, hsz1⟩, hrow, hB0, trivial⟩ 17 rfl (by kernel_rfl) (by kernel_rfl) rfl rfl 12 rfl ?q1obl ?q1fin
  case q1obl =>
    refine And.intro ?q1o0 (And.intro ?q1o1 (And.intro ?q1o2 (And.intro ?q1o3 (And.intro ?q1o4 (And.intro ?q1o5 (And.intro ?q1o6 (And.intro ?q1o7 (And.intro ?q1o8 (And.intro ?q1o9 (And.intro ?q1o10 (And.intro ?q1o11 (True.intro))))))))))))
    case q1o0 =>
      intro w1 hI
      refine turn2_on (by rfl) ?_
      intro K hK
      go_simp
      refine hK _ _ ⟨rfl, Kept.refl _, ?_⟩
      show _ = _
      simp only [gv1]
      rfl
    case q1o1 =>
      intro w1 hI
      refine turn2_on (by rfl) ?_
      intro K hK
      go_simp
      refine hK _ _ ⟨rfl, Kept.refl _, ?_⟩
      show _ = _
      simp only [gv1]
      rfl
    case q1o2 =>
      intro w1 hI
      intro v1 h1
      change _ = _ at h1
      subst v1
      refine turn2_on (by rfl) ?_
      intro K hK
      simp only [gv2]
      go_simp
      refine hK _ _ ⟨rfl, Kept.refl _, ?_⟩
      show _ = _
      simp only [gv1]
      rfl
    case q1o3 =>
      intro w1 hI
      intro v2 h2
      change _ = _ at h2
      subst v2
      refine turn2_on (by rfl) ?_
      intro K hK
      simp only [gv2]
      go_simp
      refine hK _ _ ⟨rfl, Kept.refl _, ?_⟩
      show _ = _
      simp only [gv1]
      rfl
    case q1o4 =>
      intro w1 hI
      replace hI : (fun w => w.heap[h]? = some (.cells #[v] 167 (0, 0))) w1 := hI
      intro v3 h3
      change _ = _ at h3
      subst v3
      refine turn2_on (by rfl) ?_
      intro K hK
      simp only [gv2]
      obtain ⟨c0, cf⟩ := row_cell hI
      go_simp
      refine hK _ _ ⟨rfl, Kept.refl _, ?_⟩
      show _ = _
      simp only [gv1]
      rfl
    case q1o5 =>
      intro w1 hI
      refine turn2_on (by rfl) ?_
      intro K hK
      go_simp
      refine hK _ _ ⟨rfl, Kept.refl _, ?_⟩
      show _ = _
      simp only [gv1]
      rfl
    case q1o6 =>
      intro w1 hI
      intro v5 h5
      change _ = _ at h5
      subst v5
      refine turn2_on (by rfl) ?_
      intro K hK
      simp only [gv2]
      go_simp
      refine Calls.mono (zig_any _ _ x1 x2) ?_
      rintro e w2 ⟨rfl, rfl⟩
      refine hK _ _ ⟨rfl, Kept.refl _, ?_⟩
      show _ = _
      simp only [gv1]
      rfl
    case q1o7 =>
      intro w1 hI
      replace hI : (fun w => w0.heap.size ≤ w.heap.size) w1 := hI
      intro v6 h6
      change _ = _ at h6
      subst v6
      refine turn2_on (by rfl) ?_
      intro K hK
      simp only [gv2]
      go_simp
      refine Calls.mono (var_any _ _ _ [] _ _ (RdAt.nil _ _) (by omega) hz.1 hz.2) ?_
      rintro e w2 ⟨r, rfl, hr, hb⟩
      rw [List.nil_append] at hr
      refine hK _ _ ⟨rfl, hb, ?_⟩
      show Owns _ _ _ _ _ _
      simp only [gv1]
      exact hr.mono hI
    case q1o8 =>
      intro w1 hI
      replace hI : (fun w => VarAt .u8 167 5 w h v l ∧ w0.heap.size ≤ w.heap.size) w1 := hI
      intro v4 h4
      change _ = _ at h4
      subst v4
      intro v7 h7
      obtain ⟨a7, c7, rfl⟩ := Owns.shape h7
      replace h7 := Owns.rd h7
      refine turn2_on (by rfl) ?_
      intro K hK
      simp only [gv2]
      obtain ⟨hI, hwz⟩ := hI
      obtain ⟨av, cv, hav⟩ := hI.own.shape
      refine wp_app_all 13 rfl u8T u8I (by decide) _ _ rfl _ (h + 1) v l rfl hI.own _ _ _ _ rfl h7 (by omega) hI.lt ?_
      intro v2 w2 ho2 hg2
      refine hK _ _ ⟨rfl, hg2.1, ?_⟩
      show Owns _ _ _ _ _ _ ∧ NewRoom _ _ _
      simp only [gv1]
      exact ⟨ho2, hg2.2.imp id (fun z g hg => Nat.le_trans hwz (z g hg))⟩
    case q1o9 =>
      intro w1 hI
      intro v0 h0
      change _ = _ at h0
      subst v0
      refine turn2_on (by rfl) ?_
      intro K hK
      simp only [gv2]
      go_simp
      refine hK _ _ ⟨rfl, Kept.refl _, ?_⟩
      show _ = _
      simp only [gv1]
      rfl
    case q1o10 =>
      intro w1 hI
      intro v9 h9
      change _ = _ at h9
      subst v9
      refine turn2_on (by rfl) ?_
      intro K hK
      simp only [gv2]
      go_simp
      refine hK _ _ ⟨rfl, Kept.refl _, ?_⟩
      show _ = _
      simp only [gv1]
      rfl
    case q1o11 =>
      intro w1 hI
      replace hI : (fun w => w.heap[h]? = some (.cells #[v] 167 (0, 0))) w1 := hI
      intro v8 h8
      replace h8 : Owns .u8 5 w1 (h + 1) v8 (l ++ varF 9 (zigI x)) ∧ NewRoom w0 v v8 := h8
      obtain ⟨h8, hnr⟩ := h8
      intro v10 h10
      change _ = _ at h10
      subst v10
      refine turn2_on (by rfl) ?_
      intro K hK
      simp only [gv2]
      obtain ⟨c0, cf⟩ := row_cell hI
      obtain ⟨q, hq⟩ : ∃ q, (l ++ varF 9 (zigI x)).length = q := ⟨_, rfl⟩
      obtain ⟨av, cv, rfl⟩ := Owns.shapeN h8 q hq
      clear hq
      go_simp
      refine hK _ _ ⟨rfl, store_grown _ _ _, ?_⟩
      exact ⟨_, VarAt.store hI h8, hnr⟩
  intro w1 hI
  replace hI : (fun w => Spared h (room v) w0 w) w1 := hI
  intro v0 h0
  change _ = _ at h0
  subst v0
  intro v1 h1
  change _ = _ at h1
  subst v1
  intro v2 h2
  change _ = _ at h2
  subst v2
  intro v3 h3
  change _ = _ at h3
  subst v3
  intro v4 h4
  change _ = _ at h4
  subst v4
  intro v5 h5
  change _ = _ at h5
  subst v5
  intro v6 h6
  change _ = _ at h6
  subst v6
  intro v7 h7
  obtain ⟨a7, c7, rfl⟩ := Owns.shape h7
  replace h7 := Owns.rd h7
  intro v8 h8
  replace h8 : Owns .u8 5 w1 (h + 1) v8 (l ++ varF 9 (zigI x)) ∧ NewRoom w0 v v8 := h8
  obtain ⟨h8, hnr⟩ := h8
  intro v9 h9
  change _ = _ at h9
  subst v9
  intro v10 h10
  change _ = _ at h10
  subst v10
  intro v11 h11
  simp only [Given, gv2]
  obtain ⟨v2, ho2, hn2⟩ := h11
  rw [hw0] at hI hn2
  go_wp2
  go_ret
  exact ⟨rfl, ⟨_, ho2, hn2⟩, hI⟩
set_option maxRecDepth 100000 in
theorem newwriter_any (w : World) : Calls Tryz.prog 69 #[] w fun e w' => e = .returned (.pointer (some ⟨w.heap.size, 0, none⟩)) ∧ VarAt .u8 167 5 w' w.heap.size (.slice none 0 0) [] ∧ Below w.heap.size w w' := by
  go_enter Tryz.func69, Tryz.ntmps69
  go_wp2
  go_ret
  exact ⟨rfl, ⟨heap_alloc_new _ _, Owns.nil _ _ _ _⟩, (Below.refl _ _).alloc (Nat.le_refl _) _⟩
set_option maxRecDepth 100000 in
theorem wdone_any (h : Nat) (v : Value) (l : List Int) (w : World) (ho : VarAt .u8 167 5 w h v l) (hl : l.length ≤ 1000000000) :
    Calls Tryz.prog 72 #[.pointer (some ⟨h, 0, none⟩)] w (GivesBytes l w) := by
  obtain ⟨c0, _⟩ := row_cell ho.row
  obtain ⟨q, hq⟩ : ∃ q, l.length = q := ⟨_, rfl⟩
  obtain ⟨av, cv, rfl⟩ := ho.own.shapeN q hq
  have hr := ho.own.rd
  have HQ := Lib.hid hq
  clear hq ho
  go_enter Tryz.func72, Tryz.ntmps72
  go_wp2_with fail
  refine (clone_any _ _ _ _ _ hr (by rw [← HQ.out]; exact hl)).mono ?_
  rintro e w2 ⟨v2, rfl, ho2, hb2⟩
  go_wp2_with fail
  go_ret
  exact ⟨v2, rfl, ho2, hb2⟩
end Go.Proofs.YtnbjodoajfkekaaGreat

namespace Go.Proofs.YtnbjodoajfkekaaGreat
open Go.RowKit
set_option maxRecDepth 100000 in
set_option maxHeartbeats 1000000 in
theorem wbytes_any (h : Nat) (v : Value) (l : List Int) (a : Option Addr) (n c : Nat) (lb : List Int) (w : World) (ho : VarAt .u8 167 5 w h v l) (hl : l.length + n ≤ 900000) (hr : RdAt .u8 w a n c lb) (hne : ∀ x, a = some x → 0 < n → x.block ≠ h ∧ some x.block ≠ room v) :
    Calls Tryz.prog 71 #[.pointer (some ⟨h, 0, none⟩), .slice a n c] w fun e w' => e = .returned (.pointer (some ⟨h, 0, none⟩)) ∧ (∃ v', VarAt .u8 167 5 w' h v' (l ++ varF 9 (zigI n) ++ lb) ∧ NewRoom w v v') ∧ Spared h (room v) w w' := by
  have hvl := (varF_len 9 (zigI n)).2
  have hll : (l ++ varF 9 (zigI n)).length ≤ 900010 := by rw [List.length_append]; omega
  have HL := Lib.hid hr.len
  go_enter Tryz.func71, Tryz.ntmps71
  go_wp2_with fail
  refine (wint_any h v l n w ho (by omega) (by omega) (by omega)).mono ?_
  rintro e w1 ⟨rfl, ⟨v1, ho1, hn1⟩, hs1⟩
  have hr1 := hr.sparedN hs1 hne
  have hrow := ho1.row
  have hown := ho1.own
  have hlt := ho1.lt
  generalize hl1 : l ++ varF 9 (zigI n) = l1 at *
  have HL1 := Lib.hid hl1
  clear hl1
  obtain ⟨q, hq⟩ : ∃ q, l1.length = q := ⟨_, rfl⟩
  rw [hq] at hll
  have HQ := Lib.hid hq
  obtain ⟨av, cv, rfl⟩ := hown.shapeN q hq
  obtain ⟨c0, cf⟩ := row_cell hrow
  have HR := Lib.hid hrow
  have HN := Lib.hid (room_ne hown)
  clear hq hrow ho1 hr
  go_wp2_with (at_builtin; refine app_all u8T u8I (by decide) rfl (.tmp 13) (.tmp 14) rfl _ (h + 1) _ l1 rfl hown _ _ _ lb rfl hr1 (by rw [HQ.out]; omega) hlt ?_; intro v2 w2 ho2 hg2; obtain ⟨a2, k2, rfl⟩ := ho2.shapeN (q + n) (by rw [List.length_append, HQ.out, HL.out]); have hr2 := grown_row HR.out hg2.1 HN.out; obtain ⟨c2, cf2⟩ := row_cell hr2; have HR2 := Lib.hid hr2; clear hr2)
  go_ret
  rw [HL1.out]
  refine ⟨rfl, ⟨_, VarAt.store HR2.out ho2, hn1.trans hs1.size hg2.2⟩, ?_⟩
  exact hs1.trans hn1 (((Spared.refl _ _ _).row hg2.1).at (store_grown _ _ _))
end Go.Proofs.YtnbjodoajfkekaaGreat

namespace Go.Proofs.YtnbjodoajfkekaaGreat
open Go.RowKit
set_option linter.unusedSimpArgs false
def WAt (B0 : Nat) (L : List Int) (v : Value) (w : World) : Prop := ∃ h x, v = .pointer (some ⟨h, 0, none⟩) ∧ B0 ≤ h ∧ VarAt .u8 167 5 w h x L
theorem WAt.below {B0 : Nat} {L : List Int} {v : Value} {w w' : World} (p : WAt B0 L v w) (b : Kept w w') : WAt B0 L v w' := by
  obtain ⟨h, x, e, hB, o⟩ := p
  exact ⟨h, x, e, hB, o.below b⟩
/-- A number as bytes; an operation. -/
def encI (x : Int) : List Int := varF 9 (zigI x)
theorem encI_len (x : Int) : (encI x).length ≤ 10 := by have := (varF_len 9 (zigI x)).2; unfold encI; omega
def enc5 (T : OpP) : List Int := encI T.kind ++ encI T.pid ++ encI T.at_ ++ encI T.n ++ encI T.prot
def encO (T : OpP) : List Int := enc5 T ++ encI T.data.length ++ T.data
theorem rd_low {k : IntKind} {w w' : World} {B : Nat} {a : Option Addr} {n c : Nat} {l : List Int} (h : RdAt k w a n c l) (hb : Below B w w') (hl : ∀ x, a = some x → 0 < n → x.block < B) : RdAt k w' a n c l :=
  ⟨h.len, h.cap, h.max, fun i hi => by
    obtain ⟨b, o, e, hc⟩ := h.cell i hi
    exact ⟨b, o, e, by rw [← hc]; exact World.cell?_of_block (a := ⟨b, o + i, none⟩) (hb.block b (hl _ e (by omega)))⟩, h.wf, h.void⟩
theorem i64_bd {x : Int} (h : (Lit.int .i64 x).wf = true) : -9223372036854775808 ≤ x ∧ x ≤ 9223372036854775807 := wf_i64_bd h
theorem below_drewB {B : Nat} {w : World} (_ : B ≤ w.heap.size) : Below B w w.drew := ⟨rfl, rfl, rfl, Nat.le_refl _, fun _ _ => rfl⟩
set_option maxHeartbeats 2000000 in
set_option maxRecDepth 100000 in
theorem encode_any (T : OpP) (ta : Option Addr) (tn tc : Nat) (w : World) (hT : RdAt .u8 w ta tn tc T.data) (hn : tn ≤ 800000) (hw : (Lit.int .i64 T.kind).wf = true ∧ (Lit.int .i64 T.pid).wf = true ∧ (Lit.int .i64 T.at_).wf = true ∧ (Lit.int .i64 T.n).wf = true ∧ (Lit.int .i64 T.prot).wf = true) :
    Calls Tryz.prog 22 #[.agg #[.int .i64 T.kind, .int .i64 T.pid, .int .i64 T.at_, .int .i64 T.n, .int .i64 T.prot, .slice ta tn tc]] w (GivesBytes (encO T) w) := by
  have hrow := heap_alloc_new w (.cells #[.int .i64 T.kind, .int .i64 T.pid, .int .i64 T.at_, .int .i64 T.n, .int .i64 T.prot, .slice ta tn tc] 38)
  have hba := below_a w (.cells #[.int .i64 T.kind, .int .i64 T.pid, .int .i64 T.at_, .int .i64 T.n, .int .i64 T.prot, .slice ta tn tc] 38)
  have HDL0 := hT.lt
  have HTL : Hid (T.data.length = tn) := hT.len
  have HDN := Lib.hid hn
  have HW := Lib.hid hw
  have hT1 := hT.below hba
  obtain ⟨wa, hwa⟩ : ∃ x, w.alloc (.cells #[.int .i64 T.kind, .int .i64 T.pid, .int .i64 T.at_, .int .i64 T.n, .int .i64 T.prot, .slice ta tn tc] 38) = x := ⟨_, rfl⟩
  obtain ⟨hb, hhb⟩ : ∃ x, w.heap.size = x := ⟨_, rfl⟩
  rw [hwa] at hba hrow hT1
  rw [hhb] at hrow
  have HBA := Lib.hid hba
  have HROW := Lib.hid hrow
  have HWA := Lib.hid hwa
  have HT1 := Lib.hid hT1
  have HHB := Lib.hid hhb
  have HDL1 := Lib.hid HDL0
  clear hba hrow hwa hT hT1 hw hhb HDL0 hn
  go_enter Tryz.func22, Tryz.ntmps22
  go_wp2_with fail
  rw [HWA.out, HHB.out]
  refine (newwriter_any wa).mono ?_
  rintro e w2 ⟨rfl, hv2, hb2⟩
  obtain ⟨B0, hB0⟩ : ∃ x, wa.heap.size = x := ⟨_, rfl⟩
  rw [hB0] at hv2 ⊢
  have HLB : Hid (hb < B0) := by show _ < _; rw [← hB0]; exact (Array.getElem?_eq_some_iff.1 HROW.out).1
  have HV2 : Hid (VarAt .u8 167 5 w2.drew B0 (.slice none 0 0) []) := ⟨hv2.row, hv2.own⟩
  have HB2 := Lib.hid (Below.call HBA.out hb2)
  have ROW2 : Hid (w2.drew.heap[hb]? = some (.cells #[.int .i64 T.kind, .int .i64 T.pid, .int .i64 T.at_, .int .i64 T.n, .int .i64 T.prot, .slice ta tn tc] 38 (0, 0))) := by
    show w2.heap[hb]? = _
    exact row_keep HROW.out hb2
  have HRD2 : Hid (RdAt .u8 w2.drew ta tn tc T.data) := HT1.out.below (hb2.trans ⟨rfl, rfl, rfl, Nat.le_refl _, fun _ _ => rfl⟩)
  have HSZ : Hid (B0 ≤ w2.drew.heap.size) := by show B0 ≤ w2.heap.size; rw [← hB0]; exact hb2.size
  have HDL : Hid (∀ x, ta = some x → 0 < tn → x.block < B0) := fun x hx h0 => by have h1 := HDL1.out x hx h0; have h2 := HLB.out; have h3 := HHB.out; omega
  clear hv2 hb2 hB0
  go_wp2_with fail
  refine' reg_kill [(6, 3), (9, 3), (12, 3), (15, 3), (18, 3), (9, 6), (12, 6), (15, 6), (18, 6), (12, 9), (15, 9), (18, 9), (15, 12), (18, 12), (18, 15)] [eqV _, eqV _, eqV _, (WAt B0 (encI T.kind)), eqV _, eqV _, (WAt B0 (encI T.kind ++ encI T.pid)), eqV _, eqV _, (WAt B0 (encI T.kind ++ encI T.pid ++ encI T.at_)), eqV _, eqV _, (WAt B0 (encI T.kind ++ encI T.pid ++ encI T.at_ ++ encI T.n)), eqV _, eqV _, (WAt B0 (encI T.kind ++ encI T.pid ++ encI T.at_ ++ encI T.n ++ encI T.prot)), eqV _, eqV _, (WAt B0 (enc5 T ++ encI T.data.length ++ T.data)), (fun v w5 => Owns .u8 5 w5 B0 v (encO T)), (fun v w5 => Owns .u8 5 w5 B0 v (encO T))] [(3, fun w5 w6 => Below B0 w5 w6), (6, fun w5 w6 => Below B0 w5 w6), (9, fun w5 w6 => Below B0 w5 w6), (12, fun w5 w6 => Below B0 w5 w6), (15, fun w5 w6 => Below B0 w5 w6), (18, fun w5 w6 => Below B0 w5 w6)] [(2, fun w5 => w5.heap[hb]? = some (.cells #[.int .i64 T.kind, .int .i64 T.pid, .int .i64 T.at_, .int .i64 T.n, .int .i64 T.prot, .slice ta tn tc] 38 (0, 0))), (3, fun w5 => VarAt .u8 167 5 w5 B0 (.slice none 0 0) []), (5, fun w5 => w5.heap[hb]? = some (.cells #[.int .i64 T.kind, .int .i64 T.pid, .int .i64 T.at_, .int .i64 T.n, .int .i64 T.prot, .slice ta tn tc] 38 (0, 0))), (8, fun w5 => w5.heap[hb]? = some (.cells #[.int .i64 T.kind, .int .i64 T.pid, .int .i64 T.at_, .int .i64 T.n, .int .i64 T.prot, .slice ta tn tc] 38 (0, 0))), (11, fun w5 => w5.heap[hb]? = some (.cells #[.int .i64 T.kind, .int .i64 T.pid, .int .i64 T.at_, .int .i64 T.n, .int .i64 T.prot, .slice ta tn tc] 38 (0, 0))), (14, fun w5 => w5.heap[hb]? = some (.cells #[.int .i64 T.kind, .int .i64 T.pid, .int .i64 T.at_, .int .i64 T.n, .int .i64 T.prot, .slice ta tn tc] 38 (0, 0))), (17, fun w5 => w5.heap[hb]? = some (.cells #[.int .i64 T.kind, .int .i64 T.pid, .int .i64 T.at_, .int .i64 T.n, .int .i64 T.prot, .slice ta tn tc] 38 (0, 0))), (18, fun w5 => RdAt .u8 w5 ta tn tc T.data), (19, fun w5 => B0 ≤ w5.heap.size), (21, fun w5 => Below B0 w2 w5 ∧ B0 ≤ w5.heap.size)] [5, 6, 7, 8, 9, 10, 11, 12, 13, 14, 15, 16, 17, 18, 19, 20, 21, 22, 23, 24, 2] [[], [], [1], [0, 2], [], [4], [3, 5], [], [7], [6, 8], [], [10], [9, 11], [], [13], [12, 14], [], [16], [15, 17], [18], [19]] [0, 1, 2, 3, 4, 5, 6, 7, 8, 9, 10, 11, 12, 13, 14, 15, 16, 17, 18, 19, 20] 21 (by kernel_rfl) (by kernel_rfl) ⟨eqV_stays _, eqV_stays _, eqV_stays _, fun _ _ _ p b => WAt.below p b, eqV_stays _, eqV_stays _, fun _ _ _ p b => WAt.below p b, eqV_stays _, eqV_stays _, fun _ _ _ p b => WAt.below p b, eqV_stays _, eqV_stays _, fun _ _ _ p b => WAt.below p b, eqV_stays _, eqV_stays _, fun _ _ _ p b => WAt.below p b, eqV_stays _, eqV_stays _, fun _ _ _ p b => WAt.below p b, fun _ _ _ p b => Owns.below p b, fun _ _ _ p b => Owns.below p b, trivial⟩ ⟨⟨.inl (eqV_stays _), .inl (eqV_stays _), .inl (eqV_stays _), .inr (.inr (.inl rfl)), .inl (eqV_stays _), .inl (eqV_stays _), .inr (.inl (by kernel_rfl)), .inl (eqV_stays _), .inl (eqV_stays _), .inr (.inl (by kernel_rfl)), .inl (eqV_stays _), .inl (eqV_stays _), .inr (.inl (by kernel_rfl)), .inl (eqV_stays _), .inl (eqV_stays _), .inr (.inl (by kernel_rfl)), .inl (eqV_stays _), .inl (eqV_stays _), .inr (.inl (by kernel_rfl)), .inr (.inl (by kernel_rfl)), .inr (.inl (by kernel_rfl)), trivial⟩, ⟨.inl (eqV_stays _), .inl (eqV_stays _), .inl (eqV_stays _), .inr (.inr (.inr (by kernel_rfl))), .inl (eqV_stays _), .inl (eqV_stays _), .inr (.inr (.inl rfl)), .inl (eqV_stays _), .inl (eqV_stays _), .inr (.inl (by kernel_rfl)), .inl (eqV_stays _), .inl (eqV_stays _), .inr (.inl (by kernel_rfl)), .inl (eqV_stays _), .inl (eqV_stays _), .inr (.inl (by kernel_rfl)), .inl (eqV_stays _), .inl (eqV_stays _), .inr (.inl (by kernel_rfl)), .inr (.inl (by kernel_rfl)), .inr (.inl (by kernel_rfl)), trivial⟩, ⟨.inl (eqV_stays _), .inl (eqV_stays _), .inl (eqV_stays _), .inr (.inr (.inr (by kernel_rfl))), .inl (eqV_stays _), .inl (eqV_stays _), .inr (.inr (.inr (by kernel_rfl))), .inl (eqV_stays _), .inl (eqV_stays _), .inr (.inr (.inl rfl)), .inl (eqV_stays _), .inl (eqV_stays _), .inr (.inl (by kernel_rfl)), .inl (eqV_stays _), .inl (eqV_stays _), .inr (.inl (by kernel_rfl)), .inl (eqV_stays _), .inl (eqV_stays _), .inr (.inl (by kernel_rfl)), .inr (.inl (by kernel_rfl)), .inr (.inl (by kernel_rfl)), trivial⟩, ⟨.inl (eqV_stays _), .inl (eqV_stays _), .inl (eqV_stays _), .inr (.inr (.inr (by kernel_rfl))), .inl (eqV_stays _), .inl (eqV_stays _), .inr (.inr (.inr (by kernel_rfl))), .inl (eqV_stays _), .inl (eqV_stays _), .inr (.inr (.inr (by kernel_rfl))), .inl (eqV_stays _), .inl (eqV_stays _), .inr (.inr (.inl rfl)), .inl (eqV_stays _), .inl (eqV_stays _), .inr (.inl (by kernel_rfl)), .inl (eqV_stays _), .inl (eqV_stays _), .inr (.inl (by kernel_rfl)), .inr (.inl (by kernel_rfl)), .inr (.inl (by kernel_rfl)), trivial⟩, ⟨.inl (eqV_stays _), .inl (eqV_stays _), .inl (eqV_stays _), .inr (.inr (.inr (by kernel_rfl))), .inl (eqV_stays _), .inl (eqV_stays _), .inr (.inr (.inr (by kernel_rfl))), .inl (eqV_stays _), .inl (eqV_stays _), .inr (.inr (.inr (by kernel_rfl))), .inl (eqV_stays _), .inl (eqV_stays _), .inr (.inr (.inr (by kernel_rfl))), .inl (eqV_stays _), .inl (eqV_stays _), .inr (.inr (.inl rfl)), .inl (eqV_stays _), .inl (eqV_stays _), .inr (.inl (by kernel_rfl)), .inr (.inl (by kernel_rfl)), .inr (.inl (by kernel_rfl)), trivial⟩, ⟨.inl (eqV_stays _), .inl (eqV_stays _), .inl (eqV_stays _), .inr (.inr (.inr (by kernel_rfl))), .inl (eqV_stays _), .inl (eqV_stays _), .inr (.inr (.inr (by kernel_rfl))), .inl (eqV_stays _), .inl (eqV_stays _), .inr (.inr (.inr (by kernel_rfl))), .inl (eqV_stays _), .inl (eqV_stays _), .inr (.inr (.inr (by kernel_rfl))), .inl (eqV_stays _), .inl (eqV_stays _), .inr (.inr (.inr (by kernel_rfl))), .inl (eqV_stays _), .inl (eqV_stays _), .inr (.inr (.inl rfl)), .inr (.inl (by kernel_rfl)), .inr (.inl (by kernel_rfl)), trivial⟩, trivial⟩ ⟨fun _ _ p b => row_keep p b, fun _ _ p b => VarAt.below p b, fun _ _ p b => row_keep p b, fun _ _ p b => row_keep p b, fun _ _ p b => row_keep p b, fun _ _ p b => row_keep p b, fun _ _ p b => row_keep p b, fun _ _ p b => RdAt.below p b, fun _ _ p b => Nat.le_trans p b.size, fun _ _ p b => ⟨Below.trans p.1 (b.mono p.2), Nat.le_trans p.2 b.size⟩, trivial⟩ ⟨⟨.inr (.inl (by kernel_rfl)), .inr (.inr rfl), .inl (fun _ _ p b => (Below.block b hb HLB.out).trans p), .inl (fun _ _ p b => (Below.block b hb HLB.out).trans p), .inl (fun _ _ p b => (Below.block b hb HLB.out).trans p), .inl (fun _ _ p b => (Below.block b hb HLB.out).trans p), .inl (fun _ _ p b => (Below.block b hb HLB.out).trans p), .inl (fun _ _ p b => rd_low p b HDL.out), .inl (fun _ _ p b => Nat.le_trans p b.size), .inl (fun _ _ p b => ⟨Below.trans p.1 b, Nat.le_trans p.2 b.size⟩), trivial⟩, ⟨.inr (.inl (by kernel_rfl)), .inr (.inl (by kernel_rfl)), .inr (.inl (by kernel_rfl)), .inl (fun _ _ p b => (Below.block b hb HLB.out).trans p), .inl (fun _ _ p b => (Below.block b hb HLB.out).trans p), .inl (fun _ _ p b => (Below.block b hb HLB.out).trans p), .inl (fun _ _ p b => (Below.block b hb HLB.out).trans p), .inl (fun _ _ p b => rd_low p b HDL.out), .inl (fun _ _ p b => Nat.le_trans p b.size), .inl (fun _ _ p b => ⟨Below.trans p.1 b, Nat.le_trans p.2 b.size⟩), trivial⟩, ⟨.inr (.inl (by kernel_rfl)), .inr (.inl (by kernel_rfl)), .inr (.inl (by kernel_rfl)), .inr (.inl (by kernel_rfl)), .inl (fun _ _ p b => (Below.block b hb HLB.out).trans p), .inl (fun _ _ p b => (Below.block b hb HLB.out).trans p), .inl (fun _ _ p b => (Below.block b hb HLB.out).trans p), .inl (fun _ _ p b => rd_low p b HDL.out), .inl (fun _ _ p b => Nat.le_trans p b.size), .inl (fun _ _ p b => ⟨Below.trans p.1 b, Nat.le_trans p.2 b.size⟩), trivial⟩, ⟨.inr (.inl (by kernel_rfl)), .inr (.inl (by kernel_rfl)), .inr (.inl (by kernel_rfl)), .inr (.inl (by kernel_rfl)), .inr (.inl (by kernel_rfl)), .inl (fun _ _ p b => (Below.block b hb HLB.out).trans p), .inl (fun _ _ p b => (Below.block b hb HLB.out).trans p), .inl (fun _ _ p b => rd_low p b HDL.out), .inl (fun _ _ p b => Nat.le_trans p b.size), .inl (fun _ _ p b => ⟨Below.trans p.1 b, Nat.le_trans p.2 b.size⟩), trivial⟩, ⟨.inr (.inl (by kernel_rfl)), .inr (.inl (by kernel_rfl)), .inr (.inl (by kernel_rfl)), .inr (.inl (by kernel_rfl)), .inr (.inl (by kernel_rfl)), .inr (.inl (by kernel_rfl)), .inl (fun _ _ p b => (Below.block b hb HLB.out).trans p), .inl (fun _ _ p b => rd_low p b HDL.out), .inl (fun _ _ p b => Nat.le_trans p b.size), .inl (fun _ _ p b => ⟨Below.trans p.1 b, Nat.le_trans p.2 b.size⟩), trivial⟩, ⟨.inr (.inl (by kernel_rfl)), .inr (.inl (by kernel_rfl)), .inr (.inl (by kernel_rfl)), .inr (.inl (by kernel_rfl)), .inr (.inl (by kernel_rfl)), .inr (.inl (by kernel_rfl)), .inr (.inl (by kernel_rfl)), .inr (.inr rfl), .inl (fun _ _ p b => Nat.le_trans p b.size), .inl (fun _ _ p b => ⟨Below.trans p.1 b, Nat.le_trans p.2 b.size⟩), trivial⟩, trivial⟩ ⟨ROW2.out, HV2.out, ROW2.out, ROW2.out, ROW2.out, ROW2.out, ROW2.out, HRD2.out, HSZ.out, ⟨below_drewB HSZ.out, HSZ.out⟩, trivial⟩ 25 rfl (by kernel_rfl) (by kernel_rfl) rfl rfl 21 rfl ?q1obl ?q1fin
  case q1obl =>
    refine And.intro ?q1o0 (And.intro ?q1o1 (And.intro ?q1o2 (And.intro ?q1o3 (And.intro ?q1o4 (And.intro ?q1o5 (And.intro ?q1o6 (And.intro ?q1o7 (And.intro ?q1o8 (And.intro ?q1o9 (And.intro ?q1o10 (And.intro ?q1o11 (And.intro ?q1o12 (And.intro ?q1o13 (And.intro ?q1o14 (And.intro ?q1o15 (And.intro ?q1o16 (And.intro ?q1o17 (And.intro ?q1o18 (And.intro ?q1o19 (And.intro ?q1o20 (True.intro)))))))))))))))))))))
    case q1o0 =>
      intro w1 hI
      refine turn2_on (by rfl) ?_
      intro K hK
      go_simp
      refine hK _ _ ⟨rfl, Kept.refl _, ?_⟩
      show _ = _
      simp only [gv1]
      rfl
    case q1o1 =>
      intro w1 hI
      refine turn2_on (by rfl) ?_
      intro K hK
      go_simp
      refine hK _ _ ⟨rfl, Kept.refl _, ?_⟩
      show _ = _
      simp only [gv1]
      rfl
    case q1o2 =>
      intro w1 hI
      replace hI : (fun w5 => w5.heap[hb]? = some (.cells #[.int .i64 T.kind, .int .i64 T.pid, .int .i64 T.at_, .int .i64 T.n, .int .i64 T.prot, .slice ta tn tc] 38 (0, 0))) w1 := hI
      intro v1 h1
      change _ = _ at h1
      subst v1
      refine turn2_on (by rfl) ?_
      intro K hK
      simp only [gv2]
      obtain ⟨z0, z1, z2, z3, z4, z5⟩ := cells6 hI
      go_simp
      refine hK _ _ ⟨rfl, Kept.refl _, ?_⟩
      show _ = _
      simp only [gv1]
      rfl
    case q1o3 =>
      intro w1 hI
      replace hI : (fun w5 => VarAt .u8 167 5 w5 B0 (.slice none 0 0) []) w1 := hI
      intro v0 h0
      change _ = _ at h0
      subst v0
      intro v2 h2
      change _ = _ at h2
      subst v2
      refine turn2_on (by rfl) ?_
      intro K hK
      simp only [gv2]
      go_simp
      refine Calls.mono (wint_any B0 (.slice none 0 0) [] T.kind w1 hI (by simp) (i64_bd HW.out.1).1 (i64_bd HW.out.1).2) ?_
      rintro e w9 ⟨rfl, ⟨v9, ho9, hn9⟩, hs9⟩
      rw [List.nil_append] at ho9
      refine hK _ _ ⟨rfl, (hs9.below (Nat.le_of_lt hI.lt) (fun q hq => by have := (hI.own.at_base q hq).1; omega)).mono (Nat.le_refl B0), ?_⟩
      show WAt _ _ _ _
      simp only [gv1]
      exact ⟨B0, v9, rfl, (Nat.le_refl B0), ho9⟩
    case q1o4 =>
      intro w1 hI
      refine turn2_on (by rfl) ?_
      intro K hK
      go_simp
      refine hK _ _ ⟨rfl, Kept.refl _, ?_⟩
      show _ = _
      simp only [gv1]
      rfl
    case q1o5 =>
      intro w1 hI
      replace hI : (fun w5 => w5.heap[hb]? = some (.cells #[.int .i64 T.kind, .int .i64 T.pid, .int .i64 T.at_, .int .i64 T.n, .int .i64 T.prot, .slice ta tn tc] 38 (0, 0))) w1 := hI
      intro v4 h4
      change _ = _ at h4
      subst v4
      refine turn2_on (by rfl) ?_
      intro K hK
      simp only [gv2]
      obtain ⟨z0, z1, z2, z3, z4, z5⟩ := cells6 hI
      go_simp
      refine hK _ _ ⟨rfl, Kept.refl _, ?_⟩
      show _ = _
      simp only [gv1]
      rfl
    case q1o6 =>
      intro w1 hI
      intro v3 h3
      obtain ⟨g3, x3, rfl, hg3, hv3⟩ := h3
      intro v5 h5
      change _ = _ at h5
      subst v5
      refine turn2_on (by rfl) ?_
      intro K hK
      simp only [gv2]
      go_simp
      refine Calls.mono (wint_any g3 x3 _ T.pid w1 hv3 (by have := encI_len T.kind; have := encI_len T.pid; have := encI_len T.at_; have := encI_len T.n; have := encI_len T.prot; have := HDN.out; simp only [List.length_append, List.length_nil, enc5] at *; omega) (i64_bd HW.out.2.1).1 (i64_bd HW.out.2.1).2) ?_
      rintro e w9 ⟨rfl, ⟨v9, ho9, hn9⟩, hs9⟩
      refine hK _ _ ⟨rfl, (hs9.below (Nat.le_of_lt hv3.lt) (fun q hq => by have := (hv3.own.at_base q hq).1; omega)).mono hg3, ?_⟩
      show WAt _ _ _ _
      simp only [gv1]
      exact ⟨g3, v9, rfl, hg3, ho9⟩
    case q1o7 =>
      intro w1 hI
      refine turn2_on (by rfl) ?_
      intro K hK
      go_simp
      refine hK _ _ ⟨rfl, Kept.refl _, ?_⟩
      show _ = _
      simp only [gv1]
      rfl
    case q1o8 =>
      intro w1 hI
      replace hI : (fun w5 => w5.heap[hb]? = some (.cells #[.int .i64 T.kind, .int .i64 T.pid, .int .i64 T.at_, .int .i64 T.n, .int .i64 T.prot, .slice ta tn tc] 38 (0, 0))) w1 := hI
      intro v7 h7
      change _ = _ at h7
      subst v7
      refine turn2_on (by rfl) ?_
      intro K hK
      simp only [gv2]
      obtain ⟨z0, z1, z2, z3, z4, z5⟩ := cells6 hI
      go_simp
      refine hK _ _ ⟨rfl, Kept.refl _, ?_⟩
      show _ = _
      simp only [gv1]
      rfl
    case q1o9 =>
      intro w1 hI
      intro v6 h6
      obtain ⟨g6, x6, rfl, hg6, hv6⟩ := h6
      intro v8 h8
      change _ = _ at h8
      subst v8
      refine turn2_on (by rfl) ?_
      intro K hK
      simp only [gv2]
      go_simp
      refine Calls.mono (wint_any g6 x6 _ T.at_ w1 hv6 (by have := encI_len T.kind; have := encI_len T.pid; have := encI_len T.at_; have := encI_len T.n; have := encI_len T.prot; have := HDN.out; simp only [List.length_append, List.length_nil, enc5] at *; omega) (i64_bd HW.out.2.2.1).1 (i64_bd HW.out.2.2.1).2) ?_
      rintro e w9 ⟨rfl, ⟨v9, ho9, hn9⟩, hs9⟩
      refine hK _ _ ⟨rfl, (hs9.below (Nat.le_of_lt hv6.lt) (fun q hq => by have := (hv6.own.at_base q hq).1; omega)).mono hg6, ?_⟩
      show WAt _ _ _ _
      simp only [gv1]
      exact ⟨g6, v9, rfl, hg6, ho9⟩
    case q1o10 =>
      intro w1 hI
      refine turn2_on (by rfl) ?_
      intro K hK
      go_simp
      refine hK _ _ ⟨rfl, Kept.refl _, ?_⟩
      show _ = _
      simp only [gv1]
      rfl
    case q1o11 =>
      intro w1 hI
      replace hI : (fun w5 => w5.heap[hb]? = some (.cells #[.int .i64 T.kind, .int .i64 T.pid, .int .i64 T.at_, .int .i64 T.n, .int .i64 T.prot, .slice ta tn tc] 38 (0, 0))) w1 := hI
      intro v10 h10
      change _ = _ at h10
      subst v10
      refine turn2_on (by rfl) ?_
      intro K hK
      simp only [gv2]
      obtain ⟨z0, z1, z2, z3, z4, z5⟩ := cells6 hI
      go_simp
      refine hK _ _ ⟨rfl, Kept.refl _, ?_⟩
      show _ = _
      simp only [gv1]
      rfl
    case q1o12 =>
      intro w1 hI
      intro v9 h9
      obtain ⟨g9, x9, rfl, hg9, hv9⟩ := h9
      intro v11 h11
      change _ = _ at h11
      subst v11
      refine turn2_on (by rfl) ?_
      intro K hK
      simp only [gv2]
      go_simp
      refine Calls.mono (wint_any g9 x9 _ T.n w1 hv9 (by have := encI_len T.kind; have := encI_len T.pid; have := encI_len T.at_; have := encI_len T.n; have := encI_len T.prot; have := HDN.out; simp only [List.length_append, List.length_nil, enc5] at *; omega) (i64_bd HW.out.2.2.2.1).1 (i64_bd HW.out.2.2.2.1).2) ?_
      rintro e w9 ⟨rfl, ⟨v9, ho9, hn9⟩, hs9⟩
      refine hK _ _ ⟨rfl, (hs9.below (Nat.le_of_lt hv9.lt) (fun q hq => by have := (hv9.own.at_base q hq).1; omega)).mono hg9, ?_⟩
      show WAt _ _ _ _
      simp only [gv1]
      exact ⟨g9, v9, rfl, hg9, ho9⟩
    case q1o13 =>
      intro w1 hI
      refine turn2_on (by rfl) ?_
      intro K hK
      go_simp
      refine hK _ _ ⟨rfl, Kept.refl _, ?_⟩
      show _ = _
      simp only [gv1]
      rfl
    case q1o14 =>
      intro w1 hI
      replace hI : (fun w5 => w5.heap[hb]? = some (.cells #[.int .i64 T.kind, .int .i64 T.pid, .int .i64 T.at_, .int .i64 T.n, .int .i64 T.prot, .slice ta tn tc] 38 (0, 0))) w1 := hI
      intro v13 h13
      change _ = _ at h13
      subst v13
      refine turn2_on (by rfl) ?_
      intro K hK
      simp only [gv2]
      obtain ⟨z0, z1, z2, z3, z4, z5⟩ := cells6 hI
      go_simp
      refine hK _ _ ⟨rfl, Kept.refl _, ?_⟩
      show _ = _
      simp only [gv1]
      rfl
    case q1o15 =>
      intro w1 hI
      intro v12 h12
      obtain ⟨g12, x12, rfl, hg12, hv12⟩ := h12
      intro v14 h14
      change _ = _ at h14
      subst v14
      refine turn2_on (by rfl) ?_
      intro K hK
      simp only [gv2]
      go_simp
      refine Calls.mono (wint_any g12 x12 _ T.prot w1 hv12 (by have := encI_len T.kind; have := encI_len T.pid; have := encI_len T.at_; have := encI_len T.n; have := encI_len T.prot; have := HDN.out; simp only [List.length_append, List.length_nil, enc5] at *; omega) (i64_bd HW.out.2.2.2.2).1 (i64_bd HW.out.2.2.2.2).2) ?_
      rintro e w9 ⟨rfl, ⟨v9, ho9, hn9⟩, hs9⟩
      refine hK _ _ ⟨rfl, (hs9.below (Nat.le_of_lt hv12.lt) (fun q hq => by have := (hv12.own.at_base q hq).1; omega)).mono hg12, ?_⟩
      show WAt _ _ _ _
      simp only [gv1]
      exact ⟨g12, v9, rfl, hg12, ho9⟩
    case q1o16 =>
      intro w1 hI
      refine turn2_on (by rfl) ?_
      intro K hK
      go_simp
      refine hK _ _ ⟨rfl, Kept.refl _, ?_⟩
      show _ = _
      simp only [gv1]
      rfl
    case q1o17 =>
      intro w1 hI
      replace hI : (fun w5 => w5.heap[hb]? = some (.cells #[.int .i64 T.kind, .int .i64 T.pid, .int .i64 T.at_, .int .i64 T.n, .int .i64 T.prot, .slice ta tn tc] 38 (0, 0))) w1 := hI
      intro v16 h16
      change _ = _ at h16
      subst v16
      refine turn2_on (by rfl) ?_
      intro K hK
      simp only [gv2]
      obtain ⟨z0, z1, z2, z3, z4, z5⟩ := cells6 hI
      go_simp
      refine hK _ _ ⟨rfl, Kept.refl _, ?_⟩
      show _ = _
      simp only [gv1]
      rfl
    case q1o18 =>
      intro w1 hI
      replace hI : (fun w5 => RdAt .u8 w5 ta tn tc T.data) w1 := hI
      intro v15 h15
      obtain ⟨g15, x15, rfl, hg15, hv15⟩ := h15
      intro v17 h17
      change _ = _ at h17
      subst v17
      refine turn2_on (by rfl) ?_
      intro K hK
      simp only [gv2]
      go_simp
      refine Calls.mono (wbytes_any g15 x15 _ ta tn tc T.data w1 hv15 (by have := encI_len T.kind; have := encI_len T.pid; have := encI_len T.at_; have := encI_len T.n; have := encI_len T.prot; have := HDN.out; simp only [List.length_append, List.length_nil, enc5] at *; omega) hI (fun q hq hn => ⟨fun e => by have := HDL.out q hq hn; omega, fun e => by have h1 := HDL.out q hq hn; have h2 := (hv15.own.at_base _ e.symm).1; omega⟩)) ?_
      rintro e w9 ⟨rfl, ⟨v9, ho9, hn9⟩, hs9⟩
      rw [show (tn : Int) = (T.data.length : Int) by rw [HTL.out]] at ho9
      refine hK _ _ ⟨rfl, (hs9.below (Nat.le_of_lt hv15.lt) (fun q hq => by have := (hv15.own.at_base q hq).1; omega)).mono hg15, ?_⟩
      show WAt _ _ _ _
      simp only [gv1]
      exact ⟨g15, v9, rfl, hg15, ho9⟩
    case q1o19 =>
      intro w1 hI
      replace hI : (fun w5 => B0 ≤ w5.heap.size) w1 := hI
      intro v18 h18
      obtain ⟨g18, x18, rfl, hg18, hv18⟩ := h18
      refine turn2_on (by rfl) ?_
      intro K hK
      simp only [gv2]
      go_simp
      refine Calls.mono (wdone_any g18 x18 _ w1 hv18 (by have := encI_len T.kind; have := encI_len T.pid; have := encI_len T.at_; have := encI_len T.n; have := encI_len T.prot; have := HDN.out; have := HTL.out; have := encI_len T.data.length; simp only [List.length_append, List.length_nil, enc5] at *; omega)) ?_
      rintro e w9 ⟨vv, rfl, hov, hbx⟩
      refine hK _ _ ⟨rfl, hbx, ?_⟩
      show Owns _ _ _ _ _ _
      simp only [gv1]
      exact hov.mono hI
    case q1o20 =>
      intro w1 hI
      intro v19 h19
      refine turn2_on (by rfl) ?_
      intro K hK
      simp only [gv2]
      go_simp
      refine hK _ _ ⟨rfl, Kept.refl _, ?_⟩
      show Owns _ _ _ _ _ _
      simp only [gv1]
      exact h19
  intro w4 hI
  replace hI : (fun w5 => Below B0 w2 w5 ∧ B0 ≤ w5.heap.size) w4 := hI
  intro v0 h0
  replace h0 := h0 (by kernel_rfl)
  change _ = _ at h0
  subst v0
  intro v1 h1
  replace h1 := h1 (by kernel_rfl)
  change _ = _ at h1
  subst v1
  intro v2 h2
  replace h2 := h2 (by kernel_rfl)
  change _ = _ at h2
  subst v2
  intro v3 _
  intro v4 h4
  replace h4 := h4 (by kernel_rfl)
  change _ = _ at h4
  subst v4
  intro v5 h5
  replace h5 := h5 (by kernel_rfl)
  change _ = _ at h5
  subst v5
  intro v6 _
  intro v7 h7
  replace h7 := h7 (by kernel_rfl)
  change _ = _ at h7
  subst v7
  intro v8 h8
  replace h8 := h8 (by kernel_rfl)
  change _ = _ at h8
  subst v8
  intro v9 _
  intro v10 h10
  replace h10 := h10 (by kernel_rfl)
  change _ = _ at h10
  subst v10
  intro v11 h11
  replace h11 := h11 (by kernel_rfl)
  change _ = _ at h11
  subst v11
  intro v12 _
  intro v13 h13
  replace h13 := h13 (by kernel_rfl)
  change _ = _ at h13
  subst v13
  intro v14 h14
  replace h14 := h14 (by kernel_rfl)
  change _ = _ at h14
  subst v14
  intro v15 _
  intro v16 h16
  replace h16 := h16 (by kernel_rfl)
  change _ = _ at h16
  subst v16
  intro v17 h17
  replace h17 := h17 (by kernel_rfl)
  change _ = _ at h17
  subst v17
  intro v18 h18
  replace h18 := h18 (by kernel_rfl)
  obtain ⟨g18, x18, rfl, hg18, hv18⟩ := h18
  intro v19 h19
  replace h19 := h19 (by kernel_rfl)
  intro v20 h20
  replace h20 := h20 (by kernel_rfl)
  simp only [Given, gv2]
  obtain ⟨hI1, hI2⟩ := hI
  obtain ⟨a9, c9, rfl⟩ := h20.shape
  have HO := Lib.hid h20
  have HB4 : Hid (Below w.heap.size w w4) := HB2.out.trans (hI1.mono (by have h1 := HLB.out; have h2 := HHB.out; omega))
  clear hI1 hI2 h19 h20
  go_wp2_with fail
  go_ret
  exact ⟨_, rfl, HO.out.mono (by have h1 := HLB.out; have h2 := HHB.out; omega), HB4.out⟩
end Go.Proofs.YtnbjodoajfkekaaGreat
