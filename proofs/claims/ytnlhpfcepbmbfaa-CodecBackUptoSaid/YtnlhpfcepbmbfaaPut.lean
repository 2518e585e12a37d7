/- Contracts of ints.Put and of the reference's. -/
import Derived.Test.YtnlhpfcepbmbfaaU8
import Derived.Test.YtnlhpfcepbmbfaaFieldLaw
namespace Go.Proofs.Ytnlhpfcepbmbfaa
open Go.RowKit

def putL (v : Int) : Nat → List Int
  | 0 => []
  | k + 1 => putL v k ++ [v / 2 ^ (8 * k) % 256]
theorem putL_len (v : Int) : ∀ k, (putL v k).length = k
  | 0 => rfl
  | k + 1 => by simp [putL, putL_len v k]
def putN (n : Int) : Nat := (min (max n 0) 64).toNat
theorem putL_snoc (l : List Int) (v x : Int) (k : Nat) (h : x = v / 2 ^ (8 * k) % 256) : l ++ putL v k ++ [x] = l ++ putL v (k + 1) := by
  rw [putL, List.append_assoc, h]
theorem put_zero (v : Int) (k : Nat) (h1 : 0 ≤ v) (h2 : v ≤ 18446744073709551615) (hk : 8 ≤ k) : (0 : Int) = v / 2 ^ (8 * k) % 256 := by
  have : v / 2 ^ (8 * k) = 0 := Int.ediv_eq_zero_of_lt h1 (by have := pow_le_of (show 64 ≤ 8 * k by omega); omega)
  rw [this]; rfl

theorem put_any (a : Option Addr) (n c : Nat) (l : List Int) (v m : Int) (w : World) (h : RdAt .u8 w a n c l) (hn : n ≤ 1000000000)
    (v1 : 0 ≤ v) (v2 : v ≤ 18446744073709551615) (m1 : -9223372036854775808 ≤ m) (m2 : m ≤ 9223372036854775807) :
    Calls Try.prog 38 #[.slice a n c, .int .u64 v, .int .i64 m] w fun e w' => ∃ r, e = .returned r ∧ Owns .u8 5 w' w.heap.size r (l ++ putL v (putN m)) ∧ Below w.heap.size w w' := by
  have hlen := h.len
  by_cases c1 : m ≤ 64
  by_cases c2 : 0 ≤ m
  · obtain ⟨m, rfl⟩ := Int.eq_ofNat_of_zero_le c2
    have hm : putN m = m := by unfold putN; omega
    rw [hm]
    clear hm
    go_enter Try.func38, Try.ntmps38
    go_wp2_with (at_builtin; refine app_all u8T u8I (by decide) rfl _ _ rfl _ w.heap.size _ [] rfl (Owns.empty _ _ _ _ _ _) _ _ _ l rfl (h.below ((Below.refl _ _).alloc (Nat.le_refl _) _)) (by simp; omega) (by simp) ?_; intro x1 w1 ho1 hg0)
    have hb1 := hg0.fromEmpty
    clear hg0
    go_loopw [7, 15] (fun x i wr => ∃ k : Nat, k ≤ m ∧ i = .int .i64 k ∧ Owns .u8 5 wr w.heap.size x (l ++ putL v k) ∧ Below w.heap.size w wr) (fun _ i _ => m - (intOf i).toNat)
    case atStart => exact ⟨0, by omega, rfl, by simpa [putL] using ho1, hb1⟩
    case round =>
      obtain ⟨k, hk, rfl, ho, hb⟩ := hrel
      have hll : (l ++ putL v k).length = n + k := by simp [putL_len, hlen]
      have hsz := hb.size
      have hd := div_bd v (8 * k) v1
      have hd1 := hd.1
      have hd2 : v / 2 ^ (8 * k) ≤ 18446744073709551615 := by omega
      have HLL := Lib.hid hll
      have HL := Lib.hid hlen
      clear hd hll ho1 hb1 hlen
      by_cases hp : k < m
      · by_cases h8 : k < 8
        · go_wp2_with (at_builtin; refine app_one u8T u8I (by decide) rfl _ _ rfl _ w.heap.size _ (l ++ putL v k) rfl ho _ rfl ?_ (by rw [HLL.out]; omega) hsz ?_; exact wf_mod8 _; intro x2 w2 ho2 hb2)
          go_roundw
          case rel => exact ⟨k + 1, by omega, by go_num, by rw [putL_snoc _ _ _ _ rfl] at ho2; exact ho2, hb.trans (hb2.below hsz (fun g hg => (ho.at_base g hg).1))⟩
          case measure => simp [intOf] <;> omega
        · go_wp2_with (at_builtin; refine app_one u8T u8I (by decide) rfl _ _ rfl _ w.heap.size _ (l ++ putL v k) rfl ho _ rfl ?_ (by rw [HLL.out]; omega) hsz ?_; decide; intro x2 w2 ho2 hb2)
          go_roundw
          case rel => exact ⟨k + 1, by omega, by go_num, by rw [putL_snoc _ _ _ _ (put_zero v k v1 v2 (by omega))] at ho2; exact ho2, hb.trans (hb2.below hsz (fun g hg => (ho.at_base g hg).1))⟩
          case measure => simp [intOf] <;> omega
      · obtain rfl : k = m := by omega
        go_wp2
        go_ret
        exact ⟨_, rfl, ho, hb⟩
  · skip
    have hm : putN m = 0 := by unfold putN; omega
    rw [hm]
    clear hm
    go_enter Try.func38, Try.ntmps38
    go_wp2_with (at_builtin; refine app_all u8T u8I (by decide) rfl _ _ rfl _ w.heap.size _ [] rfl (Owns.empty _ _ _ _ _ _) _ _ _ l rfl (h.below ((Below.refl _ _).alloc (Nat.le_refl _) _)) (by simp; omega) (by simp) ?_; intro x1 w1 ho1 hg0)
    have hb1 := hg0.fromEmpty
    clear hg0
    go_loopw [7, 15] (fun x i wr => ∃ k : Nat, k ≤ 0 ∧ i = .int .i64 k ∧ Owns .u8 5 wr w.heap.size x (l ++ putL v k) ∧ Below w.heap.size w wr) (fun _ i _ => 0 - (intOf i).toNat)
    case atStart => exact ⟨0, by omega, rfl, by simpa [putL] using ho1, hb1⟩
    case round =>
      obtain ⟨k, hk, rfl, ho, hb⟩ := hrel
      have hll : (l ++ putL v k).length = n + k := by simp [putL_len, hlen]
      have hsz := hb.size
      have hd := div_bd v (8 * k) v1
      have hd1 := hd.1
      have hd2 : v / 2 ^ (8 * k) ≤ 18446744073709551615 := by omega
      have HLL := Lib.hid hll
      have HL := Lib.hid hlen
      clear hd hll ho1 hb1 hlen
      by_cases hp : k < 0
      · exfalso; omega
      · obtain rfl : k = 0 := by omega
        go_wp2
        go_ret
        exact ⟨_, rfl, ho, hb⟩
  · skip
    have hm : putN m = 64 := by unfold putN; omega
    rw [hm]
    clear hm
    go_enter Try.func38, Try.ntmps38
    go_wp2_with (at_builtin; refine app_all u8T u8I (by decide) rfl _ _ rfl _ w.heap.size _ [] rfl (Owns.empty _ _ _ _ _ _) _ _ _ l rfl (h.below ((Below.refl _ _).alloc (Nat.le_refl _) _)) (by simp; omega) (by simp) ?_; intro x1 w1 ho1 hg0)
    have hb1 := hg0.fromEmpty
    clear hg0
    go_loopw [7, 15] (fun x i wr => ∃ k : Nat, k ≤ 64 ∧ i = .int .i64 k ∧ Owns .u8 5 wr w.heap.size x (l ++ putL v k) ∧ Below w.heap.size w wr) (fun _ i _ => 64 - (intOf i).toNat)
    case atStart => exact ⟨0, by omega, rfl, by simpa [putL] using ho1, hb1⟩
    case round =>
      obtain ⟨k, hk, rfl, ho, hb⟩ := hrel
      have hll : (l ++ putL v k).length = n + k := by simp [putL_len, hlen]
      have hsz := hb.size
      have hd := div_bd v (8 * k) v1
      have hd1 := hd.1
      have hd2 : v / 2 ^ (8 * k) ≤ 18446744073709551615 := by omega
      have HLL := Lib.hid hll
      have HL := Lib.hid hlen
      clear hd hll ho1 hb1 hlen
      by_cases hp : k < 64
      · by_cases h8 : k < 8
        · go_wp2_with (at_builtin; refine app_one u8T u8I (by decide) rfl _ _ rfl _ w.heap.size _ (l ++ putL v k) rfl ho _ rfl ?_ (by rw [HLL.out]; omega) hsz ?_; exact wf_mod8 _; intro x2 w2 ho2 hb2)
          go_roundw
          case rel => exact ⟨k + 1, by omega, by go_num, by rw [putL_snoc _ _ _ _ rfl] at ho2; exact ho2, hb.trans (hb2.below hsz (fun g hg => (ho.at_base g hg).1))⟩
          case measure => simp [intOf] <;> omega
        · go_wp2_with (at_builtin; refine app_one u8T u8I (by decide) rfl _ _ rfl _ w.heap.size _ (l ++ putL v k) rfl ho _ rfl ?_ (by rw [HLL.out]; omega) hsz ?_; decide; intro x2 w2 ho2 hb2)
          go_roundw
          case rel => exact ⟨k + 1, by omega, by go_num, by rw [putL_snoc _ _ _ _ (put_zero v k v1 v2 (by omega))] at ho2; exact ho2, hb.trans (hb2.below hsz (fun g hg => (ho.at_base g hg).1))⟩
          case measure => simp [intOf] <;> omega
      · obtain rfl : k = 64 := by omega
        go_wp2
        go_ret
        exact ⟨_, rfl, ho, hb⟩

end Go.Proofs.Ytnlhpfcepbmbfaa
