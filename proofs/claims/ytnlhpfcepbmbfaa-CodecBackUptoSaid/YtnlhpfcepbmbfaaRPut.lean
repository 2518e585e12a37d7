/- The contract of the reference's Put. -/
import Derived.Test.YtnlhpfcepbmbfaaPut
namespace Go.Proofs.Ytnlhpfcepbmbfaa
open Go.RowKit
theorem rput_any (x0 : Value) (l : List Int) (v m : Int) (w : World) (base : Nat) (h : Owns .u8 5 w base x0 l) (hbase : base ≤ w.heap.size) (hn : l.length ≤ 1000000000)
    (v1 : 0 ≤ v) (v2 : v ≤ 18446744073709551615) (m1 : -9223372036854775808 ≤ m) (m2 : m ≤ 9223372036854775807) :
    Calls Try.prog 39 #[x0, .int .u64 v, .int .i64 m] w fun e w' => ∃ r, e = .returned r ∧ Owns .u8 5 w' base r (l ++ putL v (putN m)) ∧ Grows w x0 w' r := by
  by_cases c1 : m ≤ 64
  by_cases c2 : 0 ≤ m
  · obtain ⟨m, rfl⟩ := Int.eq_ofNat_of_zero_le c2
    have hm : putN m = m := by unfold putN; omega
    rw [hm]
    clear hm
    go_enter Try.func39, Try.ntmps39
    go_wp2
    go_loopw [0, 1, 7] (fun x y i wr => ∃ k : Nat, k ≤ m ∧ i = .int .i64 k ∧ y = .int .u64 (v / 2 ^ (8 * k)) ∧ Owns .u8 5 wr base x (l ++ putL v k) ∧ Grows w x0 wr x) (fun _ _ i _ => m - (intOf i).toNat)
    case atStart => exact ⟨0, by omega, rfl, by simp, by simpa [putL] using h, Grows.refl _ _⟩
    case round =>
      obtain ⟨k, hk, rfl, rfl, ho, hb⟩ := hrel
      have hll : (l ++ putL v k).length = l.length + k := by simp [putL_len]
      have hsz := hb.1.size
      have hd := div_bd v (8 * k) v1
      have hd1 := hd.1
      have hd2 : v / 2 ^ (8 * k) ≤ 18446744073709551615 := by omega
      have HLL := Lib.hid hll
      clear hd hll
      by_cases hp : k < m
      · go_wp2_with (at_builtin; refine app_one u8T u8I (by decide) rfl _ _ rfl _ base _ (l ++ putL v k) rfl ho _ rfl ?_ (by rw [HLL.out]; omega) (by omega) ?_; exact wf_mod8 _; intro x2 w2 ho2 hb2)
        go_roundw
        case rel => exact ⟨k + 1, by omega, by go_num, by rw [turn_ref], by rw [putL_snoc _ _ _ _ rfl] at ho2; exact ho2, hb.trans hb2⟩
        case measure => simp [intOf] <;> omega
      · obtain rfl : k = m := by omega
        go_wp2
        go_ret
        exact ⟨_, rfl, ho, hb⟩
  · skip
    have hm : putN m = 0 := by unfold putN; omega
    rw [hm]
    clear hm
    go_enter Try.func39, Try.ntmps39
    go_wp2
    go_loopw [0, 1, 7] (fun x y i wr => ∃ k : Nat, k ≤ 0 ∧ i = .int .i64 k ∧ y = .int .u64 (v / 2 ^ (8 * k)) ∧ Owns .u8 5 wr base x (l ++ putL v k) ∧ Grows w x0 wr x) (fun _ _ i _ => 0 - (intOf i).toNat)
    case atStart => exact ⟨0, by omega, rfl, by simp, by simpa [putL] using h, Grows.refl _ _⟩
    case round =>
      obtain ⟨k, hk, rfl, rfl, ho, hb⟩ := hrel
      have hll : (l ++ putL v k).length = l.length + k := by simp [putL_len]
      have hsz := hb.1.size
      have hd := div_bd v (8 * k) v1
      have hd1 := hd.1
      have hd2 : v / 2 ^ (8 * k) ≤ 18446744073709551615 := by omega
      have HLL := Lib.hid hll
      clear hd hll
      by_cases hp : k < 0
      · exfalso; omega
      · obtain rfl : k = 0 := by omega
        go_wp2
        go_ret
        exact ⟨_, rfl, ho, hb⟩
  · skip
    have hm : putN m = 64 := by unfold putN; omega
    rw [hm]
    clear hm
    go_enter Try.func39, Try.ntmps39
    go_wp2
    go_loopw [0, 1, 7] (fun x y i wr => ∃ k : Nat, k ≤ 64 ∧ i = .int .i64 k ∧ y = .int .u64 (v / 2 ^ (8 * k)) ∧ Owns .u8 5 wr base x (l ++ putL v k) ∧ Grows w x0 wr x) (fun _ _ i _ => 64 - (intOf i).toNat)
    case atStart => exact ⟨0, by omega, rfl, by simp, by simpa [putL] using h, Grows.refl _ _⟩
    case round =>
      obtain ⟨k, hk, rfl, rfl, ho, hb⟩ := hrel
      have hll : (l ++ putL v k).length = l.length + k := by simp [putL_len]
      have hsz := hb.1.size
      have hd := div_bd v (8 * k) v1
      have hd1 := hd.1
      have hd2 : v / 2 ^ (8 * k) ≤ 18446744073709551615 := by omega
      have HLL := Lib.hid hll
      clear hd hll
      by_cases hp : k < 64
      · go_wp2_with (at_builtin; refine app_one u8T u8I (by decide) rfl _ _ rfl _ base _ (l ++ putL v k) rfl ho _ rfl ?_ (by rw [HLL.out]; omega) (by omega) ?_; exact wf_mod8 _; intro x2 w2 ho2 hb2)
        go_roundw
        case rel => exact ⟨k + 1, by omega, by go_num, by rw [turn_ref], by rw [putL_snoc _ _ _ _ rfl] at ho2; exact ho2, hb.trans hb2⟩
        case measure => simp [intOf] <;> omega
      · obtain rfl : k = 64 := by omega
        go_wp2
        go_ret
        exact ⟨_, rfl, ho, hb⟩
end Go.Proofs.Ytnlhpfcepbmbfaa
