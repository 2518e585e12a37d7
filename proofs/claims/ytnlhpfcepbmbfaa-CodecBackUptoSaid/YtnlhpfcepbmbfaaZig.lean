/- Contracts of ints.Zig, Zag and of the references'. -/
import Derived.Test.YtnlhpfcepbmbfaaProg
import Derived.Test.YtnlhpfcepbmbfaaBits
import Derived.WalkKit
import Derived.ProofKit
import Derived.Lib.Hide
namespace Go.Proofs.Ytnlhpfcepbmbfaa
open Go.RowKit

theorem zig_any (v : Int) (w : World) (h1 : -9223372036854775808 ≤ v) (h2 : v ≤ 9223372036854775807) :
    Calls Try.prog 61 #[.int .i64 v] w fun e w' => e = .returned (.int .u64 (zigI v)) ∧ w = w' := by
  go_enter Try.func61, Try.ntmps61
  go_wp2
  go_ret
  exact ⟨ret_int (zig_go v h1 h2), rfl⟩
theorem zag_any (v : Int) (w : World) (h1 : 0 ≤ v) (h2 : v ≤ 18446744073709551615) :
    Calls Try.prog 66 #[.int .u64 v] w fun e w' => e = .returned (.int .i64 (zagI v)) ∧ w = w' := by
  go_enter Try.func66, Try.ntmps66
  go_wp2
  go_ret
  exact ⟨ret_int (zag_go v h1 h2), rfl⟩
theorem rzig_any (v : Int) (w : World) (h1 : -9223372036854775808 ≤ v) (h2 : v ≤ 9223372036854775807) :
    Calls Try.prog 71 #[.int .i64 v] w fun e w' => e = .returned (.int .u64 (zigI v)) ∧ w = w' := by
  go_enter Try.func71, Try.ntmps71
  go_wp2
  · go_ret
    exact ⟨ret_int (by unfold zigI; rw [if_pos (by assumption)]), rfl⟩
  · go_ret
    exact ⟨ret_int (by unfold zigI; rw [if_neg (by omega)]), rfl⟩
theorem rzag_any (v : Int) (w : World) (h1 : 0 ≤ v) (h2 : v ≤ 18446744073709551615) :
    Calls Try.prog 58 #[.int .u64 v] w fun e w' => e = .returned (.int .i64 (zagI v)) ∧ w = w' := by
  by_cases h : v % 2 = 1
  · have h' : (v % 2 == 1) = true := by simpa using h
    have e : zagI v = -(v / 2) - 1 := by unfold zagI; rw [if_pos h]
    clear h
    go_enter Try.func58, Try.ntmps58
    go_wp2
    go_ret
    exact ⟨ret_int e.symm, rfl⟩
  · have h' : (v % 2 == 1) = false := by simpa using h
    have e : zagI v = v / 2 := by unfold zagI; rw [if_neg h]
    clear h
    go_enter Try.func58, Try.ntmps58
    go_wp2
    go_ret
    exact ⟨ret_int e.symm, rfl⟩
end Go.Proofs.Ytnlhpfcepbmbfaa
