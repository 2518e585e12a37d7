/- The walk of almanaclaw1.IntsNarrow: it answers true at every number. -/
import Derived.Test.YtpaddiggieklfaaKnown1
import Derived.Test.YtpaddiggieklfaaNarrow
namespace Go.Proofs.Ytpaddiggieklfaa
open Go.RowKit

set_option maxRecDepth 100000 in
set_option maxHeartbeats 1000000 in
theorem narrow_way0 (v : Int) (w : World) (g1 : -9223372036854775808 ≤ v) (g2 : v ≤ -2147483649) :
    Calls Try.prog 5 #[.int .i64 v] w fun e w' => e = .returned (.bool true) ∧ Below w.heap.size w w' := by
  have hbv : (v != v) = false := by simp
  go_enter Try.func5, Try.ntmps5
  go_wp2_with (first | (go_at_call 10; refine (known1 _).mono ?_; rintro e w1 ⟨rfl, hb⟩) | (go_at_call 13; refine (narrow_i8_out _ _ (by omega) (by omega) (by omega)).mono ?_; rintro e w' ⟨rfl, rfl⟩) | (go_at_call 14; refine (narrow_i16_out _ _ (by omega) (by omega) (by omega)).mono ?_; rintro e w' ⟨rfl, rfl⟩) | (go_at_call 15; refine (narrow_i32_out _ _ (by omega) (by omega) (by omega)).mono ?_; rintro e w' ⟨rfl, rfl⟩) | (go_at_call 16; refine (narrow_u8_out _ _ (by omega) (by omega) (by omega)).mono ?_; rintro e w' ⟨rfl, rfl⟩) | (go_at_call 17; refine (narrow_u16_out _ _ (by omega) (by omega) (by omega)).mono ?_; rintro e w' ⟨rfl, rfl⟩) | (go_at_call 18; refine (narrow_u32_out _ _ (by omega) (by omega) (by omega)).mono ?_; rintro e w' ⟨rfl, rfl⟩))
  go_ret
  exact ⟨rfl, hb⟩

set_option maxRecDepth 100000 in
set_option maxHeartbeats 1000000 in
theorem narrow_way1 (v : Int) (w : World) (g1 : -2147483648 ≤ v) (g2 : v ≤ -32769) :
    Calls Try.prog 5 #[.int .i64 v] w fun e w' => e = .returned (.bool true) ∧ Below w.heap.size w w' := by
  have hbv : (v != v) = false := by simp
  go_enter Try.func5, Try.ntmps5
  go_wp2_with (first | (go_at_call 10; refine (known1 _).mono ?_; rintro e w1 ⟨rfl, hb⟩) | (go_at_call 13; refine (narrow_i8_out _ _ (by omega) (by omega) (by omega)).mono ?_; rintro e w' ⟨rfl, rfl⟩) | (go_at_call 14; refine (narrow_i16_out _ _ (by omega) (by omega) (by omega)).mono ?_; rintro e w' ⟨rfl, rfl⟩) | (go_at_call 15; refine (narrow_i32_in _ _ (by omega) (by omega)).mono ?_; rintro e w' ⟨rfl, rfl⟩) | (go_at_call 16; refine (narrow_u8_out _ _ (by omega) (by omega) (by omega)).mono ?_; rintro e w' ⟨rfl, rfl⟩) | (go_at_call 17; refine (narrow_u16_out _ _ (by omega) (by omega) (by omega)).mono ?_; rintro e w' ⟨rfl, rfl⟩) | (go_at_call 18; refine (narrow_u32_out _ _ (by omega) (by omega) (by omega)).mono ?_; rintro e w' ⟨rfl, rfl⟩))
  go_ret
  exact ⟨rfl, hb⟩

set_option maxRecDepth 100000 in
set_option maxHeartbeats 1000000 in
theorem narrow_way2 (v : Int) (w : World) (g1 : -32768 ≤ v) (g2 : v ≤ -129) :
    Calls Try.prog 5 #[.int .i64 v] w fun e w' => e = .returned (.bool true) ∧ Below w.heap.size w w' := by
  have hbv : (v != v) = false := by simp
  go_enter Try.func5, Try.ntmps5
  go_wp2_with (first | (go_at_call 10; refine (known1 _).mono ?_; rintro e w1 ⟨rfl, hb⟩) | (go_at_call 13; refine (narrow_i8_out _ _ (by omega) (by omega) (by omega)).mono ?_; rintro e w' ⟨rfl, rfl⟩) | (go_at_call 14; refine (narrow_i16_in _ _ (by omega) (by omega)).mono ?_; rintro e w' ⟨rfl, rfl⟩) | (go_at_call 15; refine (narrow_i32_in _ _ (by omega) (by omega)).mono ?_; rintro e w' ⟨rfl, rfl⟩) | (go_at_call 16; refine (narrow_u8_out _ _ (by omega) (by omega) (by omega)).mono ?_; rintro e w' ⟨rfl, rfl⟩) | (go_at_call 17; refine (narrow_u16_out _ _ (by omega) (by omega) (by omega)).mono ?_; rintro e w' ⟨rfl, rfl⟩) | (go_at_call 18; refine (narrow_u32_out _ _ (by omega) (by omega) (by omega)).mono ?_; rintro e w' ⟨rfl, rfl⟩))
  go_ret
  exact ⟨rfl, hb⟩

set_option maxRecDepth 100000 in
set_option maxHeartbeats 1000000 in
theorem narrow_way3 (v : Int) (w : World) (g1 : -128 ≤ v) (g2 : v ≤ -1) :
    Calls Try.prog 5 #[.int .i64 v] w fun e w' => e = .returned (.bool true) ∧ Below w.heap.size w w' := by
  have hbv : (v != v) = false := by simp
  go_enter Try.func5, Try.ntmps5
  go_wp2_with (first | (go_at_call 10; refine (known1 _).mono ?_; rintro e w1 ⟨rfl, hb⟩) | (go_at_call 13; refine (narrow_i8_in _ _ (by omega) (by omega)).mono ?_; rintro e w' ⟨rfl, rfl⟩) | (go_at_call 14; refine (narrow_i16_in _ _ (by omega) (by omega)).mono ?_; rintro e w' ⟨rfl, rfl⟩) | (go_at_call 15; refine (narrow_i32_in _ _ (by omega) (by omega)).mono ?_; rintro e w' ⟨rfl, rfl⟩) | (go_at_call 16; refine (narrow_u8_out _ _ (by omega) (by omega) (by omega)).mono ?_; rintro e w' ⟨rfl, rfl⟩) | (go_at_call 17; refine (narrow_u16_out _ _ (by omega) (by omega) (by omega)).mono ?_; rintro e w' ⟨rfl, rfl⟩) | (go_at_call 18; refine (narrow_u32_out _ _ (by omega) (by omega) (by omega)).mono ?_; rintro e w' ⟨rfl, rfl⟩))
  go_ret
  exact ⟨rfl, hb⟩

set_option maxRecDepth 100000 in
set_option maxHeartbeats 1000000 in
theorem narrow_way4 (v : Int) (w : World) (g1 : 0 ≤ v) (g2 : v ≤ 127) :
    Calls Try.prog 5 #[.int .i64 v] w fun e w' => e = .returned (.bool true) ∧ Below w.heap.size w w' := by
  have hbv : (v != v) = false := by simp
  go_enter Try.func5, Try.ntmps5
  go_wp2_with (first | (go_at_call 10; refine (known1 _).mono ?_; rintro e w1 ⟨rfl, hb⟩) | (go_at_call 13; refine (narrow_i8_in _ _ (by omega) (by omega)).mono ?_; rintro e w' ⟨rfl, rfl⟩) | (go_at_call 14; refine (narrow_i16_in _ _ (by omega) (by omega)).mono ?_; rintro e w' ⟨rfl, rfl⟩) | (go_at_call 15; refine (narrow_i32_in _ _ (by omega) (by omega)).mono ?_; rintro e w' ⟨rfl, rfl⟩) | (go_at_call 16; refine (narrow_u8_in _ _ (by omega) (by omega)).mono ?_; rintro e w' ⟨rfl, rfl⟩) | (go_at_call 17; refine (narrow_u16_in _ _ (by omega) (by omega)).mono ?_; rintro e w' ⟨rfl, rfl⟩) | (go_at_call 18; refine (narrow_u32_in _ _ (by omega) (by omega)).mono ?_; rintro e w' ⟨rfl, rfl⟩))
  go_ret
  exact ⟨rfl, hb⟩

set_option maxRecDepth 100000 in
set_option maxHeartbeats 1000000 in
theorem narrow_way5 (v : Int) (w : World) (g1 : 128 ≤ v) (g2 : v ≤ 255) :
    Calls Try.prog 5 #[.int .i64 v] w fun e w' => e = .returned (.bool true) ∧ Below w.heap.size w w' := by
  have hbv : (v != v) = false := by simp
  go_enter Try.func5, Try.ntmps5
  go_wp2_with (first | (go_at_call 10; refine (known1 _).mono ?_; rintro e w1 ⟨rfl, hb⟩) | (go_at_call 13; refine (narrow_i8_out _ _ (by omega) (by omega) (by omega)).mono ?_; rintro e w' ⟨rfl, rfl⟩) | (go_at_call 14; refine (narrow_i16_in _ _ (by omega) (by omega)).mono ?_; rintro e w' ⟨rfl, rfl⟩) | (go_at_call 15; refine (narrow_i32_in _ _ (by omega) (by omega)).mono ?_; rintro e w' ⟨rfl, rfl⟩) | (go_at_call 16; refine (narrow_u8_in _ _ (by omega) (by omega)).mono ?_; rintro e w' ⟨rfl, rfl⟩) | (go_at_call 17; refine (narrow_u16_in _ _ (by omega) (by omega)).mono ?_; rintro e w' ⟨rfl, rfl⟩) | (go_at_call 18; refine (narrow_u32_in _ _ (by omega) (by omega)).mono ?_; rintro e w' ⟨rfl, rfl⟩))
  go_ret
  exact ⟨rfl, hb⟩

set_option maxRecDepth 100000 in
set_option maxHeartbeats 1000000 in
theorem narrow_way6 (v : Int) (w : World) (g1 : 256 ≤ v) (g2 : v ≤ 32767) :
    Calls Try.prog 5 #[.int .i64 v] w fun e w' => e = .returned (.bool true) ∧ Below w.heap.size w w' := by
  have hbv : (v != v) = false := by simp
  go_enter Try.func5, Try.ntmps5
  go_wp2_with (first | (go_at_call 10; refine (known1 _).mono ?_; rintro e w1 ⟨rfl, hb⟩) | (go_at_call 13; refine (narrow_i8_out _ _ (by omega) (by omega) (by omega)).mono ?_; rintro e w' ⟨rfl, rfl⟩) | (go_at_call 14; refine (narrow_i16_in _ _ (by omega) (by omega)).mono ?_; rintro e w' ⟨rfl, rfl⟩) | (go_at_call 15; refine (narrow_i32_in _ _ (by omega) (by omega)).mono ?_; rintro e w' ⟨rfl, rfl⟩) | (go_at_call 16; refine (narrow_u8_out _ _ (by omega) (by omega) (by omega)).mono ?_; rintro e w' ⟨rfl, rfl⟩) | (go_at_call 17; refine (narrow_u16_in _ _ (by omega) (by omega)).mono ?_; rintro e w' ⟨rfl, rfl⟩) | (go_at_call 18; refine (narrow_u32_in _ _ (by omega) (by omega)).mono ?_; rintro e w' ⟨rfl, rfl⟩))
  go_ret
  exact ⟨rfl, hb⟩

set_option maxRecDepth 100000 in
set_option maxHeartbeats 1000000 in
theorem narrow_way7 (v : Int) (w : World) (g1 : 32768 ≤ v) (g2 : v ≤ 65535) :
    Calls Try.prog 5 #[.int .i64 v] w fun e w' => e = .returned (.bool true) ∧ Below w.heap.size w w' := by
  have hbv : (v != v) = false := by simp
  go_enter Try.func5, Try.ntmps5
  go_wp2_with (first | (go_at_call 10; refine (known1 _).mono ?_; rintro e w1 ⟨rfl, hb⟩) | (go_at_call 13; refine (narrow_i8_out _ _ (by omega) (by omega) (by omega)).mono ?_; rintro e w' ⟨rfl, rfl⟩) | (go_at_call 14; refine (narrow_i16_out _ _ (by omega) (by omega) (by omega)).mono ?_; rintro e w' ⟨rfl, rfl⟩) | (go_at_call 15; refine (narrow_i32_in _ _ (by omega) (by omega)).mono ?_; rintro e w' ⟨rfl, rfl⟩) | (go_at_call 16; refine (narrow_u8_out _ _ (by omega) (by omega) (by omega)).mono ?_; rintro e w' ⟨rfl, rfl⟩) | (go_at_call 17; refine (narrow_u16_in _ _ (by omega) (by omega)).mono ?_; rintro e w' ⟨rfl, rfl⟩) | (go_at_call 18; refine (narrow_u32_in _ _ (by omega) (by omega)).mono ?_; rintro e w' ⟨rfl, rfl⟩))
  go_ret
  exact ⟨rfl, hb⟩

set_option maxRecDepth 100000 in
set_option maxHeartbeats 1000000 in
theorem narrow_way8 (v : Int) (w : World) (g1 : 65536 ≤ v) (g2 : v ≤ 2147483647) :
    Calls Try.prog 5 #[.int .i64 v] w fun e w' => e = .returned (.bool true) ∧ Below w.heap.size w w' := by
  have hbv : (v != v) = false := by simp
  go_enter Try.func5, Try.ntmps5
  go_wp2_with (first | (go_at_call 10; refine (known1 _).mono ?_; rintro e w1 ⟨rfl, hb⟩) | (go_at_call 13; refine (narrow_i8_out _ _ (by omega) (by omega) (by omega)).mono ?_; rintro e w' ⟨rfl, rfl⟩) | (go_at_call 14; refine (narrow_i16_out _ _ (by omega) (by omega) (by omega)).mono ?_; rintro e w' ⟨rfl, rfl⟩) | (go_at_call 15; refine (narrow_i32_in _ _ (by omega) (by omega)).mono ?_; rintro e w' ⟨rfl, rfl⟩) | (go_at_call 16; refine (narrow_u8_out _ _ (by omega) (by omega) (by omega)).mono ?_; rintro e w' ⟨rfl, rfl⟩) | (go_at_call 17; refine (narrow_u16_out _ _ (by omega) (by omega) (by omega)).mono ?_; rintro e w' ⟨rfl, rfl⟩) | (go_at_call 18; refine (narrow_u32_in _ _ (by omega) (by omega)).mono ?_; rintro e w' ⟨rfl, rfl⟩))
  go_ret
  exact ⟨rfl, hb⟩

set_option maxRecDepth 100000 in
set_option maxHeartbeats 1000000 in
theorem narrow_way9 (v : Int) (w : World) (g1 : 2147483648 ≤ v) (g2 : v ≤ 4294967295) :
    Calls Try.prog 5 #[.int .i64 v] w fun e w' => e = .returned (.bool true) ∧ Below w.heap.size w w' := by
  have hbv : (v != v) = false := by simp
  go_enter Try.func5, Try.ntmps5
  go_wp2_with (first | (go_at_call 10; refine (known1 _).mono ?_; rintro e w1 ⟨rfl, hb⟩) | (go_at_call 13; refine (narrow_i8_out _ _ (by omega) (by omega) (by omega)).mono ?_; rintro e w' ⟨rfl, rfl⟩) | (go_at_call 14; refine (narrow_i16_out _ _ (by omega) (by omega) (by omega)).mono ?_; rintro e w' ⟨rfl, rfl⟩) | (go_at_call 15; refine (narrow_i32_out _ _ (by omega) (by omega) (by omega)).mono ?_; rintro e w' ⟨rfl, rfl⟩) | (go_at_call 16; refine (narrow_u8_out _ _ (by omega) (by omega) (by omega)).mono ?_; rintro e w' ⟨rfl, rfl⟩) | (go_at_call 17; refine (narrow_u16_out _ _ (by omega) (by omega) (by omega)).mono ?_; rintro e w' ⟨rfl, rfl⟩) | (go_at_call 18; refine (narrow_u32_in _ _ (by omega) (by omega)).mono ?_; rintro e w' ⟨rfl, rfl⟩))
  go_ret
  exact ⟨rfl, hb⟩

set_option maxRecDepth 100000 in
set_option maxHeartbeats 1000000 in
theorem narrow_way10 (v : Int) (w : World) (g1 : 4294967296 ≤ v) (g2 : v ≤ 9223372036854775807) :
    Calls Try.prog 5 #[.int .i64 v] w fun e w' => e = .returned (.bool true) ∧ Below w.heap.size w w' := by
  have hbv : (v != v) = false := by simp
  have hbd : decide (v ≤ 4294967295) = false := by simp; omega
  go_enter Try.func5, Try.ntmps5
  go_wp2_with (first | (go_at_call 10; refine (known1 _).mono ?_; rintro e w1 ⟨rfl, hb⟩) | (go_at_call 13; refine (narrow_i8_out _ _ (by omega) (by omega) (by omega)).mono ?_; rintro e w' ⟨rfl, rfl⟩) | (go_at_call 14; refine (narrow_i16_out _ _ (by omega) (by omega) (by omega)).mono ?_; rintro e w' ⟨rfl, rfl⟩) | (go_at_call 15; refine (narrow_i32_out _ _ (by omega) (by omega) (by omega)).mono ?_; rintro e w' ⟨rfl, rfl⟩) | (go_at_call 16; refine (narrow_u8_out _ _ (by omega) (by omega) (by omega)).mono ?_; rintro e w' ⟨rfl, rfl⟩) | (go_at_call 17; refine (narrow_u16_out _ _ (by omega) (by omega) (by omega)).mono ?_; rintro e w' ⟨rfl, rfl⟩) | (go_at_call 18; refine (narrow_u32_out _ _ (by omega) (by omega) (by omega)).mono ?_; rintro e w' ⟨rfl, rfl⟩))
  go_ret
  exact ⟨rfl, hb⟩

theorem intsNarrow_walk (v : Int) (w : World) (w0 : (Lit.int .i64 v).wf = true) :
    Calls Try.prog 5 #[.int .i64 v] w fun e w' => e = .returned (.bool true) ∧ Below w.heap.size w w' := by
  obtain ⟨v1, v2⟩ := wf_i64_bd w0
  by_cases c0 : v ≤ -2147483649
  · exact narrow_way0 v w (by omega) (by omega)
  by_cases c1 : v ≤ -32769
  · exact narrow_way1 v w (by omega) (by omega)
  by_cases c2 : v ≤ -129
  · exact narrow_way2 v w (by omega) (by omega)
  by_cases c3 : v ≤ -1
  · exact narrow_way3 v w (by omega) (by omega)
  by_cases c4 : v ≤ 127
  · exact narrow_way4 v w (by omega) (by omega)
  by_cases c5 : v ≤ 255
  · exact narrow_way5 v w (by omega) (by omega)
  by_cases c6 : v ≤ 32767
  · exact narrow_way6 v w (by omega) (by omega)
  by_cases c7 : v ≤ 65535
  · exact narrow_way7 v w (by omega) (by omega)
  by_cases c8 : v ≤ 2147483647
  · exact narrow_way8 v w (by omega) (by omega)
  by_cases c9 : v ≤ 4294967295
  · exact narrow_way9 v w (by omega) (by omega)
  exact narrow_way10 v w (by omega) (by omega)
end Go.Proofs.Ytpaddiggieklfaa
