/- Contracts of ints.Narrow at its six types. -/
import Derived.Test.YtpaddiggieklfaaProg
import Derived.Test.YtpaddiggieklfaaBits
import Derived.ProofKit
namespace Go.Proofs.Ytpaddiggieklfaa
open Go.RowKit

theorem narrow_i8_in (v : Int) (w : World) (h1 : -128 ≤ v) (h2 : v ≤ 127) :
    Calls Try.prog 13 #[.int .i64 v] w fun e w' => e = .returned (.tuple #[.int .i8 v, .bool true]) ∧ w = w' := by
  have hb : (v != v) = false := by simp
  go_enter Try.func13, Try.ntmps13
  go_wp2
  go_ret2
  exact ⟨rfl, rfl⟩
theorem narrow_i8_out (v : Int) (w : World) (b1 : -9223372036854775808 ≤ v) (b2 : v ≤ 9223372036854775807) (h : v < -128 ∨ 127 < v) :
    Calls Try.prog 13 #[.int .i64 v] w fun e w' => e = .returned (.tuple #[.int .i8 0, .bool false]) ∧ w = w' := by
  have hb : (IntKind.i8.wrap v != v) = true := by
    simp only [bne_iff_ne, ne_eq]
    rw [IntKind.wrap]
    simp only [IntKind.bits, IntKind.signed]
    simp
    try split
    all_goals omega
  have hw1 : -128 ≤ IntKind.i8.wrap v ∧ IntKind.i8.wrap v ≤ 127 := by
    rw [IntKind.wrap]
    simp only [IntKind.bits, IntKind.signed]
    simp
    try split
    all_goals omega
  obtain ⟨hw2, hw3⟩ := hw1
  clear h
  go_enter Try.func13, Try.ntmps13
  go_wp2
  go_ret2
  exact ⟨rfl, rfl⟩

theorem narrow_i16_in (v : Int) (w : World) (h1 : -32768 ≤ v) (h2 : v ≤ 32767) :
    Calls Try.prog 14 #[.int .i64 v] w fun e w' => e = .returned (.tuple #[.int .i16 v, .bool true]) ∧ w = w' := by
  have hb : (v != v) = false := by simp
  go_enter Try.func14, Try.ntmps14
  go_wp2
  go_ret2
  exact ⟨rfl, rfl⟩
theorem narrow_i16_out (v : Int) (w : World) (b1 : -9223372036854775808 ≤ v) (b2 : v ≤ 9223372036854775807) (h : v < -32768 ∨ 32767 < v) :
    Calls Try.prog 14 #[.int .i64 v] w fun e w' => e = .returned (.tuple #[.int .i16 0, .bool false]) ∧ w = w' := by
  have hb : (IntKind.i16.wrap v != v) = true := by
    simp only [bne_iff_ne, ne_eq]
    rw [IntKind.wrap]
    simp only [IntKind.bits, IntKind.signed]
    simp
    try split
    all_goals omega
  have hw1 : -32768 ≤ IntKind.i16.wrap v ∧ IntKind.i16.wrap v ≤ 32767 := by
    rw [IntKind.wrap]
    simp only [IntKind.bits, IntKind.signed]
    simp
    try split
    all_goals omega
  obtain ⟨hw2, hw3⟩ := hw1
  clear h
  go_enter Try.func14, Try.ntmps14
  go_wp2
  go_ret2
  exact ⟨rfl, rfl⟩

theorem narrow_i32_in (v : Int) (w : World) (h1 : -2147483648 ≤ v) (h2 : v ≤ 2147483647) :
    Calls Try.prog 15 #[.int .i64 v] w fun e w' => e = .returned (.tuple #[.int .i32 v, .bool true]) ∧ w = w' := by
  have hb : (v != v) = false := by simp
  go_enter Try.func15, Try.ntmps15
  go_wp2
  go_ret2
  exact ⟨rfl, rfl⟩
theorem narrow_i32_out (v : Int) (w : World) (b1 : -9223372036854775808 ≤ v) (b2 : v ≤ 9223372036854775807) (h : v < -2147483648 ∨ 2147483647 < v) :
    Calls Try.prog 15 #[.int .i64 v] w fun e w' => e = .returned (.tuple #[.int .i32 0, .bool false]) ∧ w = w' := by
  have hb : (wrap32 v != v) = true := by
    simp only [bne_iff_ne, ne_eq]
    unfold wrap32; omega
  have hw1 : -2147483648 ≤ wrap32 v ∧ wrap32 v ≤ 2147483647 := by
    unfold wrap32; omega
  obtain ⟨hw2, hw3⟩ := hw1
  clear h
  go_enter Try.func15, Try.ntmps15
  go_wp2
  go_ret2
  exact ⟨rfl, rfl⟩

theorem narrow_u8_in (v : Int) (w : World) (h1 : 0 ≤ v) (h2 : v ≤ 255) :
    Calls Try.prog 16 #[.int .i64 v] w fun e w' => e = .returned (.tuple #[.int .u8 v, .bool true]) ∧ w = w' := by
  have hb : (v != v) = false := by simp
  go_enter Try.func16, Try.ntmps16
  go_wp2
  go_ret2
  exact ⟨rfl, rfl⟩
theorem narrow_u8_out (v : Int) (w : World) (b1 : -9223372036854775808 ≤ v) (b2 : v ≤ 9223372036854775807) (h : v < 0 ∨ 255 < v) :
    Calls Try.prog 16 #[.int .i64 v] w fun e w' => e = .returned (.tuple #[.int .u8 0, .bool false]) ∧ w = w' := by
  have hb : (v % 256 != v) = true := by
    simp only [bne_iff_ne, ne_eq]
    omega
  have hw1 : 0 ≤ v % 256 ∧ v % 256 ≤ 255 := by
    omega
  obtain ⟨hw2, hw3⟩ := hw1
  clear h
  go_enter Try.func16, Try.ntmps16
  go_wp2
  go_ret2
  exact ⟨rfl, rfl⟩

theorem narrow_u16_in (v : Int) (w : World) (h1 : 0 ≤ v) (h2 : v ≤ 65535) :
    Calls Try.prog 17 #[.int .i64 v] w fun e w' => e = .returned (.tuple #[.int .u16 v, .bool true]) ∧ w = w' := by
  have hb : (v != v) = false := by simp
  go_enter Try.func17, Try.ntmps17
  go_wp2
  go_ret2
  exact ⟨rfl, rfl⟩
theorem narrow_u16_out (v : Int) (w : World) (b1 : -9223372036854775808 ≤ v) (b2 : v ≤ 9223372036854775807) (h : v < 0 ∨ 65535 < v) :
    Calls Try.prog 17 #[.int .i64 v] w fun e w' => e = .returned (.tuple #[.int .u16 0, .bool false]) ∧ w = w' := by
  have hb : (IntKind.u16.wrap v != v) = true := by
    simp only [bne_iff_ne, ne_eq]
    rw [IntKind.wrap]
    simp only [IntKind.bits, IntKind.signed]
    simp
    try split
    all_goals omega
  have hw1 : 0 ≤ IntKind.u16.wrap v ∧ IntKind.u16.wrap v ≤ 65535 := by
    rw [IntKind.wrap]
    simp only [IntKind.bits, IntKind.signed]
    simp
    try split
    all_goals omega
  obtain ⟨hw2, hw3⟩ := hw1
  clear h
  go_enter Try.func17, Try.ntmps17
  go_wp2
  go_ret2
  exact ⟨rfl, rfl⟩

theorem narrow_u32_in (v : Int) (w : World) (h1 : 0 ≤ v) (h2 : v ≤ 4294967295) :
    Calls Try.prog 18 #[.int .i64 v] w fun e w' => e = .returned (.tuple #[.int .u32 v, .bool true]) ∧ w = w' := by
  have hb : (v != v) = false := by simp
  go_enter Try.func18, Try.ntmps18
  go_wp2
  go_ret2
  exact ⟨rfl, rfl⟩
theorem narrow_u32_out (v : Int) (w : World) (b1 : -9223372036854775808 ≤ v) (b2 : v ≤ 9223372036854775807) (h : v < 0 ∨ 4294967295 < v) :
    Calls Try.prog 18 #[.int .i64 v] w fun e w' => e = .returned (.tuple #[.int .u32 0, .bool false]) ∧ w = w' := by
  have hb : (v % 4294967296 != v) = true := by
    simp only [bne_iff_ne, ne_eq]
    omega
  have hw1 : 0 ≤ v % 4294967296 ∧ v % 4294967296 ≤ 4294967295 := by
    omega
  obtain ⟨hw2, hw3⟩ := hw1
  clear h
  go_enter Try.func18, Try.ntmps18
  go_wp2
  go_ret2
  exact ⟨rfl, rfl⟩
end Go.Proofs.Ytpaddiggieklfaa
