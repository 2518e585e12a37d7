/- lz's token: what it answers where the row of tokens is sound, and where it is not. -/
import Derived.Test.YtfoabnoolmeoiaaLzPre
namespace Go.Proofs.Ytfoabnoolmeoiaa
open Go.RowKit
set_option linter.unusedSimpArgs false in
set_option linter.unusedVariables false in
set_option maxRecDepth 100000 in
set_option maxHeartbeats 2000000 in
theorem tok_e1 (h : Nat) (a : Option Addr) (n c : Nat) (x : List Int) (v : Value) (o0 : List Int) (most lit cop : Int) (w : World) (r : RdrAt w h a n c x v o0 most lit cop) (q : Int) (he : rvE x n = q) (hq : q ≠ 0) :
    Calls Try.prog 19 #[.pointer (some ⟨h, 0, none⟩)] w fun e w' => e = .returned (.int .i64 q) ∧ Below h w w' := by
  have R1 := Lib.hid r
  have HE1 := Lib.hid he
  have hqz : (q == 0) = false := beq_eq_false_iff_ne.2 hq
  clear r
  go_enter Try.func19, Try.ntmps19
  go_wp2_with fail
  refine (next_err _ _ _ _ _ _ _ _ _ _ _ R1.out (by rw [HE1.out]; exact hq)).mono ?_
  rintro e w1 ⟨hee, hb1⟩
  rw [HE1.out] at hee
  subst hee
  clear he
  go_wp2_with fail
  go_ret
  exact ⟨rfl, hb1⟩

set_option linter.unusedSimpArgs false in
set_option linter.unusedVariables false in
set_option maxRecDepth 100000 in
set_option maxHeartbeats 2000000 in
theorem tok_e2 (h : Nat) (a : Option Addr) (n c : Nat) (x : List Int) (v : Value) (o0 : List Int) (most lit cop : Int) (w : World) (r : RdrAt w h a n c x v o0 most lit cop) (t : Int) (he : rvE x n = 0) (hv : rvV x n = t) (h0 : 0 ≤ t) (h1 : t < 2) :
    Calls Try.prog 19 #[.pointer (some ⟨h, 0, none⟩)] w fun e w' => e = .returned (.int .i64 22) ∧ Below h w w' := by
  have R1 := Lib.hid r
  have HE1 := Lib.hid he
  have HV1 := Lib.hid hv
  have hdiv : t / 2 = 0 := by omega
  clear r he hv
  go_enter Try.func19, Try.ntmps19
  go_wp2_with fail
  refine (next_ok _ _ _ _ _ _ _ _ _ _ _ R1.out HE1.out).mono ?_
  rintro e w1 ⟨hee, ⟨a1, c1, r1⟩, hb1⟩
  rw [HV1.out] at hee
  subst hee
  clear r1
  go_wp2_with fail
  go_ret
  exact ⟨rfl, hb1⟩

set_option linter.unusedSimpArgs false in
set_option linter.unusedVariables false in
set_option maxRecDepth 100000 in
set_option maxHeartbeats 2000000 in
theorem tok_e3 (h : Nat) (a : Option Addr) (n c : Nat) (x : List Int) (v : Value) (o0 : List Int) (most lit cop : Int) (w : World) (r : RdrAt w h a n c x v o0 most lit cop) (k : Nat) (he : rvE x n = 0) (hv : rvV x n = 2 * (k : Int) + 1) (hk : 1 ≤ k) (hkb : k ≤ 9223372036854775807) (x2 : List Int) (n2 : Nat) (hx2 : x.drop (rvN x n).toNat = x2) (hn2 : n - (rvN x n).toNat = n2) (q : Int) (he2 : rvE x2 n2 = q) (hq : q ≠ 0) :
    Calls Try.prog 19 #[.pointer (some ⟨h, 0, none⟩)] w fun e w' => e = .returned (.int .i64 q) ∧ Below h w w' := by
  have HE2 := Lib.hid he2
  have hqz : (q == 0) = false := beq_eq_false_iff_ne.2 hq
  clear he2
  have R1 := Lib.hid r
  have HE1 := Lib.hid he
  have HV1 := Lib.hid hv
  have HX2 := Lib.hid hx2
  have HN2 := Lib.hid hn2
  have hbit : bits .and .u64 (2 * (k : Int) + 1) 1 = 1 := by rw [u64_and_one _ (by omega) (by omega)]; omega
  have hdiv : (2 * (k : Int) + 1) / 2 = k := by omega
  have hkz : ((k : Int) == 0) = false := beq_eq_false_iff_ne.2 (by omega)
  clear r he hv hx2 hn2
  go_enter Try.func19, Try.ntmps19
  go_wp2_with fail
  refine (next_ok _ _ _ _ _ _ _ _ _ _ _ R1.out HE1.out).mono ?_
  rintro e w1 ⟨hee, ⟨a1, c1, r1⟩, hb1⟩
  rw [HV1.out] at hee
  subst hee
  rw [HX2.out, HN2.out] at r1
  have R2 := Lib.hid r1
  clear r1
  go_wp2_with fail
  refine (next_err _ _ _ _ _ _ _ _ _ _ _ R2.out (by rw [HE2.out]; exact hq)).mono ?_
  rintro e w2 ⟨hee, hb2⟩
  rw [HE2.out] at hee
  subst hee
  have hb := hb1.trans hb2
  clear hb1 hb2
  go_wp2_with fail
  go_ret
  exact ⟨rfl, hb⟩

set_option linter.unusedSimpArgs false in
set_option linter.unusedVariables false in
set_option maxRecDepth 100000 in
set_option maxHeartbeats 2000000 in
theorem tok_e4a (h : Nat) (a : Option Addr) (n c : Nat) (x : List Int) (v : Value) (o0 : List Int) (most lit cop : Int) (w : World) (r : RdrAt w h a n c x v o0 most lit cop) (k : Nat) (he : rvE x n = 0) (hv : rvV x n = 2 * (k : Int) + 1) (hk : 1 ≤ k) (hkb : k ≤ 9223372036854775807) (x2 : List Int) (n2 : Nat) (hx2 : x.drop (rvN x n).toNat = x2) (hn2 : n - (rvN x n).toNat = n2) (d : Nat) (he2 : rvE x2 n2 = 0) (hv2 : rvV x2 n2 = d) (hdb : d ≤ 18446744073709551615) (hd : d = 0) :
    Calls Try.prog 19 #[.pointer (some ⟨h, 0, none⟩)] w fun e w' => e = .returned (.int .i64 22) ∧ Below h w w' := by
  have HE2 := Lib.hid he2
  have HV2 := Lib.hid hv2
  clear he2 hv2
  subst hd
  have R1 := Lib.hid r
  have HE1 := Lib.hid he
  have HV1 := Lib.hid hv
  have HX2 := Lib.hid hx2
  have HN2 := Lib.hid hn2
  have hbit : bits .and .u64 (2 * (k : Int) + 1) 1 = 1 := by rw [u64_and_one _ (by omega) (by omega)]; omega
  have hdiv : (2 * (k : Int) + 1) / 2 = k := by omega
  have hkz : ((k : Int) == 0) = false := beq_eq_false_iff_ne.2 (by omega)
  clear r he hv hx2 hn2
  go_enter Try.func19, Try.ntmps19
  go_wp2_with fail
  refine (next_ok _ _ _ _ _ _ _ _ _ _ _ R1.out HE1.out).mono ?_
  rintro e w1 ⟨hee, ⟨a1, c1, r1⟩, hb1⟩
  rw [HV1.out] at hee
  subst hee
  rw [HX2.out, HN2.out] at r1
  have R2 := Lib.hid r1
  clear r1
  go_wp2_with fail
  refine (next_ok _ _ _ _ _ _ _ _ _ _ _ R2.out HE2.out).mono ?_
  rintro e w2 ⟨hee, ⟨a2, c2, r2⟩, hb2⟩
  rw [HV2.out] at hee
  subst hee
  have hb := hb1.trans hb2
  clear hb1 hb2
  obtain ⟨q0, hq0⟩ : ∃ q0, o0.length = q0 := ⟨_, rfl⟩
  have HQ0 := Lib.hid hq0
  obtain ⟨av, cv0, rfl⟩ := r2.own.shapeN q0 HQ0.out
  have hrow2 := r2.row
  have hlt2 := r2.lt
  have R3 := Lib.hid r2
  have HROW2 := Lib.hid hrow2
  obtain ⟨c0, d1, d2, d3, d4, cf⟩ := cells5 hrow2
  clear r2 hrow2 cf
  clear hq0
  go_wp2_with fail
  go_ret
  exact ⟨rfl, hb⟩

set_option linter.unusedSimpArgs false in
set_option linter.unusedVariables false in
set_option maxRecDepth 100000 in
set_option maxHeartbeats 2000000 in
theorem tok_e4b (h : Nat) (a : Option Addr) (n c : Nat) (x : List Int) (v : Value) (o0 : List Int) (most lit cop : Int) (w : World) (r : RdrAt w h a n c x v o0 most lit cop) (k : Nat) (he : rvE x n = 0) (hv : rvV x n = 2 * (k : Int) + 1) (hk : 1 ≤ k) (hkb : k ≤ 9223372036854775807) (x2 : List Int) (n2 : Nat) (hx2 : x.drop (rvN x n).toNat = x2) (hn2 : n - (rvN x n).toNat = n2) (d : Nat) (he2 : rvE x2 n2 = 0) (hv2 : rvV x2 n2 = d) (hdb : d ≤ 18446744073709551615) (hd1 : 1 ≤ d) (hd : o0.length < d) (ho : o0.length ≤ 2097152) :
    Calls Try.prog 19 #[.pointer (some ⟨h, 0, none⟩)] w fun e w' => e = .returned (.int .i64 22) ∧ Below h w w' := by
  have HE2 := Lib.hid he2
  have HV2 := Lib.hid hv2
  clear he2 hv2
  have hdz : ((d : Int) == 0) = false := beq_eq_false_iff_ne.2 (by omega)
  have R1 := Lib.hid r
  have HE1 := Lib.hid he
  have HV1 := Lib.hid hv
  have HX2 := Lib.hid hx2
  have HN2 := Lib.hid hn2
  have hbit : bits .and .u64 (2 * (k : Int) + 1) 1 = 1 := by rw [u64_and_one _ (by omega) (by omega)]; omega
  have hdiv : (2 * (k : Int) + 1) / 2 = k := by omega
  have hkz : ((k : Int) == 0) = false := beq_eq_false_iff_ne.2 (by omega)
  clear r he hv hx2 hn2
  go_enter Try.func19, Try.ntmps19
  go_wp2_with fail
  refine (next_ok _ _ _ _ _ _ _ _ _ _ _ R1.out HE1.out).mono ?_
  rintro e w1 ⟨hee, ⟨a1, c1, r1⟩, hb1⟩
  rw [HV1.out] at hee
  subst hee
  rw [HX2.out, HN2.out] at r1
  have R2 := Lib.hid r1
  clear r1
  go_wp2_with fail
  refine (next_ok _ _ _ _ _ _ _ _ _ _ _ R2.out HE2.out).mono ?_
  rintro e w2 ⟨hee, ⟨a2, c2, r2⟩, hb2⟩
  rw [HV2.out] at hee
  subst hee
  have hb := hb1.trans hb2
  clear hb1 hb2
  obtain ⟨q0, hq0⟩ : ∃ q0, o0.length = q0 := ⟨_, rfl⟩
  have HQ0 := Lib.hid hq0
  obtain ⟨av, cv0, rfl⟩ := r2.own.shapeN q0 HQ0.out
  have hrow2 := r2.row
  have hlt2 := r2.lt
  have R3 := Lib.hid r2
  have HROW2 := Lib.hid hrow2
  obtain ⟨c0, d1, d2, d3, d4, cf⟩ := cells5 hrow2
  clear r2 hrow2 cf
  rw [hq0] at hd ho
  clear hq0
  have hgt : decide ((q0 : Int) < d) = true := decide_eq_true (by omega)
  have hgtn : decide (q0 < d) = true := decide_eq_true (by omega)
  go_wp2_with fail
  go_ret
  exact ⟨rfl, hb⟩
end Go.Proofs.Ytfoabnoolmeoiaa
