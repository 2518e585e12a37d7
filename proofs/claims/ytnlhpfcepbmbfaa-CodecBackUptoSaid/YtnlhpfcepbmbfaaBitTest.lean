/- Plain laws: one bit of a number. No program in sight. -/
import Derived.Test.YtnlhpfcepbmbfaaCrcLaw
namespace Go.Proofs.Ytnlhpfcepbmbfaa
open Go.RowKit
theorem bit_test (v : BitVec 32) (k : Nat) : bits .and .u32 (rnum v / 2 ^ k) 1 = if v.getLsbD k = true then 1 else 0 := by
  rw [u32_and', u32_shr, ofInt_u32, show BitVec.ofInt 32 1 = 1#32 from rfl, and_one, BitVec.getLsbD_ushiftRight, Nat.add_zero]
  by_cases h : v.getLsbD k = true
  · rw [if_pos h, if_pos h]; rfl
  · rw [if_neg h, if_neg h]; rfl
theorem bit_yes {v : BitVec 32} {k : Nat} (h : v.getLsbD k = true) : (bits .and .u32 (rnum v / 2 ^ k) 1 == 1) = true := by rw [bit_test, if_pos h]; rfl
theorem bit_no {v : BitVec 32} {k : Nat} (h : ¬ v.getLsbD k = true) : (bits .and .u32 (rnum v / 2 ^ k) 1 == 1) = false := by rw [bit_test, if_neg h]; rfl
end Go.Proofs.Ytnlhpfcepbmbfaa
