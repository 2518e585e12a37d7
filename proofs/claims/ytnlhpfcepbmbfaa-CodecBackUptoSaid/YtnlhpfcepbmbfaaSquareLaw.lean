/- Plain laws on a table of what becomes of each bit. No program in sight. -/
import Derived.Test.YtnlhpfcepbmbfaaHalf
import Derived.Test.YtnlhpfcepbmbfaaBitTest
namespace Go.Proofs.Ytnlhpfcepbmbfaa
open Go.RowKit
def bit1 (i : Nat) : BitVec 32 := 1#32 <<< i
theorem bit1_get (k i : Nat) (hi : i < 32) : (bit1 k).getLsbD i = decide (i = k) := by
  unfold bit1
  rw [BitVec.getLsbD_shiftLeft, BitVec.getLsbD_one]
  by_cases h : i = k
  · subst h; simp [hi]
  · rw [decide_eq_false h]
    by_cases h2 : i < k
    · simp [h2]
    · rw [decide_eq_false (by omega : ¬ i - k = 0)]; simp
/-- What the bits of v below k come to by the table f. -/
def pick32 (f : Nat → BitVec 32) (v : BitVec 32) : Nat → BitVec 32
  | 0 => 0#32
  | k + 1 => if v.getLsbD k = true then pick32 f v k ^^^ f k else pick32 f v k
theorem pick_get (v : BitVec 32) (i : Nat) (hi : i < 32) : ∀ k, (pick32 bit1 v k).getLsbD i = (decide (i < k) && v.getLsbD i)
  | 0 => by simp [pick32]
  | k + 1 => by
    have ih := pick_get v i hi k
    rw [pick32]
    by_cases h : v.getLsbD k = true
    · rw [if_pos h, BitVec.getLsbD_xor, ih, bit1_get k i hi]
      by_cases e : i = k
      · subst e
        rw [decide_eq_false (by omega : ¬ i < i), decide_eq_true (by omega : i < i + 1), h]; simp
      · rw [decide_eq_false e, Bool.xor_false]
        by_cases l : i < k
        · rw [decide_eq_true l, decide_eq_true (by omega : i < k + 1)]
        · rw [decide_eq_false l, decide_eq_false (by omega : ¬ i < k + 1)]
    · rw [if_neg h, ih]
      rw [Bool.not_eq_true] at h
      by_cases e : i = k
      · subst e; rw [h, Bool.and_false, Bool.and_false]
      · by_cases l : i < k
        · rw [decide_eq_true l, decide_eq_true (by omega : i < k + 1)]
        · rw [decide_eq_false l, decide_eq_false (by omega : ¬ i < k + 1)]
theorem pick_self (v : BitVec 32) : pick32 bit1 v 32 = v := by
  apply BitVec.eq_of_getLsbD_eq
  intro i hi
  rw [pick_get v i hi, decide_eq_true hi, Bool.true_and]
theorem pick_bsN (n : Nat) (v : BitVec 32) : ∀ k, pick32 (fun i => bsN n (bit1 i)) v k = bsN n (pick32 bit1 v k)
  | 0 => (bsN_zero n).symm
  | k + 1 => by
    rw [pick32, pick32, pick_bsN n v k]
    by_cases h : v.getLsbD k = true
    · rw [if_pos h, if_pos h, bsN_xor]
    · rw [if_neg h, if_neg h]
theorem pick_all (n : Nat) (v : BitVec 32) : pick32 (fun i => bsN n (bit1 i)) v 32 = bsN n v := by rw [pick_bsN, pick_self]
theorem xor_go (a b : BitVec 32) : bits .xor .u32 (rnum a) (rnum b) = rnum (a ^^^ b) := by rw [u32_xor, ofInt_u32, ofInt_u32]
/-- A row of 32 numbers. -/
def rowU (f : Nat → BitVec 32) : Array Value := ((List.range 32).map fun i => Value.int .u32 (rnum (f i))).toArray
theorem rowU_size (f : Nat → BitVec 32) : (rowU f).size = 32 := by simp [rowU]
theorem rowU_get (f : Nat → BitVec 32) (i : Nat) (h : i < 32) : (rowU f)[i]? = some (.int .u32 (rnum (f i))) := by simp [rowU, h]
theorem rowU_congr {f g : Nat → BitVec 32} (h : ∀ i, i < 32 → f i = g i) : rowU f = rowU g := by
  unfold rowU
  congr 1
  apply List.map_congr_left
  intro i hi
  rw [h i (by simpa using hi)]
theorem rowU_set (f : Nat → BitVec 32) (k : Nat) (x : BitVec 32) : (rowU f).setIfInBounds k (.int .u32 (rnum x)) = rowU (fun i => if i = k then x else f i) := by
  apply Array.ext
  · simp [rowU]
  · intro i h1 h2
    have hi : i < 32 := by simpa [rowU] using h2
    rw [Array.getElem_setIfInBounds (by rw [rowU_size]; exact hi)]
    simp only [rowU, List.getElem_toArray, List.getElem_map, List.getElem_range]
    by_cases e : k = i
    · subst e; simp
    · rw [if_neg e, if_neg (fun h => e h.symm)]
def sqA (n : Nat) : Array Value := rowU (fun i => bsN n (bit1 i))
def sqPart (n k : Nat) : Array Value := rowU (fun i => if i < k then bsN (n + n) (bit1 i) else 0#32)
theorem sqPart_step (n k : Nat) : (sqPart n k).setIfInBounds k (.int .u32 (rnum (bsN n (bsN n (bit1 k))))) = sqPart n (k + 1) := by
  unfold sqPart
  rw [rowU_set]
  apply rowU_congr
  intro i _
  by_cases e : i = k
  · subst e; rw [if_pos rfl, if_pos (by omega), bsN_add]
  · rw [if_neg e]
    by_cases l : i < k
    · rw [if_pos l, if_pos (by omega)]
    · rw [if_neg l, if_neg (by omega)]
theorem sqPart_all (n : Nat) : sqPart n 32 = sqA (n + n) := rowU_congr fun i hi => by rw [if_pos hi]
def sqOne (k : Nat) : Array Value := rowU (fun i => if i = 0 then poly else if i < k then bit1 (i - 1) else 0#32)
theorem sqOne_step (k : Nat) (h : 1 ≤ k) : (sqOne k).setIfInBounds k (.int .u32 (rnum (bit1 (k - 1)))) = sqOne (k + 1) := by
  unfold sqOne
  rw [rowU_set]
  apply rowU_congr
  intro i _
  by_cases e : i = k
  · subst e; rw [if_pos rfl, if_neg (by omega), if_pos (by omega)]
  · rw [if_neg e]
    by_cases z : i = 0
    · rw [if_pos z, if_pos z]
    · rw [if_neg z, if_neg z]
      by_cases l : i < k
      · rw [if_pos l, if_pos (by omega)]
      · rw [if_neg l, if_neg (by omega)]
theorem sqOne_all : sqOne 32 = sqA 1 := rowU_congr fun i hi => by
  have h : ∀ i, i < 32 → (if i = 0 then poly else if i < 32 then bit1 (i - 1) else 0#32) = bsN 1 (bit1 i) := by decide +kernel
  exact h i hi
theorem sqA_one (n : Nat) : (sqA n).all (·.oneCell') = true := by simp [sqA, rowU, Value.oneCell']
theorem shl_go (k : Nat) : (2 : Int) ^ k % 4294967296 = rnum (bit1 k) := by
  unfold rnum bit1
  rw [BitVec.toNat_shiftLeft, Nat.shiftLeft_eq]
  simp
theorem i64_and_one (x : Nat) (h : (x : Int) ≤ 9223372036854775807) : bits .and .i64 (x : Int) 1 = ((x % 2 : Nat) : Int) := by
  have e : (BitVec.ofInt 64 (x : Int) &&& 1#64).toNat = x % 2 := by
    rw [BitVec.ofInt_natCast, BitVec.toNat_and, BitVec.toNat_ofNat, Nat.mod_eq_of_lt (by omega)]
    show x &&& 1 = _
    exact Nat.and_one_is_mod x
  show IntKind.i64.wrap (((BitVec.ofInt 64 (x : Int) &&& 1#64).toNat : Nat) : Int) = _
  rw [e, wrap_i64']
  unfold wrap64
  omega
theorem shr_one (m : Nat) : (m : Int).fdiv (2 ^ min (Int.toNat 1) IntKind.i64.bits) = ((m / 2 : Nat) : Int) := by
  rw [show (2 : Int) ^ min (Int.toNat 1) IntKind.i64.bits = 2 from by decide, Int.fdiv_eq_ediv_of_nonneg _ (by omega)]
  omega
end Go.Proofs.Ytnlhpfcepbmbfaa
