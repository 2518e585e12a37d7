/- Plain laws on sums of bytes: a linear register of 32 bits. No program in sight. -/
import Derived.Test.YtnlhpfcepbmbfaaMem
namespace Go.Proofs.Ytnlhpfcepbmbfaa
open Go.RowKit

def poly : BitVec 32 := 0x82F63B78#32
/-- One bit. -/
def bs (r : BitVec 32) : BitVec 32 := (r >>> 1) ^^^ (if r.getLsbD 0 then poly else 0#32)
def bsN : Nat → BitVec 32 → BitVec 32
  | 0, r => r
  | n + 1, r => bsN n (bs r)
/-- A byte, as a register. -/
def byte (c : Int) : BitVec 32 := BitVec.ofInt 32 c
def stB (r : BitVec 32) (c : Int) : BitVec 32 := bsN 8 (r ^^^ byte c)
def st (r : BitVec 32) (l : List Int) : BitVec 32 := l.foldl stB r
def ones : BitVec 32 := BitVec.allOnes 32
def sumB (l : List Int) : BitVec 32 := ~~~ st ones l

theorem xor_lc (a b c : BitVec 32) : a ^^^ (b ^^^ c) = b ^^^ (a ^^^ c) := by rw [← BitVec.xor_assoc, BitVec.xor_comm a, BitVec.xor_assoc]
theorem xor_cancel (a b p : BitVec 32) : (a ^^^ p) ^^^ (b ^^^ p) = a ^^^ b := by
  rw [BitVec.xor_assoc, xor_lc p, BitVec.xor_self, BitVec.xor_zero]
theorem bs_xor (a b : BitVec 32) : bs (a ^^^ b) = bs a ^^^ bs b := by
  unfold bs
  rw [BitVec.ushiftRight_xor_distrib, BitVec.getLsbD_xor]
  cases a.getLsbD 0 <;> cases b.getLsbD 0
  · simp
  · simp [BitVec.xor_assoc]
  · simp only [Bool.bne_false, if_true, Bool.false_eq_true, if_false, BitVec.xor_zero]
    rw [BitVec.xor_assoc, BitVec.xor_assoc, BitVec.xor_comm poly]
  · simp only [bne_self_eq_false, if_true, Bool.false_eq_true, if_false, BitVec.xor_zero]
    exact (xor_cancel _ _ _).symm
theorem bsN_xor : ∀ (n : Nat) (a b : BitVec 32), bsN n (a ^^^ b) = bsN n a ^^^ bsN n b
  | 0, _, _ => rfl
  | n + 1, a, b => by rw [bsN, bs_xor, bsN_xor n, bsN, bsN]
theorem bs_zero : bs 0#32 = 0#32 := by decide
theorem bsN_zero : ∀ n, bsN n 0#32 = 0#32
  | 0 => rfl
  | n + 1 => by rw [bsN, bs_zero, bsN_zero n]
theorem bsN_add : ∀ (n m : Nat) (r : BitVec 32), bsN (n + m) r = bsN m (bsN n r)
  | 0, m, r => by rw [Nat.zero_add]; rfl
  | n + 1, m, r => by rw [Nat.add_right_comm, bsN, bsN_add n m, bsN]
theorem bsN_succ (n : Nat) (r : BitVec 32) : bsN (n + 1) r = bs (bsN n r) := by rw [bsN_add n 1]; rfl
theorem bs_eq_zero {r : BitVec 32} (h : bs r = 0#32) : r = 0#32 := by
  unfold bs at h
  by_cases hb : r.getLsbD 0 = true
  · rw [if_pos hb] at h
    have h31 : ((r >>> 1) ^^^ poly).getLsbD 31 = true := by
      rw [BitVec.getLsbD_xor, BitVec.getLsbD_ushiftRight]
      rw [BitVec.getLsbD_of_ge r (1 + 31) (by decide)]
      decide
    rw [h] at h31
    simp at h31
  · rw [if_neg hb, BitVec.xor_zero] at h
    apply BitVec.eq_of_getLsbD_eq
    intro i hi
    cases i with
    | zero => simp at hb; simp [hb]
    | succ i =>
      have : (r >>> 1).getLsbD i = false := by rw [h]; simp
      rw [BitVec.getLsbD_ushiftRight, Nat.add_comm] at this
      rw [this]; simp
theorem bsN_eq_zero : ∀ (n : Nat) {r : BitVec 32}, bsN n r = 0#32 → r = 0#32
  | 0, _, h => h
  | n + 1, _, h => bs_eq_zero (bsN_eq_zero n h)

theorem st_nil (r : BitVec 32) : st r [] = r := rfl
theorem st_cons (r : BitVec 32) (c : Int) (l : List Int) : st r (c :: l) = st (stB r c) l := rfl
theorem st_append (r : BitVec 32) (a b : List Int) : st r (a ++ b) = st (st r a) b := by unfold st; rw [List.foldl_append]
theorem stB_xor (r d : BitVec 32) (c : Int) : stB (r ^^^ d) c = stB r c ^^^ bsN 8 d := by
  unfold stB
  rw [← bsN_xor]; congr 1
  rw [BitVec.xor_assoc, BitVec.xor_assoc, BitVec.xor_comm d]
theorem st_xor : ∀ (l : List Int) (r d : BitVec 32), st (r ^^^ d) l = st r l ^^^ bsN (8 * l.length) d
  | [], r, d => rfl
  | c :: l, r, d => by
    rw [st_cons, stB_xor, st_xor l, st_cons, List.length_cons, Nat.mul_add, Nat.add_comm, Nat.mul_one, bsN_add]

/-- The sum of two rows behind one another, by theirs alone. -/
theorem not_eq_xor (a : BitVec 32) : ~~~ a = a ^^^ ones := (BitVec.xor_allOnes).symm
theorem sum_join (a b : List Int) : sumB (a ++ b) = bsN (8 * b.length) (sumB a) ^^^ sumB b := by
  unfold sumB
  rw [st_append]
  have h : st (ones) a = ones ^^^ ~~~ st (ones) a := by
    rw [not_eq_xor, BitVec.xor_comm (st _ a), ← BitVec.xor_assoc, BitVec.xor_self, BitVec.zero_xor]
  rw [show st (st (ones) a) b = st (ones) b ^^^ bsN (8 * b.length) (~~~ st (ones) a) by rw [← st_xor, ← h]]
  generalize bsN _ _ = z
  rw [not_eq_xor, not_eq_xor, BitVec.xor_comm (st _ b) z, BitVec.xor_assoc]

def rnum (b : BitVec 32) : Int := (b.toNat : Int)
theorem u32_bd (b : BitVec 32) : 0 ≤ rnum b ∧ rnum b ≤ 4294967295 := by unfold rnum; have := b.isLt; omega
theorem ofInt_u32 (a : BitVec 32) : BitVec.ofInt 32 (rnum a) = a := by unfold rnum; rw [BitVec.ofInt_natCast, BitVec.ofNat_toNat]; simp
theorem u32_ofInt (x : Int) (h1 : 0 ≤ x) (h2 : x ≤ 4294967295) : rnum (BitVec.ofInt 32 x) = x := by
  unfold rnum; rw [BitVec.toNat_ofInt]; omega
theorem wrap_u32_toNat (b : BitVec 32) : IntKind.u32.wrap (b.toNat : Int) = rnum b := by rw [IntKind.wrap_u32]; unfold rnum; have := b.isLt; omega
theorem u32_xor (x y : Int) : bits .xor .u32 x y = rnum (BitVec.ofInt 32 x ^^^ BitVec.ofInt 32 y) := wrap_u32_toNat _
theorem u32_and' (x y : Int) : bits .and .u32 x y = rnum (BitVec.ofInt 32 x &&& BitVec.ofInt 32 y) := wrap_u32_toNat _
theorem u32_shr (a : BitVec 32) (k : Nat) : rnum a / 2 ^ k = rnum (a >>> k) := by
  unfold rnum; rw [BitVec.toNat_ushiftRight, Nat.shiftRight_eq_div_pow]; simp
theorem and_one (r : BitVec 32) : r &&& 1#32 = if r.getLsbD 0 then 1#32 else 0#32 := by
  by_cases h : r.getLsbD 0 = true
  · rw [if_pos h]
    apply BitVec.eq_of_getLsbD_eq
    intro i hi
    rw [BitVec.getLsbD_and]
    cases i with
    | zero => rw [h]; rfl
    | succ i => rw [show (1#32).getLsbD (i + 1) = false by simp [BitVec.getLsbD_one]]; simp
  · rw [if_neg h]
    apply BitVec.eq_of_getLsbD_eq
    intro i hi
    rw [BitVec.getLsbD_and]
    cases i with
    | zero => rw [Bool.not_eq_true] at h; rw [h]; rfl
    | succ i => rw [show (1#32).getLsbD (i + 1) = false by simp [BitVec.getLsbD_one]]; simp
theorem bs_go (r : BitVec 32) : bits .xor .u32 (rnum r / 2) (bits .and .u32 (rnum r) 1 * 2197175160) = rnum (bs r) := by
  rw [u32_and', ofInt_u32, show BitVec.ofInt 32 1 = 1#32 from rfl, and_one, u32_xor, show (2 : Int) = 2 ^ 1 from rfl, u32_shr, ofInt_u32]
  unfold bs
  by_cases h : r.getLsbD 0 = true
  · rw [if_pos h, if_pos h]; rfl
  · rw [if_neg h, if_neg h]; rfl
theorem and_one_go (r : BitVec 32) : 0 ≤ bits .and .u32 (rnum r) 1 ∧ bits .and .u32 (rnum r) 1 ≤ 1 := by
  rw [u32_and', ofInt_u32, show BitVec.ofInt 32 1 = 1#32 from rfl, and_one]
  by_cases h : r.getLsbD 0 = true
  · rw [if_pos h]; decide
  · rw [if_neg h]; decide
theorem bsN_shift : ∀ (k : Nat) (x : BitVec 32), (∀ i, i < k → x.getLsbD i = false) → bsN k x = x >>> k
  | 0, x, _ => by simp [bsN]
  | k + 1, x, h => by
    have h1 : bs x = x >>> 1 := by unfold bs; rw [h 0 (by omega)]; simp
    rw [bsN, h1, bsN_shift k (x >>> 1) (fun i hi => by rw [BitVec.getLsbD_ushiftRight]; exact h _ (by omega)), ← BitVec.shiftRight_add, Nat.add_comm]
theorem nibble (r : BitVec 32) : bsN 4 r = (r >>> 4) ^^^ bsN 4 (r &&& 15#32) := by
  have e : r = (r &&& ~~~ 15#32) ^^^ (r &&& 15#32) := by
    apply BitVec.eq_of_getLsbD_eq
    intro i hi
    simp only [BitVec.getLsbD_xor, BitVec.getLsbD_and, BitVec.getLsbD_not, hi, decide_true, Bool.true_and]
    cases r.getLsbD i <;> cases (15#32).getLsbD i <;> rfl
  have h : bsN 4 (r &&& ~~~ 15#32) = r >>> 4 := by
    rw [bsN_shift 4 _ (fun i hi => by
      rw [BitVec.getLsbD_and, BitVec.getLsbD_not]
      rcases (by omega : i = 0 ∨ i = 1 ∨ i = 2 ∨ i = 3) with h | h | h | h <;> subst h <;> simp)]
    apply BitVec.eq_of_getLsbD_eq
    intro i hi
    rw [BitVec.getLsbD_ushiftRight, BitVec.getLsbD_ushiftRight, BitVec.getLsbD_and, BitVec.getLsbD_not]
    by_cases h : 4 + i < 32
    · have : (15#32).getLsbD (4 + i) = false := by
        rw [show (15#32) = BitVec.ofNat 32 15 from rfl, BitVec.getLsbD_ofNat]
        have : Nat.testBit 15 (4 + i) = false := Nat.testBit_lt_two_pow (by have : 2 ^ 4 ≤ 2 ^ (4 + i) := Nat.pow_le_pow_right (by decide) (by omega); omega)
        rw [this, Bool.and_false]
      rw [this, decide_eq_true h]; cases r.getLsbD (4 + i) <;> rfl
    · rw [BitVec.getLsbD_of_ge r _ (by omega)]; simp
  conv => lhs; rw [e]
  rw [bsN_xor, h]
/-- The table of four bits. -/
def tab (i : Nat) : BitVec 32 := bsN 4 (BitVec.ofNat 32 i)
theorem tab_go (r : BitVec 32) : bits .xor .u32 (rnum r / 16) (rnum (tab (r &&& 15#32).toNat)) = rnum (bsN 4 r) := by
  rw [u32_xor, ofInt_u32, show (16 : Int) = 2 ^ 4 from rfl, u32_shr, ofInt_u32, nibble r]
  unfold tab
  rw [BitVec.ofNat_toNat]; simp
theorem and_15 (r : BitVec 32) : bits .and .u32 (rnum r) 15 = ((r &&& 15#32).toNat : Int) := by rw [u32_and', ofInt_u32]; rfl
theorem and_15_lt (r : BitVec 32) : (r &&& 15#32).toNat < 16 := by
  rw [BitVec.toNat_and]; exact Nat.lt_of_le_of_lt Nat.and_le_right (by decide)

theorem not_go (r : BitVec 32) : bits .xor .u32 IntKind.u32.max (rnum r) = rnum (~~~ r) := by
  rw [u32_xor, ofInt_u32, show BitVec.ofInt 32 IntKind.u32.max = BitVec.allOnes 32 from by decide, BitVec.xor_comm, BitVec.xor_allOnes]
/-- Mixed by exclusive or. -/
def mix3 (a b c : List Int) : List Int := List.zipWith (fun x p => bits .xor .u8 (bits .xor .u8 x p.1) p.2) a (b.zip c)
end Go.Proofs.Ytnlhpfcepbmbfaa
