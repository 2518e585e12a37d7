/- A burst in sealed bytes is found: plain laws. No program in sight. -/
import Derived.Test.YtnlhpfcepbmbfaaBurstLaw
import Derived.Test.YtnlhpfcepbmbfaaSquareLaw
import Derived.Test.YtnlhpfcepbmbfaaPutLaw
import Derived.Test.YtnlhpfcepbmbfaaMixLaw
namespace Go.Proofs.Ytnlhpfcepbmbfaa
open Go.RowKit
theorem low_shift (c : BitVec 32) (x : Int) (hx : x = rnum c % 256) : bsN 8 (c ^^^ byte x) = c >>> 8 := by
  have hb : byte x = c &&& 255#32 := by
    subst hx
    unfold byte rnum
    apply BitVec.eq_of_toNat_eq
    rw [show ((c.toNat : Int) % 256) = ((c.toNat % 256 : Nat) : Int) by omega, BitVec.ofInt_natCast, BitVec.toNat_ofNat, BitVec.toNat_and]
    rw [Nat.mod_eq_of_lt (by omega)]
    show _ = c.toNat &&& 255
    rw [show (255 : Nat) = 2 ^ 8 - 1 from rfl, Nat.and_two_pow_sub_one_eq_mod]
  have hg : ∀ i, (255#32).getLsbD i = decide (i < 8) := by
    intro i
    rw [show (255#32) = BitVec.ofNat 32 (2 ^ 8 - 1) from rfl, BitVec.getLsbD_ofNat, Nat.testBit_two_pow_sub_one]
    by_cases h : i < 8
    · rw [decide_eq_true h, decide_eq_true (by omega : i < 32)]; rfl
    · rw [decide_eq_false h, Bool.and_false]
  rw [hb, bsN_shift 8 _ (fun i hi => by rw [BitVec.getLsbD_xor, BitVec.getLsbD_and, hg, decide_eq_true hi]; simp)]
  apply BitVec.eq_of_getLsbD_eq
  intro i hi
  rw [BitVec.getLsbD_ushiftRight, BitVec.getLsbD_ushiftRight, BitVec.getLsbD_xor, BitVec.getLsbD_and, hg, decide_eq_false (by omega : ¬ 8 + i < 8)]
  simp
theorem stB_low (r c : BitVec 32) (x : Int) (hx : x = rnum c % 256) : stB r x = bsN 8 (r ^^^ c) ^^^ (c >>> 8) := by
  unfold stB
  rw [← low_shift c x hx, ← bsN_xor]
  congr 1
  rw [BitVec.xor_assoc, ← BitVec.xor_assoc c c, BitVec.xor_self, BitVec.zero_xor]
theorem byte_at (c : BitVec 32) (k : Nat) : rnum c / 2 ^ k % 256 = rnum (c >>> k) % 256 := by rw [u32_shr]
/-- Four bytes of c, behind the register r. -/
theorem st_put (r c : BitVec 32) : st r (putL (rnum c) 4) = bsN 32 (r ^^^ c) := by
  have e : putL (rnum c) 4 = [rnum (c >>> 0) % 256, rnum (c >>> 8) % 256, rnum (c >>> 16) % 256, rnum (c >>> 24) % 256] := by
    simp only [putL, List.nil_append, List.cons_append, byte_at]
  rw [e, st_cons, st_cons, st_cons, st_cons, st_nil]
  have s0 : stB r (rnum (c >>> 0) % 256) = bsN 8 (r ^^^ c) ^^^ (c >>> 8) := by
    rw [stB_low r (c >>> 0) _ rfl]; simp
  have s1 : ∀ (z : BitVec 32) (k : Nat), stB (z ^^^ (c >>> k)) (rnum (c >>> k) % 256) = bsN 8 z ^^^ (c >>> (k + 8)) := by
    intro z k
    rw [stB_low _ (c >>> k) _ rfl, BitVec.xor_assoc, BitVec.xor_self, BitVec.xor_zero, BitVec.shiftRight_add]
  rw [s0, s1, s1, s1]
  have z : c >>> (24 + 8) = 0#32 := by
    apply BitVec.eq_of_getLsbD_eq
    intro i hi
    rw [BitVec.getLsbD_ushiftRight, BitVec.getLsbD_of_ge c _ (by omega)]; simp
  rw [z, BitVec.xor_zero, ← bsN_add, ← bsN_add, ← bsN_add]
def sealL (l : List Int) : List Int := l ++ putL (rnum (sumB l)) 4
def rest : BitVec 32 := bsN 32 ones
theorem st_seal (l : List Int) (v : Int) (h : v = rnum (sumB l)) : st ones (l ++ putL v 4) = rest := by
  subst h
  rw [st_append, st_put]
  unfold rest sumB
  congr 1
  rw [not_eq_xor, ← BitVec.xor_assoc, BitVec.xor_self, BitVec.zero_xor]
theorem putL_getK {l : List Int} (hb : Bytes l) : ∀ n, n ≤ l.length → l.take n = putL (getK l n) n
  | 0, _ => by simp [putL]
  | n + 1, h => by
    have ih := putL_getK hb n (by omega)
    have hbd := getK_bd l n (fun i _ => hb.at i)
    have hx := hb.at n
    have hp : (0 : Int) < 2 ^ (8 * n) := Int.pow_pos (by decide)
    rw [take_nth l n (by omega), ih, putL, getK]
    congr 1
    · have : ∀ k, k ≤ n → putL (getK l n) k = putL (getK l n + nth l n * 2 ^ (8 * n)) k := by
        intro k
        induction k with
        | zero => intro _; rfl
        | succ k ihk =>
          intro hk
          rw [putL, putL, ihk (by omega)]
          congr 2
          have e : (2 : Int) ^ (8 * n) = 256 * 2 ^ (8 * (n - k - 1)) * 2 ^ (8 * k) := by
            rw [show (256 : Int) = 2 ^ 8 from rfl, ← Int.pow_add, ← Int.pow_add]
            congr 1; omega
          rw [e, ← Int.mul_assoc, Int.add_mul_ediv_right _ _ (by have : (0 : Int) < 2 ^ (8 * k) := Int.pow_pos (by decide); omega)]
          rw [← Int.mul_assoc, Int.mul_comm (nth l n) 256, Int.mul_assoc, Int.add_mul_emod_self_left]
      exact this n (Nat.le_refl _)
    · congr 1
      rw [Int.add_mul_ediv_right _ _ (by omega), Int.ediv_eq_zero_of_lt hbd.1 hbd.2, Int.zero_add]
      omega
def openOk (l : List Int) : Bool := decide (4 ≤ l.length) && decide (getK (l.drop (l.length - 4)) 4 = rnum (sumB (l.take (l.length - 4))))
theorem st_open {l : List Int} (hb : Bytes l) (h : openOk l = true) : st ones l = rest := by
  unfold openOk at h
  simp only [Bool.and_eq_true, decide_eq_true_eq] at h
  have hd : Bytes (l.drop (l.length - 4)) := fun x hx => hb x (List.mem_of_mem_drop hx)
  have e := putL_getK hd 4 (by rw [List.length_drop]; omega)
  rw [List.take_of_length_le (by rw [List.length_drop]; omega)] at e
  have e2 := st_seal (l.take (l.length - 4)) _ h.2
  rw [← e, List.take_append_drop] at e2
  exact e2
theorem seal_len (l : List Int) : (sealL l).length = l.length + 4 := by unfold sealL; rw [List.length_append, putL_len]
theorem seal_take (l : List Int) : (sealL l).take ((sealL l).length - 4) = l := by
  rw [seal_len, Nat.add_sub_cancel]; unfold sealL; rw [List.take_left]
theorem seal_drop (l : List Int) : (sealL l).drop ((sealL l).length - 4) = putL (rnum (sumB l)) 4 := by
  rw [seal_len, Nat.add_sub_cancel]; unfold sealL; rw [List.drop_left]
theorem open_seal (l : List Int) : openOk (sealL l) = true := by
  unfold openOk
  rw [seal_take, seal_drop, getK_putL _ _ (u32_bd _).1 4 (Nat.le_refl _), seal_len, decide_eq_true (by omega : 4 ≤ l.length + 4), Bool.true_and, decide_eq_true_eq]
  have := u32_bd (sumB l)
  exact Int.emod_eq_of_lt this.1 (by omega)
theorem putL_bytes (v : Int) : ∀ n, Bytes (putL v n)
  | 0 => fun x hx => by simp [putL] at hx
  | n + 1 => fun x hx => by
    rw [putL, List.mem_append] at hx
    rcases hx with hx | hx
    · exact putL_bytes v n x hx
    · rw [List.mem_singleton] at hx
      subst hx
      omega
theorem seal_bytes {l : List Int} (h : Bytes l) : Bytes (sealL l) := fun x hx => by
  unfold sealL at hx
  rcases List.mem_append.1 hx with hx | hx
  · exact h x hx
  · exact putL_bytes _ _ x hx
theorem st_sealed (l : List Int) : st ones (sealL l) = rest := st_seal l _ rfl
theorem byte_bit1 (i : Nat) (h : i < 8) : byte (2 ^ i) = bit1 i := by
  have : ∀ i, i < 8 → byte (2 ^ i) = bit1 i := by decide
  exact this i h
theorem bs_bit1 : ∀ (i : Nat), i < 32 → bsN i (bit1 i) = bit1 0 := by decide +kernel
theorem stB_tog (r : BitVec 32) (x : Int) (i : Nat) (h1 : 0 ≤ x) (h2 : x ≤ 255) (hi : i < 8) : stB r (bits .xor .u8 x (2 ^ i)) = stB r x ^^^ bsN 8 (bit1 i) := by
  have e : (2 : Int) ^ i = ((2 ^ i : Nat) : Int) := by simp
  have hlt : 2 ^ i ≤ 2 ^ 7 := Nat.pow_le_pow_right (by decide) (by omega)
  obtain ⟨b1, _, _⟩ := byte_xor x (2 ^ i) h1 h2 (by rw [e]; exact Int.natCast_nonneg _) (by rw [e]; omega)
  unfold stB
  rw [b1, byte_bit1 i hi, ← BitVec.xor_assoc, bsN_xor]
theorem st_tog (l : List Int) (hb : Bytes l) (j : Nat) (hj : j < 8 * l.length) (r : BitVec 32) : st r (tog l j) = st r l ^^^ bsN (8 * l.length - j) (bit1 0) := by
  have hq : j / 8 < l.length := by omega
  obtain ⟨b1, b2⟩ := hb.at (j / 8)
  have e1 : l = l.take (j / 8) ++ nth l (j / 8) :: l.drop (j / 8 + 1) := by
    rw [nth_eq hq, List.getElem_cons_drop, List.take_append_drop]
  have e2 : tog l j = l.take (j / 8) ++ bits .xor .u8 (nth l (j / 8)) (2 ^ (j % 8)) :: l.drop (j / 8 + 1) := by
    unfold tog; rw [List.set_eq_take_append_cons_drop, if_pos hq]
  rw [e2]
  conv => rhs; lhs; rw [e1]
  rw [st_append, st_append, st_cons, st_cons, stB_tog _ _ _ b1 b2 (by omega), st_xor, ← bsN_add, List.length_drop]
  congr 1
  rw [show 8 + 8 * (l.length - (j / 8 + 1)) = j % 8 + (8 * l.length - j) by omega, bsN_add, bs_bit1 _ (by omega)]
/-- Which bits of p a burst turns. -/
def maskK (N bit : Nat) (p : BitVec 32) : Nat → BitVec 32
  | 0 => 0#32
  | k + 1 => if bit + k < N ∧ p.getLsbD k = true then maskK N bit p k ^^^ bit1 k else maskK N bit p k
theorem maskK_get (N bit : Nat) (p : BitVec 32) (i : Nat) (hi : i < 32) : ∀ k, (maskK N bit p k).getLsbD i = (decide (i < k) && (decide (bit + i < N) && p.getLsbD i))
  | 0 => by simp [maskK]
  | k + 1 => by
    have ih := maskK_get N bit p i hi k
    rw [maskK]
    by_cases x : i = k
    · subst x
      rw [decide_eq_true (by omega : i < i + 1), Bool.true_and]
      rw [decide_eq_false (by omega : ¬ i < i), Bool.false_and] at ih
      by_cases c : bit + i < N ∧ p.getLsbD i = true
      · rw [if_pos c, BitVec.getLsbD_xor, ih, bit1_get i i hi, decide_eq_true c.1, c.2]; simp
      · rw [if_neg c, ih]
        by_cases z : bit + i < N
        · cases hh : p.getLsbD i
          · simp
          · exact absurd ⟨z, hh⟩ c
        · rw [decide_eq_false z]; simp
    · have e : decide (i < k + 1) = decide (i < k) := by
        by_cases y : i < k
        · rw [decide_eq_true y, decide_eq_true (by omega : i < k + 1)]
        · rw [decide_eq_false y, decide_eq_false (by omega : ¬ i < k + 1)]
      rw [e]
      by_cases c : bit + k < N ∧ p.getLsbD k = true
      · rw [if_pos c, BitVec.getLsbD_xor, ih, bit1_get k i hi, decide_eq_false x, Bool.xor_false]
      · rw [if_neg c, ih]
theorem st_burst (l : List Int) (hb : Bytes l) (bit : Nat) (hbit : bit < 8 * l.length) (p : BitVec 32) (r : BitVec 32) : ∀ k, k ≤ 32 → st r (burstK l bit p k) = st r l ^^^ bsN (8 * l.length - bit) (maskK (8 * l.length) bit p k)
  | 0, _ => by rw [burstK, maskK, bsN_zero, BitVec.xor_zero]
  | k + 1, hk => by
    have ih := st_burst l hb bit hbit p r k (by omega)
    rw [burstK, maskK]
    by_cases c : bit + k < 8 * l.length ∧ p.getLsbD k = true
    · rw [if_pos c, if_pos c, st_tog _ (burstK_bytes hb bit p k) _ (by rw [burstK_len]; exact c.1), ih, burstK_len, bsN_xor, BitVec.xor_assoc]
      congr 2
      rw [show 8 * l.length - bit = k + (8 * l.length - (bit + k)) by omega, bsN_add, bs_bit1 k (by omega)]
    · rw [if_neg c, if_neg c, ih]
theorem burst_still (l : List Int) (bit : Nat) (p : BitVec 32) (h : maskK (8 * l.length) bit p 32 = 0#32) : ∀ k, k ≤ 32 → burstK l bit p k = l
  | 0, _ => rfl
  | k + 1, hk => by
    rw [burstK, if_neg ?_, burst_still l bit p h k (by omega)]
    rintro ⟨c1, c2⟩
    have := maskK_get (8 * l.length) bit p k (by omega) 32
    rw [h, decide_eq_true (by omega : k < 32), decide_eq_true c1, c2] at this
    simp at this
/-- A burst that turns something in bytes with a sum is found. -/
theorem burst_found (l : List Int) (hb : Bytes l) (bit : Int) (p : BitVec 32) (hs : st ones l = rest) (hne : burstV l bit p ≠ l) : openOk (burstV l bit p) = false := by
  cases ho : openOk (burstV l bit p) with
  | false => rfl
  | true =>
    exfalso
    have h1 := st_open (burstV_bytes hb bit p) ho
    unfold burstV at h1 hne
    split at hne
    · rename_i hc
      rw [if_pos hc, st_burst l hb _ (by omega) p ones 32 (Nat.le_refl _), hs] at h1
      have h2 : bsN (8 * l.length - bit.toNat) (maskK (8 * l.length) bit.toNat p 32) = 0#32 := by
        have := congrArg (fun z => rest ^^^ z) h1
        simp only [← BitVec.xor_assoc, BitVec.xor_self, BitVec.zero_xor] at this
        exact this
      exact hne (burst_still l _ p (bsN_eq_zero _ h2) 32 (Nat.le_refl _))
    · exact hne rfl
end Go.Proofs.Ytnlhpfcepbmbfaa
