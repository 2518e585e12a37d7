/- Plain laws on bits of bytes that are turned. No program in sight. -/
import Derived.Test.YtnlhpfcepbmbfaaCrcLaw
import Derived.Test.YtnlhpfcepbmbfaaBytesLaw
namespace Go.Proofs.Ytnlhpfcepbmbfaa
open Go.RowKit
/-- Bit j of a row of bytes. -/
def tb (l : List Int) (j : Nat) : Bool := (nth l (j / 8)).toNat.testBit (j % 8)
/-- A row whose bit j is turned. -/
def tog (l : List Int) (j : Nat) : List Int := l.set (j / 8) (bits .xor .u8 (nth l (j / 8)) (2 ^ (j % 8)))
theorem pow8 (j : Nat) : (2 : Int) ^ (j % 8) = ((2 ^ (j % 8) : Nat) : Int) ∧ 2 ^ (j % 8) < 256 := by
  refine ⟨by simp, ?_⟩
  have : 2 ^ (j % 8) ≤ 2 ^ 7 := Nat.pow_le_pow_right (by decide) (by omega)
  omega
theorem tog_val {l : List Int} (h : Bytes l) (j : Nat) : bits .xor .u8 (nth l (j / 8)) (2 ^ (j % 8)) = (((nth l (j / 8)).toNat ^^^ 2 ^ (j % 8) : Nat) : Int) := by
  obtain ⟨h1, h2⟩ := h.at (j / 8)
  obtain ⟨e, hlt⟩ := pow8 j
  rw [e, u8_xor _ _ h1 (by omega) (Int.natCast_nonneg _) (Int.ofNat_lt.2 hlt), Int.toNat_natCast]
theorem tog_bd {l : List Int} (h : Bytes l) (j : Nat) : 0 ≤ bits .xor .u8 (nth l (j / 8)) (2 ^ (j % 8)) ∧ bits .xor .u8 (nth l (j / 8)) (2 ^ (j % 8)) ≤ 255 := by
  rw [tog_val h j]
  obtain ⟨h1, h2⟩ := h.at (j / 8)
  obtain ⟨e, hlt⟩ := pow8 j
  have : (nth l (j / 8)).toNat ^^^ 2 ^ (j % 8) < 2 ^ 8 := Nat.xor_lt_two_pow (by omega) (by omega)
  omega
theorem tog_len (l : List Int) (j : Nat) : (tog l j).length = l.length := by simp [tog]
theorem tog_bytes {l : List Int} (h : Bytes l) (j : Nat) : Bytes (tog l j) := by
  intro x hx
  unfold tog at hx
  rcases List.mem_or_eq_of_mem_set hx with hx | hx
  · exact h x hx
  · rw [hx]; exact tog_bd h j
theorem nth_set (l : List Int) (m q : Nat) (v : Int) (hm : m < l.length) : nth (l.set m v) q = if q = m then v else nth l q := by
  unfold nth
  rw [List.getD_eq_getElem?_getD, List.getD_eq_getElem?_getD, List.getElem?_set]
  by_cases e : m = q
  · subst e; simp [hm]
  · rw [if_neg e, if_neg (fun h => e h.symm)]
theorem tog_tb {l : List Int} (h : Bytes l) {j : Nat} (hj : j < 8 * l.length) (i : Nat) : tb (tog l j) i = (tb l i ^^ decide (i = j)) := by
  unfold tb
  unfold tog
  rw [nth_set _ _ _ _ (by omega)]
  by_cases e : i / 8 = j / 8
  · rw [if_pos e, tog_val h j, Int.toNat_natCast, Nat.testBit_xor, Nat.testBit_two_pow, e]
    congr 1
    by_cases x : i = j
    · subst x; simp
    · rw [decide_eq_false x, decide_eq_false (by omega : ¬ j % 8 = i % 8)]
  · rw [if_neg e, decide_eq_false (by intro x; subst x; exact e rfl), Bool.xor_false]
theorem bytes_ext {a b : List Int} (ha : Bytes a) (hb : Bytes b) (hl : a.length = b.length) (h : ∀ j, j < 8 * a.length → tb a j = tb b j) : a = b := by
  apply List.ext_getElem hl
  intro i h1 h2
  obtain ⟨a1, a2⟩ := ha _ (List.getElem_mem h1)
  obtain ⟨b1, b2⟩ := hb _ (List.getElem_mem h2)
  have e : (a[i]).toNat = (b[i]).toNat := by
    apply Nat.eq_of_testBit_eq
    intro t
    by_cases ht : t < 8
    · have := h (8 * i + t) (by omega)
      unfold tb at this
      rw [(by omega : (8 * i + t) / 8 = i), (by omega : (8 * i + t) % 8 = t), nth_eq h1, nth_eq h2] at this
      exact this
    · have hp : 2 ^ 8 ≤ 2 ^ t := Nat.pow_le_pow_right (by decide) (by omega)
      rw [Nat.testBit_lt_two_pow (by omega), Nat.testBit_lt_two_pow (by omega)]
  omega
/-- Behind k steps of a burst. -/
def burstK (l : List Int) (bit : Nat) (p : BitVec 32) : Nat → List Int
  | 0 => l
  | k + 1 => if bit + k < 8 * l.length ∧ p.getLsbD k = true then tog (burstK l bit p k) (bit + k) else burstK l bit p k
theorem burstK_len (l : List Int) (bit : Nat) (p : BitVec 32) : ∀ k, (burstK l bit p k).length = l.length
  | 0 => rfl
  | k + 1 => by
    rw [burstK]
    split
    · rw [tog_len, burstK_len l bit p k]
    · exact burstK_len l bit p k
theorem burstK_bytes {l : List Int} (h : Bytes l) (bit : Nat) (p : BitVec 32) : ∀ k, Bytes (burstK l bit p k)
  | 0 => h
  | k + 1 => by
    rw [burstK]
    split
    · exact tog_bytes (burstK_bytes h bit p k) _
    · exact burstK_bytes h bit p k
theorem burstK_tb {l : List Int} (h : Bytes l) (bit : Nat) (p : BitVec 32) (i : Nat) : ∀ k, tb (burstK l bit p k) i = (tb l i ^^ (decide (bit ≤ i) && decide (i < bit + k) && decide (i < 8 * l.length) && p.getLsbD (i - bit)))
  | 0 => by
    rw [burstK, Nat.add_zero]
    by_cases x : bit ≤ i
    · rw [decide_eq_false (by omega : ¬ i < bit)]; simp
    · rw [decide_eq_false x]; simp
  | k + 1 => by
    have ih := burstK_tb h bit p i k
    rw [burstK]
    by_cases c : bit + k < 8 * l.length ∧ p.getLsbD k = true
    · rw [if_pos c, tog_tb (burstK_bytes h bit p k) (by rw [burstK_len]; exact c.1), ih]
      by_cases x : i = bit + k
      · subst x
        rw [decide_eq_true (by omega : bit ≤ bit + k), decide_eq_false (by omega : ¬ bit + k < bit + k), decide_eq_true (by omega : bit + k < bit + (k + 1)), decide_eq_true c.1, Nat.add_sub_cancel_left, c.2]
        simp
      · rw [decide_eq_false x, Bool.xor_false]
        congr 4
        by_cases y : i < bit + k
        · rw [decide_eq_true y, decide_eq_true (by omega : i < bit + (k + 1))]
        · rw [decide_eq_false y, decide_eq_false (by omega : ¬ i < bit + (k + 1))]
    · rw [if_neg c, ih]
      by_cases x : i = bit + k
      · subst x
        rw [decide_eq_false (by omega : ¬ bit + k < bit + k), Nat.add_sub_cancel_left]
        by_cases z : bit + k < 8 * l.length
        · have : p.getLsbD k = false := by
            cases hh : p.getLsbD k
            · rfl
            · exact absurd ⟨z, hh⟩ c
          rw [this]; simp
        · rw [decide_eq_false z]; simp
      · congr 4
        by_cases y : i < bit + k
        · rw [decide_eq_true y, decide_eq_true (by omega : i < bit + (k + 1))]
        · rw [decide_eq_false y, decide_eq_false (by omega : ¬ i < bit + (k + 1))]
theorem burstK_far (l : List Int) (bit : Nat) (p : BitVec 32) {k : Nat} (h : 8 * l.length ≤ bit + k) : ∀ {m : Nat}, k ≤ m → burstK l bit p m = burstK l bit p k
  | 0, hm => by rw [show k = 0 by omega]
  | m + 1, hm => by
    by_cases e : k = m + 1
    · rw [e]
    · rw [burstK, if_neg (by omega), burstK_far l bit p h (by omega)]
/-- A burst, wherever. -/
def burstV (l : List Int) (bit : Int) (p : BitVec 32) : List Int := if 0 ≤ bit ∧ bit < 8 * l.length then burstK l bit.toNat p 32 else l
theorem burstV_len (l : List Int) (bit : Int) (p : BitVec 32) : (burstV l bit p).length = l.length := by
  unfold burstV
  split
  · exact burstK_len _ _ _ _
  · rfl
theorem burstV_bytes {l : List Int} (h : Bytes l) (bit : Int) (p : BitVec 32) : Bytes (burstV l bit p) := by
  unfold burstV
  split
  · exact burstK_bytes h _ _ _
  · exact h
theorem burstV_twice {l : List Int} (h : Bytes l) (bit : Int) (p : BitVec 32) : burstV (burstV l bit p) bit p = l := by
  by_cases c : 0 ≤ bit ∧ bit < 8 * l.length
  · have e1 : burstV l bit p = burstK l bit.toNat p 32 := by unfold burstV; rw [if_pos c]
    rw [e1]
    unfold burstV
    rw [burstK_len, if_pos c]
    apply bytes_ext (burstK_bytes (burstK_bytes h _ _ _) _ _ _) h (by rw [burstK_len, burstK_len])
    intro j _
    rw [burstK_tb (burstK_bytes h _ _ _), burstK_tb h, burstK_len, Bool.xor_assoc, Bool.xor_self, Bool.xor_false]
  · have e1 : burstV l bit p = l := by unfold burstV; rw [if_neg c]
    rw [e1, e1]
theorem burstK_none (l : List Int) (bit : Nat) : ∀ k, burstK l bit 0#32 k = l
  | 0 => rfl
  | k + 1 => by rw [burstK, if_neg (by simp), burstK_none l bit k]
theorem burstV_none (l : List Int) (bit : Int) : burstV l bit 0#32 = l := by
  unfold burstV
  split
  · exact burstK_none _ _ _
  · rfl
end Go.Proofs.Ytnlhpfcepbmbfaa
