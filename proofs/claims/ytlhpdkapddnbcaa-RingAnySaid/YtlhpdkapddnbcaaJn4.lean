/- Plain laws on bits of bytes that are turned. No program in sight. The contract of crc.half: the table of four bits. Plain laws: one bit of a number. No program in sight. Plain laws on a table of what becomes of each bit. No program in sight. Plain laws on bits of bytes: Field, Get. No program in sight. Contracts of ints.Put and of the reference's. Plain laws: Get tells what Put laid. No program in sight. The contract of crc.Sum: the sum of any parts. Plain law: the sum of three rows mixed by exclusive or. No program in sight. A burst in sealed bytes is found: plain laws. No program in sight. Cells of a row of the call's own, read and written. No program in sight. A bit of a row of the call's own is turned. Contracts of ints.Get and of the reference's. -/
import Derived.Test.YtlhpdkapddnbcaaJn3
import Derived.Test.YtlhpdkapddnbcaaProg
import Derived.ProofKit
import Derived.Test.YtlhpdkapddnbcaaJn1
import Derived.Laws.OwnMore
namespace Go.Proofs.Ytlhpdkapddnbcaa
open Go.RowKit
/-- Bit j of a row of bytes. -/
def tb (l : List Int) (j : Nat) : Bool := (nth l (j / 8)).toNat.testBit (j % 8)
/-- A row whose bit j is turned. -/
def tog (l : List Int) (j : Nat) : List Int := l.set (j / 8) (bits .xor .u8 (nth l (j / 8)) (2 ^ (j % 8)))
theorem pow8 (j : Nat) : (2 : Int) ^ (j % 8) = ((2 ^ (j % 8) : Nat) : Int) ∧ 2 ^ (j % 8) < 256 := by
  refine ⟨by simp, ?_⟩
  have : 2 ^ (j % 8) ≤ 2 ^ 7 := Nat.pow_le_pow_right (by decide) (by omega)
  omega
theorem tog_val {l : List Int} (h : Bytes l) (j : Nat) : bits .xor .u8 (nth l (j / 8)) (2 ^ (j % 8)) = (((nth l (j / 8)).toNat ^^^ 2 ^ (j % 8) : Nat) : Int) := by
  obtain ⟨h1, h2⟩ := h.at (j / 8)
  obtain ⟨e, hlt⟩ := pow8 j
  rw [e, u8_xor _ _ h1 (by omega) (Int.natCast_nonneg _) (Int.ofNat_lt.2 hlt), Int.toNat_natCast]
theorem tog_bd {l : List Int} (h : Bytes l) (j : Nat) : 0 ≤ bits .xor .u8 (nth l (j / 8)) (2 ^ (j % 8)) ∧ bits .xor .u8 (nth l (j / 8)) (2 ^ (j % 8)) ≤ 255 := by
  rw [tog_val h j]
  obtain ⟨h1, h2⟩ := h.at (j / 8)
  obtain ⟨e, hlt⟩ := pow8 j
  have : (nth l (j / 8)).toNat ^^^ 2 ^ (j % 8) < 2 ^ 8 := Nat.xor_lt_two_pow (by omega) (by omega)
  omega
theorem tog_len (l : List Int) (j : Nat) : (tog l j).length = l.length := by simp [tog]
theorem tog_bytes {l : List Int} (h : Bytes l) (j : Nat) : Bytes (tog l j) := by
  intro x hx
  unfold tog at hx
  rcases List.mem_or_eq_of_mem_set hx with hx | hx
  · exact h x hx
  · rw [hx]; exact tog_bd h j
theorem nth_set (l : List Int) (m q : Nat) (v : Int) (hm : m < l.length) : nth (l.set m v) q = if q = m then v else nth l q := by
  unfold nth
  rw [List.getD_eq_getElem?_getD, List.getD_eq_getElem?_getD, List.getElem?_set]
  by_cases e : m = q
  · subst e; simp [hm]
  · rw [if_neg e, if_neg (fun h => e h.symm)]
theorem tog_tb {l : List Int} (h : Bytes l) {j : Nat} (hj : j < 8 * l.length) (i : Nat) : tb (tog l j) i = (tb l i ^^ decide (i = j)) := by
  unfold tb
  unfold tog
  rw [nth_set _ _ _ _ (by omega)]
  by_cases e : i / 8 = j / 8
  · rw [if_pos e, tog_val h j, Int.toNat_natCast, Nat.testBit_xor, Nat.testBit_two_pow, e]
    congr 1
    by_cases x : i = j
    · subst x; simp
    · rw [decide_eq_false x, decide_eq_false (by omega : ¬ j % 8 = i % 8)]
  · rw [if_neg e, decide_eq_false (by intro x; subst x; exact e rfl), Bool.xor_false]
theorem bytes_ext {a b : List Int} (ha : Bytes a) (hb : Bytes b) (hl : a.length = b.length) (h : ∀ j, j < 8 * a.length → tb a j = tb b j) : a = b := by
  apply List.ext_getElem hl
  intro i h1 h2
  obtain ⟨a1, a2⟩ := ha _ (List.getElem_mem h1)
  obtain ⟨b1, b2⟩ := hb _ (List.getElem_mem h2)
  have e : (a[i]).toNat = (b[i]).toNat := by
    apply Nat.eq_of_testBit_eq
    intro t
    by_cases ht : t < 8
    · have := h (8 * i + t) (by omega)
      unfold tb at this
      rw [(by omega : (8 * i + t) / 8 = i), (by omega : (8 * i + t) % 8 = t), nth_eq h1, nth_eq h2] at this
      exact this
    · have hp : 2 ^ 8 ≤ 2 ^ t := Nat.pow_le_pow_right (by decide) (by omega)
      rw [Nat.testBit_lt_two_pow (by omega), Nat.testBit_lt_two_pow (by omega)]
  omega
/-- Behind k steps of a burst. -/
def burstK (l : List Int) (bit : Nat) (p : BitVec 32) : Nat → List Int
  | 0 => l
  | k + 1 => if bit + k < 8 * l.length ∧ p.getLsbD k = true then tog (burstK l bit p k) (bit + k) else burstK l bit p k
theorem burstK_len (l : List Int) (bit : Nat) (p : BitVec 32) : ∀ k, (burstK l bit p k).length = l.length
  | 0 => rfl
  | k + 1 => by
    rw [burstK]
    split
    · rw [tog_len, burstK_len l bit p k]
    · exact burstK_len l bit p k
theorem burstK_bytes {l : List Int} (h : Bytes l) (bit : Nat) (p : BitVec 32) : ∀ k, Bytes (burstK l bit p k)
  | 0 => h
  | k + 1 => by
    rw [burstK]
    split
    · exact tog_bytes (burstK_bytes h bit p k) _
    · exact burstK_bytes h bit p k
theorem burstK_tb {l : List Int} (h : Bytes l) (bit : Nat) (p : BitVec 32) (i : Nat) : ∀ k, tb (burstK l bit p k) i = (tb l i ^^ (decide (bit ≤ i) && decide (i < bit + k) && decide (i < 8 * l.length) && p.getLsbD (i - bit)))
  | 0 => by
    rw [burstK, Nat.add_zero]
    by_cases x : bit ≤ i
    · rw [decide_eq_false (by omega : ¬ i < bit)]; simp
    · rw [decide_eq_false x]; simp
  | k + 1 => by
    have ih := burstK_tb h bit p i k
    rw [burstK]
    by_cases c : bit + k < 8 * l.length ∧ p.getLsbD k = true
    · rw [if_pos c, tog_tb (burstK_bytes h bit p k) (by rw [burstK_len]; exact c.1), ih]
      by_cases x : i = bit + k
      · subst x
        rw [decide_eq_true (by omega : bit ≤ bit + k), decide_eq_false (by omega : ¬ bit + k < bit + k), decide_eq_true (by omega : bit + k < bit + (k + 1)), decide_eq_true c.1, Nat.add_sub_cancel_left, c.2]
        simp
      · rw [decide_eq_false x, Bool.xor_false]
        congr 4
        by_cases y : i < bit + k
        · rw [decide_eq_true y, decide_eq_true (by omega : i < bit + (k + 1))]
        · rw [decide_eq_false y, decide_eq_false (by omega : ¬ i < bit + (k + 1))]
    · rw [if_neg c, ih]
      by_cases x : i = bit + k
      · subst x
        rw [decide_eq_false (by omega : ¬ bit + k < bit + k), Nat.add_sub_cancel_left]
        by_cases z : bit + k < 8 * l.length
        · have : p.getLsbD k = false := by
            cases hh : p.getLsbD k
            · rfl
            · exact absurd ⟨z, hh⟩ c
          rw [this]; simp
        · rw [decide_eq_false z]; simp
      · congr 4
        by_cases y : i < bit + k
        · rw [decide_eq_true y, decide_eq_true (by omega : i < bit + (k + 1))]
        · rw [decide_eq_false y, decide_eq_false (by omega : ¬ i < bit + (k + 1))]
theorem burstK_far (l : List Int) (bit : Nat) (p : BitVec 32) {k : Nat} (h : 8 * l.length ≤ bit + k) : ∀ {m : Nat}, k ≤ m → burstK l bit p m = burstK l bit p k
  | 0, hm => by rw [show k = 0 by omega]
  | m + 1, hm => by
    by_cases e : k = m + 1
    · rw [e]
    · rw [burstK, if_neg (by omega), burstK_far l bit p h (by omega)]
/-- A burst, wherever. -/
def burstV (l : List Int) (bit : Int) (p : BitVec 32) : List Int := if 0 ≤ bit ∧ bit < 8 * l.length then burstK l bit.toNat p 32 else l
theorem burstV_len (l : List Int) (bit : Int) (p : BitVec 32) : (burstV l bit p).length = l.length := by
  unfold burstV
  split
  · exact burstK_len _ _ _ _
  · rfl
theorem burstV_bytes {l : List Int} (h : Bytes l) (bit : Int) (p : BitVec 32) : Bytes (burstV l bit p) := by
  unfold burstV
  split
  · exact burstK_bytes h _ _ _
  · exact h
theorem burstV_twice {l : List Int} (h : Bytes l) (bit : Int) (p : BitVec 32) : burstV (burstV l bit p) bit p = l := by
  by_cases c : 0 ≤ bit ∧ bit < 8 * l.length
  · have e1 : burstV l bit p = burstK l bit.toNat p 32 := by unfold burstV; rw [if_pos c]
    rw [e1]
    unfold burstV
    rw [burstK_len, if_pos c]
    apply bytes_ext (burstK_bytes (burstK_bytes h _ _ _) _ _ _) h (by rw [burstK_len, burstK_len])
    intro j _
    rw [burstK_tb (burstK_bytes h _ _ _), burstK_tb h, burstK_len, Bool.xor_assoc, Bool.xor_self, Bool.xor_false]
  · have e1 : burstV l bit p = l := by unfold burstV; rw [if_neg c]
    rw [e1, e1]
theorem burstK_none (l : List Int) (bit : Nat) : ∀ k, burstK l bit 0#32 k = l
  | 0 => rfl
  | k + 1 => by rw [burstK, if_neg (by simp), burstK_none l bit k]
theorem burstV_none (l : List Int) (bit : Int) : burstV l bit 0#32 = l := by
  unfold burstV
  split
  · exact burstK_none _ _ _
  · rfl
end Go.Proofs.Ytlhpdkapddnbcaa

namespace Go.Proofs.Ytlhpdkapddnbcaa
open Go.RowKit

def tabA (k : Nat) : Array Value := ((List.range 16).map fun i => Value.int .u32 (if i < k then rnum (tab i) else 0)).toArray
theorem tabA_size (k : Nat) : (tabA k).size = 16 := by simp [tabA]
theorem tabA_get (k i : Nat) (h : i < 16) : (tabA k)[i]? = some (.int .u32 (if i < k then rnum (tab i) else 0)) := by
  simp [tabA, h]
theorem tabA_set (k : Nat) : (tabA k).setIfInBounds k (.int .u32 (rnum (tab k))) = tabA (k + 1) := by
  apply Array.ext
  · simp [tabA]
  · intro i h1 h2
    have hi : i < 16 := by simpa [tabA] using h2
    rw [Array.getElem_setIfInBounds (by rw [tabA_size]; exact hi)]
    simp only [tabA, List.getElem_toArray, List.getElem_map, List.getElem_range]
    by_cases e : k = i
    · subst e; simp
    · rw [if_neg e]
      by_cases e2 : i < k
      · rw [if_pos e2, if_pos (by omega)]
      · rw [if_neg e2, if_neg (by omega)]
theorem tabA_one (k : Nat) : (tabA k).all (·.oneCell') = true := by
  simp [tabA, Value.oneCell']
theorem Below.setRow {B : Nat} {w W : World} (h : Below B w W) {g : Nat} (hg : B ≤ g) (cs : Array Value) : Below B w (W.setRow g cs) :=
  h.trans ⟨rfl, rfl, rfl, by simp, fun k hk => setRow_other _ _ _ _ (by omega)⟩
theorem u32_nat (k : Nat) (h : k < 4294967296) : rnum (BitVec.ofNat 32 k) = k := by
  unfold rnum; rw [BitVec.toNat_ofNat]; omega

set_option maxRecDepth 100000 in
set_option maxHeartbeats 400000 in
theorem half_any (w : World) : Calls Try.prog 65 #[] w fun e w' => e = .returned (.agg (tabA 16)) ∧ Below w.heap.size w w' := by
  go_enter Try.func65, Try.ntmps65
  go_wp2
  go_loopw [4] (fun i wr => ∃ k : Nat, k ≤ 16 ∧ i = .int .i64 k ∧ wr.heap[w.heap.size]? = some (.cells (tabA 0) 132 (0, 0)) ∧ wr.heap[w.heap.size + 1]? = some (.cells (tabA k) 132 (0, 0)) ∧ Below w.heap.size w wr) (fun i _ => 16 - (intOf i).toNat)
  case atStart => exact ⟨0, by omega, rfl, heap_alloc2_old _ _ _, heap_alloc2_new _ _ _, ((Below.refl _ _).alloc (Nat.le_refl _) _).alloc (by simp) _⟩
  case round =>
    obtain ⟨k, hk, rfl, hg0, hg1, hb⟩ := hrel
    have hsz := (Array.getElem?_eq_some_iff.1 hg1).1
    by_cases hp : k < 16
    · have hc : wr.cell? ⟨w.heap.size + 1, k, none⟩ = some (.int .u32 0) := by rw [cell_of_row wr _ _ _ _ _ hg1, tabA_get _ _ hp]; simp
      have hf : wr.frozen? ⟨w.heap.size + 1, k, none⟩ = false := frozen_of_row wr _ _ _ _ hg1
      have hu := Lib.hid (u32_nat k (by omega))
      have HG0 := Lib.hid hg0
      have HG1 := Lib.hid hg1
      clear hg0 hg1
      go_wp2
      go_loop [3, 9] (fun v j => ∃ q : Nat, q ≤ 4 ∧ j = .int .i64 q ∧ v = .int .u32 (rnum (bsN q (BitVec.ofNat 32 k)))) (fun _ j => 4 - (intOf j).toNat)
      case atStart => exact ⟨0, by omega, rfl, by rw [bsN, hu.out]⟩
      case round =>
        obtain ⟨q, hq, rfl, rfl⟩ := hrel
        by_cases hq4 : q < 4
        · have ha := and_one_go (bsN q (BitVec.ofNat 32 k))
          obtain ⟨ha1, ha2⟩ := ha
          have hs := Lib.hid (bs_go (bsN q (BitVec.ofNat 32 k)))
          go_wp2
          go_round
          case rel => exact ⟨q + 1, by omega, by go_num, by rw [hs.out, bsN_succ]⟩
          case measure => simp [intOf] <;> omega
        · obtain rfl : q = 4 := by omega
          go_wp2
          go_roundw
          case rel => exact ⟨k + 1, by omega, by go_num, by rw [heap_setCell_other _ _ _ _ (by simp)]; exact HG0.out, by rw [heap_setCell_same _ _ _ _ _ _ HG1.out]; congr 2; exact tabA_set k, hb.setCell (by simp) _⟩
          case measure => simp [intOf] <;> omega
    · obtain rfl : k = 16 := by omega
      go_wp2_with (first | (refine wpList_load_row rfl 132 _ rfl (w.heap.size + 1) rfl 132 (tabA 16) (0, 0) _ hg1 Try.underlying132 rfl (by kernel_rfl) ?_) | (refine wpList_store_row rfl 132 _ _ rfl w.heap.size (tabA 16) rfl rfl 132 (tabA 0) hg0 (by kernel_rfl) (by rw [tabA_size, tabA_size]) (tabA_one 16) ?_))
      refine bodyPost_ret (v := .agg (tabA 16)) (results_cell_row rfl _ _ w.heap.size 132 (tabA 16) (0, 0) _ rfl (setRow_heap wr w.heap.size _ _ _ _ hg0) Try.underlying132 rfl (by kernel_rfl)) rfl ⟨rfl, Below.setRow hb (Nat.le_refl _) _⟩
end Go.Proofs.Ytlhpdkapddnbcaa

namespace Go.Proofs.Ytlhpdkapddnbcaa
open Go.RowKit
theorem bit_test (v : BitVec 32) (k : Nat) : bits .and .u32 (rnum v / 2 ^ k) 1 = if v.getLsbD k = true then 1 else 0 := by
  rw [u32_and', u32_shr, ofInt_u32, show BitVec.ofInt 32 1 = 1#32 from rfl, and_one, BitVec.getLsbD_ushiftRight, Nat.add_zero]
  by_cases h : v.getLsbD k = true
  · rw [if_pos h, if_pos h]; rfl
  · rw [if_neg h, if_neg h]; rfl
theorem bit_yes {v : BitVec 32} {k : Nat} (h : v.getLsbD k = true) : (bits .and .u32 (rnum v / 2 ^ k) 1 == 1) = true := by rw [bit_test, if_pos h]; rfl
theorem bit_no {v : BitVec 32} {k : Nat} (h : ¬ v.getLsbD k = true) : (bits .and .u32 (rnum v / 2 ^ k) 1 == 1) = false := by rw [bit_test, if_neg h]; rfl
end Go.Proofs.Ytlhpdkapddnbcaa

namespace Go.Proofs.Ytlhpdkapddnbcaa
open Go.RowKit
def bit1 (i : Nat) : BitVec 32 := 1#32 <<< i
theorem bit1_get (k i : Nat) (hi : i < 32) : (bit1 k).getLsbD i = decide (i = k) := by
  unfold bit1
  rw [BitVec.getLsbD_shiftLeft, BitVec.getLsbD_one]
  by_cases h : i = k
  · subst h; simp [hi]
  · rw [decide_eq_false h]
    by_cases h2 : i < k
    · simp [h2]
    · rw [decide_eq_false (by omega : ¬ i - k = 0)]; simp
/-- What the bits of v below k come to by the table f. -/
def pick32 (f : Nat → BitVec 32) (v : BitVec 32) : Nat → BitVec 32
  | 0 => 0#32
  | k + 1 => if v.getLsbD k = true then pick32 f v k ^^^ f k else pick32 f v k
theorem pick_get (v : BitVec 32) (i : Nat) (hi : i < 32) : ∀ k, (pick32 bit1 v k).getLsbD i = (decide (i < k) && v.getLsbD i)
  | 0 => by simp [pick32]
  | k + 1 => by
    have ih := pick_get v i hi k
    rw [pick32]
    by_cases h : v.getLsbD k = true
    · rw [if_pos h, BitVec.getLsbD_xor, ih, bit1_get k i hi]
      by_cases e : i = k
      · subst e
        rw [decide_eq_false (by omega : ¬ i < i), decide_eq_true (by omega : i < i + 1), h]; simp
      · rw [decide_eq_false e, Bool.xor_false]
        by_cases l : i < k
        · rw [decide_eq_true l, decide_eq_true (by omega : i < k + 1)]
        · rw [decide_eq_false l, decide_eq_false (by omega : ¬ i < k + 1)]
    · rw [if_neg h, ih]
      rw [Bool.not_eq_true] at h
      by_cases e : i = k
      · subst e; rw [h, Bool.and_false, Bool.and_false]
      · by_cases l : i < k
        · rw [decide_eq_true l, decide_eq_true (by omega : i < k + 1)]
        · rw [decide_eq_false l, decide_eq_false (by omega : ¬ i < k + 1)]
theorem pick_self (v : BitVec 32) : pick32 bit1 v 32 = v := by
  apply BitVec.eq_of_getLsbD_eq
  intro i hi
  rw [pick_get v i hi, decide_eq_true hi, Bool.true_and]
theorem pick_bsN (n : Nat) (v : BitVec 32) : ∀ k, pick32 (fun i => bsN n (bit1 i)) v k = bsN n (pick32 bit1 v k)
  | 0 => (bsN_zero n).symm
  | k + 1 => by
    rw [pick32, pick32, pick_bsN n v k]
    by_cases h : v.getLsbD k = true
    · rw [if_pos h, if_pos h, bsN_xor]
    · rw [if_neg h, if_neg h]
theorem pick_all (n : Nat) (v : BitVec 32) : pick32 (fun i => bsN n (bit1 i)) v 32 = bsN n v := by rw [pick_bsN, pick_self]
theorem xor_go (a b : BitVec 32) : bits .xor .u32 (rnum a) (rnum b) = rnum (a ^^^ b) := by rw [u32_xor, ofInt_u32, ofInt_u32]
/-- A row of 32 numbers. -/
def rowU (f : Nat → BitVec 32) : Array Value := ((List.range 32).map fun i => Value.int .u32 (rnum (f i))).toArray
theorem rowU_size (f : Nat → BitVec 32) : (rowU f).size = 32 := by simp [rowU]
theorem rowU_get (f : Nat → BitVec 32) (i : Nat) (h : i < 32) : (rowU f)[i]? = some (.int .u32 (rnum (f i))) := by simp [rowU, h]
theorem rowU_congr {f g : Nat → BitVec 32} (h : ∀ i, i < 32 → f i = g i) : rowU f = rowU g := by
  unfold rowU
  congr 1
  apply List.map_congr_left
  intro i hi
  rw [h i (by simpa using hi)]
theorem rowU_set (f : Nat → BitVec 32) (k : Nat) (x : BitVec 32) : (rowU f).setIfInBounds k (.int .u32 (rnum x)) = rowU (fun i => if i = k then x else f i) := by
  apply Array.ext
  · simp [rowU]
  · intro i h1 h2
    have hi : i < 32 := by simpa [rowU] using h2
    rw [Array.getElem_setIfInBounds (by rw [rowU_size]; exact hi)]
    simp only [rowU, List.getElem_toArray, List.getElem_map, List.getElem_range]
    by_cases e : k = i
    · subst e; simp
    · rw [if_neg e, if_neg (fun h => e h.symm)]
def sqA (n : Nat) : Array Value := rowU (fun i => bsN n (bit1 i))
def sqPart (n k : Nat) : Array Value := rowU (fun i => if i < k then bsN (n + n) (bit1 i) else 0#32)
theorem sqPart_step (n k : Nat) : (sqPart n k).setIfInBounds k (.int .u32 (rnum (bsN n (bsN n (bit1 k))))) = sqPart n (k + 1) := by
  unfold sqPart
  rw [rowU_set]
  apply rowU_congr
  intro i _
  by_cases e : i = k
  · subst e; rw [if_pos rfl, if_pos (by omega), bsN_add]
  · rw [if_neg e]
    by_cases l : i < k
    · rw [if_pos l, if_pos (by omega)]
    · rw [if_neg l, if_neg (by omega)]
theorem sqPart_all (n : Nat) : sqPart n 32 = sqA (n + n) := rowU_congr fun i hi => by rw [if_pos hi]
def sqOne (k : Nat) : Array Value := rowU (fun i => if i = 0 then poly else if i < k then bit1 (i - 1) else 0#32)
theorem sqOne_step (k : Nat) (h : 1 ≤ k) : (sqOne k).setIfInBounds k (.int .u32 (rnum (bit1 (k - 1)))) = sqOne (k + 1) := by
  unfold sqOne
  rw [rowU_set]
  apply rowU_congr
  intro i _
  by_cases e : i = k
  · subst e; rw [if_pos rfl, if_neg (by omega), if_pos (by omega)]
  · rw [if_neg e]
    by_cases z : i = 0
    · rw [if_pos z, if_pos z]
    · rw [if_neg z, if_neg z]
      by_cases l : i < k
      · rw [if_pos l, if_pos (by omega)]
      · rw [if_neg l, if_neg (by omega)]
theorem sqOne_all : sqOne 32 = sqA 1 := rowU_congr fun i hi => by
  have h : ∀ i, i < 32 → (if i = 0 then poly else if i < 32 then bit1 (i - 1) else 0#32) = bsN 1 (bit1 i) := by decide +kernel
  exact h i hi
theorem sqA_one (n : Nat) : (sqA n).all (·.oneCell') = true := by simp [sqA, rowU, Value.oneCell']
theorem shl_go (k : Nat) : (2 : Int) ^ k % 4294967296 = rnum (bit1 k) := by
  unfold rnum bit1
  rw [BitVec.toNat_shiftLeft, Nat.shiftLeft_eq]
  simp
theorem i64_and_one (x : Nat) (h : (x : Int) ≤ 9223372036854775807) : bits .and .i64 (x : Int) 1 = ((x % 2 : Nat) : Int) := by
  have e : (BitVec.ofInt 64 (x : Int) &&& 1#64).toNat = x % 2 := by
    rw [BitVec.ofInt_natCast, BitVec.toNat_and, BitVec.toNat_ofNat, Nat.mod_eq_of_lt (by omega)]
    show x &&& 1 = _
    exact Nat.and_one_is_mod x
  show IntKind.i64.wrap (((BitVec.ofInt 64 (x : Int) &&& 1#64).toNat : Nat) : Int) = _
  rw [e, wrap_i64']
  unfold wrap64
  omega
theorem shr_one (m : Nat) : (m : Int).fdiv (2 ^ min (Int.toNat 1) IntKind.i64.bits) = ((m / 2 : Nat) : Int) := by
  rw [show (2 : Int) ^ min (Int.toNat 1) IntKind.i64.bits = 2 from by decide, Int.fdiv_eq_ediv_of_nonneg _ (by omega)]
  omega
end Go.Proofs.Ytlhpdkapddnbcaa

namespace Go.Proofs.Ytlhpdkapddnbcaa
open Go.RowKit

def bitAt (l : List Int) (j : Nat) : Int := nth l (j / 8) / 2 ^ (j % 8) % 2
def fieldK (l : List Int) (p : Nat) : Nat → Int
  | 0 => 0
  | k + 1 => fieldK l p k + bitAt l (p + k) * 2 ^ k
def getK (l : List Int) : Nat → Int
  | 0 => 0
  | k + 1 => getK l k + nth l k * 2 ^ (8 * k)

theorem bitAt_bd (l : List Int) (j : Nat) : 0 ≤ bitAt l j ∧ bitAt l j ≤ 1 := by
  unfold bitAt
  have h0 : 0 ≤ nth l (j / 8) / 2 ^ (j % 8) % 2 := Int.emod_nonneg _ (by omega)
  have h1 : nth l (j / 8) / 2 ^ (j % 8) % 2 < 2 := Int.emod_lt_of_pos _ (by omega)
  omega
theorem fieldK_bd (l : List Int) (p : Nat) : ∀ k, 0 ≤ fieldK l p k ∧ fieldK l p k < 2 ^ k
  | 0 => by simp [fieldK]
  | k + 1 => by
    have ih := fieldK_bd l p k
    have hb := bitAt_bd l (p + k)
    have e : (2 : Int) ^ (k + 1) = 2 ^ k * 2 := Int.pow_succ _ _
    unfold fieldK
    rcases (by omega : bitAt l (p + k) = 0 ∨ bitAt l (p + k) = 1) with h | h <;> rw [h, e] <;> omega
theorem fieldK_low (l : List Int) : ∀ (k p : Nat), fieldK l p (k + 1) = bitAt l p + 2 * fieldK l (p + 1) k
  | 0, p => by simp [fieldK]
  | k + 1, p => by
    have ih := fieldK_low l k p
    have e : (2 : Int) ^ (k + 1) = 2 * 2 ^ k := by rw [Int.pow_succ]; omega
    rw [fieldK, ih, fieldK, e, show p + 1 + k = p + (k + 1) by omega, Int.mul_add, Int.add_assoc, Int.mul_left_comm]
theorem fieldK_split (l : List Int) (p n : Nat) : ∀ m, fieldK l p (n + m) = fieldK l p n + fieldK l (p + n) m * 2 ^ n
  | 0 => by simp [fieldK]
  | m + 1 => by
    have ih := fieldK_split l p n m
    rw [← Nat.add_assoc, fieldK, ih, fieldK, Int.add_mul, Int.add_assoc, Int.pow_add, Nat.add_assoc, Int.mul_assoc, Int.mul_comm (2 ^ n)]
theorem field_one (x : Int) (k : Nat) (h1 : 0 ≤ x) (h2 : x ≤ 1) (hk : k ≤ 63) : IntKind.u64.wrap (x * 2 ^ k) = x * 2 ^ k := by
  have hp := pow_le_of hk
  have hp1 : (1 : Int) ≤ 2 ^ k := by exact_mod_cast Nat.one_le_two_pow
  refine IntWalk.u64_in _ ?_
  rcases (by omega : x = 0 ∨ x = 1) with h | h <;> rw [h] <;> omega
theorem field_go (l : List Int) (p k : Nat) (hk : k ≤ 63) :
    bits .or .u64 (fieldK l p k) (bitAt l (p + k) * 2 ^ k) = fieldK l p (k + 1) := by
  have hb := bitAt_bd l (p + k)
  have hf := fieldK_bd l p k
  have hp := pow_le_of hk
  have hp1 : (1 : Int) ≤ 2 ^ k := by exact_mod_cast Nat.one_le_two_pow
  rw [fieldK]
  have e : bits .or .u64 (fieldK l p k) (bitAt l (p + k) * 2 ^ k) = bits .or .u64 (bitAt l (p + k) * 2 ^ k) (fieldK l p k) := by
    unfold bits; simp only; rw [BitVec.or_comm]
  have hx : 0 ≤ bitAt l (p + k) * 2 ^ k ∧ bitAt l (p + k) * 2 ^ k ≤ 2 ^ k := by
    rcases (by omega : bitAt l (p + k) = 0 ∨ bitAt l (p + k) = 1) with h | h <;> rw [h] <;> omega
  rw [e, u64_join _ _ k hx.1 (by omega) hf.1 (by omega) (by simp) hf.2]
  omega
theorem byte_bit (x : Int) (i : Nat) (h1 : 0 ≤ x) (h2 : x ≤ 255) : bits .and .u8 (x / 2 ^ i) 1 = x / 2 ^ i % 2 := by
  have hd := div_bd x i h1
  rw [u8_and _ 1 hd.1 (by omega) (by omega) (by omega), show (1 : Int).toNat = 1 from rfl, Nat.and_one_is_mod]; omega
theorem i64_and_7 (x : Int) (h1 : 0 ≤ x) (h2 : x ≤ 9223372036854775807) : bits .and .i64 x 7 = x % 8 := by
  obtain ⟨a, rfl⟩ := Int.eq_ofNat_of_zero_le h1
  have h := bits_nat .i64 63 (by decide) (fun n h0 h1 => IntWalk.i64_in n (by omega)) a 7 (by omega) (by omega)
  have h' := h.1
  rw [show ((7 : Nat) : Int) = 7 from rfl] at h'
  rw [h', show (7 : Nat) = 2 ^ 3 - 1 from rfl, Nat.and_two_pow_sub_one_eq_mod]
  omega
theorem getK_bd (l : List Int) : ∀ k, (∀ i, i < k → 0 ≤ nth l i ∧ nth l i ≤ 255) → 0 ≤ getK l k ∧ getK l k < 2 ^ (8 * k)
  | 0, _ => by simp [getK]
  | k + 1, h => by
    have ih := getK_bd l k (fun i hi => h i (by omega))
    have hb := h k (by omega)
    have e : (2 : Int) ^ (8 * (k + 1)) = 2 ^ (8 * k) * 256 := by rw [Nat.mul_add, Int.pow_add]; rfl
    have hp1 : (1 : Int) ≤ 2 ^ (8 * k) := by exact_mod_cast Nat.one_le_two_pow
    have h0 : 0 ≤ nth l k * 2 ^ (8 * k) := Int.mul_nonneg hb.1 (by omega)
    have h1 : nth l k * 2 ^ (8 * k) ≤ 255 * 2 ^ (8 * k) := Int.mul_le_mul_of_nonneg_right hb.2 (by omega)
    unfold getK; rw [e]; omega
theorem get_wrap (x : Int) (k : Nat) (h1 : 0 ≤ x) (h2 : x ≤ 255) (hk : k ≤ 7) : IntKind.u64.wrap (x * 2 ^ (8 * k)) = x * 2 ^ (8 * k) := by
  have hp := pow_le_of (show 8 * k ≤ 56 by omega)
  have hp1 : (1 : Int) ≤ 2 ^ (8 * k) := by exact_mod_cast Nat.one_le_two_pow
  have h0 : 0 ≤ x * 2 ^ (8 * k) := Int.mul_nonneg h1 (by omega)
  have h3 : x * 2 ^ (8 * k) ≤ 255 * 2 ^ (8 * k) := Int.mul_le_mul_of_nonneg_right h2 (by omega)
  exact IntWalk.u64_in _ (by omega)
theorem get_go (l : List Int) (k : Nat) (hk : k ≤ 7) (h : ∀ i, i ≤ k → 0 ≤ nth l i ∧ nth l i ≤ 255) :
    bits .or .u64 (getK l k) (IntKind.u64.wrap (nth l k * 2 ^ (8 * k))) = getK l (k + 1) := by
  have hb := h k (by omega)
  have hf := getK_bd l k (fun i hi => h i (by omega))
  have hg := getK_bd l (k + 1) (fun i hi => h i (by omega))
  have hp := pow_le_of (show 8 * (k + 1) ≤ 64 by omega)
  have hp1 : (1 : Int) ≤ 2 ^ (8 * k) := by exact_mod_cast Nat.one_le_two_pow
  have h0 : 0 ≤ nth l k * 2 ^ (8 * k) := Int.mul_nonneg hb.1 (by omega)
  have e : bits .or .u64 (getK l k) (nth l k * 2 ^ (8 * k)) = bits .or .u64 (nth l k * 2 ^ (8 * k)) (getK l k) := by
    unfold bits; simp only; rw [BitVec.or_comm]
  unfold getK at hg
  rw [get_wrap _ _ hb.1 hb.2 hk, e, u64_join _ _ (8 * k) h0 (by omega) hf.1 (by omega) (by simp) hf.2]
  show _ = getK l k + nth l k * 2 ^ (8 * k)
  omega
/-- The bytes from i on, n of them, as a number. -/
def getFrom (l : List Int) (i : Nat) : Nat → Int
  | 0 => 0
  | n + 1 => nth l i + 256 * getFrom l (i + 1) n
theorem getFrom_snoc (l : List Int) : ∀ (n i : Nat), getFrom l i (n + 1) = getFrom l i n + nth l (i + n) * 2 ^ (8 * n)
  | 0, i => by simp [getFrom]
  | n + 1, i => by
    have ih := getFrom_snoc l n (i + 1)
    have e : (2 : Int) ^ (8 * (n + 1)) = 256 * 2 ^ (8 * n) := by rw [Nat.mul_add, Int.pow_add, Int.mul_comm]; rfl
    rw [getFrom, ih, getFrom, e, show i + 1 + n = i + (n + 1) by omega, Int.mul_add, Int.add_assoc, Int.mul_left_comm]
theorem getFrom_zero (l : List Int) : ∀ n, getFrom l 0 n = getK l n
  | 0 => rfl
  | n + 1 => by rw [getFrom_snoc, getFrom_zero l n, getK, Nat.zero_add]
theorem byte_field (l : List Int) (i : Nat) (h : 0 ≤ nth l i ∧ nth l i ≤ 255) : fieldK l (8 * i) 8 = nth l i := by
  have b (j : Nat) (hj : j < 8) : bitAt l (8 * i + j) = nth l i / 2 ^ j % 2 := by
    unfold bitAt; rw [show (8 * i + j) / 8 = i by omega, show (8 * i + j) % 8 = j by omega]
  simp only [fieldK, b 0 (by omega), b 1 (by omega), b 2 (by omega), b 3 (by omega), b 4 (by omega), b 5 (by omega), b 6 (by omega), b 7 (by omega)]
  obtain ⟨h1, h2⟩ := h
  generalize nth l i = x at *
  simp only [Int.pow_zero, Int.reducePow, Int.ediv_one, Int.mul_one]
  omega
theorem field_get (l : List Int) : ∀ n, (∀ i, i < n → 0 ≤ nth l i ∧ nth l i ≤ 255) → fieldK l 0 (8 * n) = getK l n
  | 0, _ => rfl
  | n + 1, h => by
    rw [Nat.mul_add, fieldK_split, field_get l n (fun i hi => h i (by omega)), Nat.zero_add]
    show _ + fieldK l (8 * n) 8 * _ = _
    rw [byte_field l n (h n (by omega)), getK]
theorem field_step (l : List Int) (p k : Nat) (hk : k ≤ 63) (h1 : 0 ≤ nth l ((p + k) / 8)) (h2 : nth l ((p + k) / 8) ≤ 255) :
    bits BinOp.or IntKind.u64 (fieldK l p k) (IntKind.u64.wrap (IntKind.u64.wrap (bits BinOp.and IntKind.u8 (nth l ((p + k) / 8) / 2 ^ ((p + k) % 8)) 1) * 2 ^ k)) = fieldK l p (k + 1) := by
  have hb := bitAt_bd l (p + k)
  rw [byte_bit _ _ h1 h2]
  show bits BinOp.or IntKind.u64 (fieldK l p k) (IntKind.u64.wrap (IntKind.u64.wrap (bitAt l (p + k)) * 2 ^ k)) = _
  rw [IntWalk.u64_in (bitAt l (p + k)) (by omega), field_one _ _ hb.1 hb.2 hk, field_go l p k hk]
theorem rfield_step (l : List Int) (p k m : Nat) (h1 : 0 ≤ nth l ((p + k) / 8)) (h2 : nth l ((p + k) / 8) ≤ 255) :
    2 * fieldK l (p + (k + 1)) m + bits BinOp.and IntKind.u8 (nth l ((p + k) / 8) / 2 ^ ((p + k) % 8)) 1 = fieldK l (p + k) (m + 1) := by
  rw [byte_bit _ _ h1 h2, fieldK_low, Int.add_comm]; rfl
theorem getFrom_bd (l : List Int) : ∀ (n i : Nat), (∀ j, j < i + n → 0 ≤ nth l j ∧ nth l j ≤ 255) → 0 ≤ getFrom l i n ∧ getFrom l i n < 2 ^ (8 * n)
  | 0, i, _ => by simp [getFrom]
  | n + 1, i, h => by
    have ih := getFrom_bd l n (i + 1) (fun j hj => h j (by omega))
    have hb := h i (by omega)
    have e : (2 : Int) ^ (8 * (n + 1)) = 256 * 2 ^ (8 * n) := by rw [Nat.mul_add, Int.pow_add, Int.mul_comm]; rfl
    unfold getFrom; rw [e]; omega
end Go.Proofs.Ytlhpdkapddnbcaa

namespace Go.Proofs.Ytlhpdkapddnbcaa
open Go.RowKit

def putL (v : Int) : Nat → List Int
  | 0 => []
  | k + 1 => putL v k ++ [v / 2 ^ (8 * k) % 256]
theorem putL_len (v : Int) : ∀ k, (putL v k).length = k
  | 0 => rfl
  | k + 1 => by simp [putL, putL_len v k]
def putN (n : Int) : Nat := (min (max n 0) 64).toNat
theorem putL_snoc (l : List Int) (v x : Int) (k : Nat) (h : x = v / 2 ^ (8 * k) % 256) : l ++ putL v k ++ [x] = l ++ putL v (k + 1) := by
  rw [putL, List.append_assoc, h]
theorem put_zero (v : Int) (k : Nat) (h1 : 0 ≤ v) (h2 : v ≤ 18446744073709551615) (hk : 8 ≤ k) : (0 : Int) = v / 2 ^ (8 * k) % 256 := by
  have : v / 2 ^ (8 * k) = 0 := Int.ediv_eq_zero_of_lt h1 (by have := pow_le_of (show 64 ≤ 8 * k by omega); omega)
  rw [this]; rfl

set_option maxRecDepth 100000 in
theorem put_any (a : Option Addr) (n c : Nat) (l : List Int) (v m : Int) (w : World) (h : RdAt .u8 w a n c l) (hn : n ≤ 1000000000)
    (v1 : 0 ≤ v) (v2 : v ≤ 18446744073709551615) (m1 : -9223372036854775808 ≤ m) (m2 : m ≤ 9223372036854775807) :
    Calls Try.prog 36 #[.slice a n c, .int .u64 v, .int .i64 m] w fun e w' => ∃ r, e = .returned r ∧ Owns .u8 5 w' w.heap.size r (l ++ putL v (putN m)) ∧ Below w.heap.size w w' := by
  have hlen := h.len
  by_cases c1 : m ≤ 64
  by_cases c2 : 0 ≤ m
  · obtain ⟨m, rfl⟩ := Int.eq_ofNat_of_zero_le c2
    have hm : putN m = m := by unfold putN; omega
    rw [hm]
    clear hm
    go_enter Try.func36, Try.ntmps36
    go_wp2_with (at_builtin; refine app_all u8T u8I (by decide) rfl _ _ rfl _ w.heap.size _ [] rfl (Owns.empty _ _ _ _ _ _) _ _ _ l rfl (h.below ((Below.refl _ _).alloc (Nat.le_refl _) _)) (by simp; omega) (by simp) ?_; intro x1 w1 ho1 hg0)
    have hb1 := hg0.fromEmpty
    clear hg0
    go_loopw [7, 15] (fun x i wr => ∃ k : Nat, k ≤ m ∧ i = .int .i64 k ∧ Owns .u8 5 wr w.heap.size x (l ++ putL v k) ∧ Below w.heap.size w wr) (fun _ i _ => m - (intOf i).toNat)
    case atStart => exact ⟨0, by omega, rfl, by simpa [putL] using ho1, hb1⟩
    case round =>
      obtain ⟨k, hk, rfl, ho, hb⟩ := hrel
      have hll : (l ++ putL v k).length = n + k := by simp [putL_len, hlen]
      have hsz := hb.size
      have hd := div_bd v (8 * k) v1
      have hd1 := hd.1
      have hd2 : v / 2 ^ (8 * k) ≤ 18446744073709551615 := by omega
      have HLL := Lib.hid hll
      have HL := Lib.hid hlen
      clear hd hll ho1 hb1 hlen
      by_cases hp : k < m
      · by_cases h8 : k < 8
        · go_wp2_with (at_builtin; refine app_one u8T u8I (by decide) rfl _ _ rfl _ w.heap.size _ (l ++ putL v k) rfl ho _ rfl ?_ (by rw [HLL.out]; omega) hsz ?_; exact wf_mod8 _; intro x2 w2 ho2 hb2)
          go_roundw
          case rel => exact ⟨k + 1, by omega, by go_num, by rw [putL_snoc _ _ _ _ rfl] at ho2; exact ho2, hb.trans (hb2.below hsz (fun g hg => (ho.at_base g hg).1))⟩
          case measure => simp [intOf] <;> omega
        · go_wp2_with (at_builtin; refine app_one u8T u8I (by decide) rfl _ _ rfl _ w.heap.size _ (l ++ putL v k) rfl ho _ rfl ?_ (by rw [HLL.out]; omega) hsz ?_; decide; intro x2 w2 ho2 hb2)
          go_roundw
          case rel => exact ⟨k + 1, by omega, by go_num, by rw [putL_snoc _ _ _ _ (put_zero v k v1 v2 (by omega))] at ho2; exact ho2, hb.trans (hb2.below hsz (fun g hg => (ho.at_base g hg).1))⟩
          case measure => simp [intOf] <;> omega
      · obtain rfl : k = m := by omega
        go_wp2
        go_ret
        exact ⟨_, rfl, ho, hb⟩
  · skip
    have hm : putN m = 0 := by unfold putN; omega
    rw [hm]
    clear hm
    go_enter Try.func36, Try.ntmps36
    go_wp2_with (at_builtin; refine app_all u8T u8I (by decide) rfl _ _ rfl _ w.heap.size _ [] rfl (Owns.empty _ _ _ _ _ _) _ _ _ l rfl (h.below ((Below.refl _ _).alloc (Nat.le_refl _) _)) (by simp; omega) (by simp) ?_; intro x1 w1 ho1 hg0)
    have hb1 := hg0.fromEmpty
    clear hg0
    go_loopw [7, 15] (fun x i wr => ∃ k : Nat, k ≤ 0 ∧ i = .int .i64 k ∧ Owns .u8 5 wr w.heap.size x (l ++ putL v k) ∧ Below w.heap.size w wr) (fun _ i _ => 0 - (intOf i).toNat)
    case atStart => exact ⟨0, by omega, rfl, by simpa [putL] using ho1, hb1⟩
    case round =>
      obtain ⟨k, hk, rfl, ho, hb⟩ := hrel
      have hll : (l ++ putL v k).length = n + k := by simp [putL_len, hlen]
      have hsz := hb.size
      have hd := div_bd v (8 * k) v1
      have hd1 := hd.1
      have hd2 : v / 2 ^ (8 * k) ≤ 18446744073709551615 := by omega
      have HLL := Lib.hid hll
      have HL := Lib.hid hlen
      clear hd hll ho1 hb1 hlen
      by_cases hp : k < 0
      · exfalso; omega
      · obtain rfl : k = 0 := by omega
        go_wp2
        go_ret
        exact ⟨_, rfl, ho, hb⟩
  · skip
    have hm : putN m = 64 := by unfold putN; omega
    rw [hm]
    clear hm
    go_enter Try.func36, Try.ntmps36
    go_wp2_with (at_builtin; refine app_all u8T u8I (by decide) rfl _ _ rfl _ w.heap.size _ [] rfl (Owns.empty _ _ _ _ _ _) _ _ _ l rfl (h.below ((Below.refl _ _).alloc (Nat.le_refl _) _)) (by simp; omega) (by simp) ?_; intro x1 w1 ho1 hg0)
    have hb1 := hg0.fromEmpty
    clear hg0
    go_loopw [7, 15] (fun x i wr => ∃ k : Nat, k ≤ 64 ∧ i = .int .i64 k ∧ Owns .u8 5 wr w.heap.size x (l ++ putL v k) ∧ Below w.heap.size w wr) (fun _ i _ => 64 - (intOf i).toNat)
    case atStart => exact ⟨0, by omega, rfl, by simpa [putL] using ho1, hb1⟩
    case round =>
      obtain ⟨k, hk, rfl, ho, hb⟩ := hrel
      have hll : (l ++ putL v k).length = n + k := by simp [putL_len, hlen]
      have hsz := hb.size
      have hd := div_bd v (8 * k) v1
      have hd1 := hd.1
      have hd2 : v / 2 ^ (8 * k) ≤ 18446744073709551615 := by omega
      have HLL := Lib.hid hll
      have HL := Lib.hid hlen
      clear hd hll ho1 hb1 hlen
      by_cases hp : k < 64
      · by_cases h8 : k < 8
        · go_wp2_with (at_builtin; refine app_one u8T u8I (by decide) rfl _ _ rfl _ w.heap.size _ (l ++ putL v k) rfl ho _ rfl ?_ (by rw [HLL.out]; omega) hsz ?_; exact wf_mod8 _; intro x2 w2 ho2 hb2)
          go_roundw
          case rel => exact ⟨k + 1, by omega, by go_num, by rw [putL_snoc _ _ _ _ rfl] at ho2; exact ho2, hb.trans (hb2.below hsz (fun g hg => (ho.at_base g hg).1))⟩
          case measure => simp [intOf] <;> omega
        · go_wp2_with (at_builtin; refine app_one u8T u8I (by decide) rfl _ _ rfl _ w.heap.size _ (l ++ putL v k) rfl ho _ rfl ?_ (by rw [HLL.out]; omega) hsz ?_; decide; intro x2 w2 ho2 hb2)
          go_roundw
          case rel => exact ⟨k + 1, by omega, by go_num, by rw [putL_snoc _ _ _ _ (put_zero v k v1 v2 (by omega))] at ho2; exact ho2, hb.trans (hb2.below hsz (fun g hg => (ho.at_base g hg).1))⟩
          case measure => simp [intOf] <;> omega
      · obtain rfl : k = 64 := by omega
        go_wp2
        go_ret
        exact ⟨_, rfl, ho, hb⟩

end Go.Proofs.Ytlhpdkapddnbcaa

namespace Go.Proofs.Ytlhpdkapddnbcaa
open Go.RowKit
theorem nth_zero (x : Int) (t : List Int) : nth (x :: t) 0 = x := rfl
theorem nth_succ (x : Int) (t : List Int) (j : Nat) : nth (x :: t) (j + 1) = nth t j := by simp [nth, List.getD]
theorem nth_app {l r : List Int} {j : Nat} (h : j < l.length) : nth (l ++ r) j = nth l j := by simp [nth, List.getD, List.getElem?_append_left h]
theorem nth_putL (u : Int) : ∀ (n i : Nat), i < n → nth (putL u n) i = u / 2 ^ (8 * i) % 256
  | n + 1, i, h => by
    rw [putL]
    by_cases e : i < n
    · rw [nth_app (by rw [putL_len]; exact e)]; exact nth_putL u n i e
    · obtain rfl : i = n := by omega
      simp [nth, List.getD, putL_len]
theorem getK_putL (u : Int) (n : Nat) (h0 : 0 ≤ u) : ∀ k, k ≤ n → getK (putL u n) k = u % 2 ^ (8 * k)
  | 0, _ => by simp [getK]
  | k + 1, h => by
    rw [getK, getK_putL u n h0 k (by omega), nth_putL u n k (by omega)]
    rw [show 8 * (k + 1) = 8 * k + 8 by omega, Int.pow_add]
    have hp : (0 : Int) < 2 ^ (8 * k) := Int.pow_pos (by decide)
    have e := Int.emod_def u (2 ^ (8 * k))
    have e2 := Int.emod_def u (2 ^ (8 * k) * 2 ^ 8)
    rw [← Int.ediv_ediv_of_nonneg (by omega)] at e2
    have e3 := Int.emod_def (u / 2 ^ (8 * k)) 256
    rw [e, e2, e3, show (2 : Int) ^ 8 = 256 from rfl]
    rw [Int.sub_mul, Int.mul_comm (u / 2 ^ (8 * k)), Int.mul_comm (256 * _), ← Int.mul_assoc (2 ^ (8 * k)) 256]
    omega
end Go.Proofs.Ytlhpdkapddnbcaa

namespace Go.Proofs.Ytlhpdkapddnbcaa
open Go.RowKit

/-- A slice of slices of bytes reads as the rows ls. -/
structure PartsAt (w : World) (a : Option Addr) (n : Nat) (ls : List (List Int)) : Prop where
  len : ls.length = n
  cell : ∀ i, i < n → ∃ b o ai ni ci, a = some ⟨b, o, none⟩ ∧ w.cell? ⟨b, o + i, none⟩ = some (.slice ai ni ci) ∧ RdAt .u8 w ai ni ci (ls.getD i [])
theorem PartsAt.below {w w' : World} {a : Option Addr} {n : Nat} {ls : List (List Int)} (h : PartsAt w a n ls) (hb : Below w.heap.size w w') : PartsAt w' a n ls :=
  ⟨h.len, fun i hi => by
    obtain ⟨b, o, ai, ni, ci, e, hc, hr⟩ := h.cell i hi
    exact ⟨b, o, ai, ni, ci, e, by rw [hb.cell (block_lt_of_cell hc)]; exact hc, hr.below hb⟩⟩

def lo4 (r : BitVec 32) : Nat := (r &&& 15#32).toNat
def mixB (r : BitVec 32) (c : Int) : BitVec 32 := r ^^^ byte c
theorem lo4_lt (r : BitVec 32) : lo4 r < 16 := and_15_lt r
theorem mix_go (r : BitVec 32) (c : Int) : bits .xor .u32 (rnum r) c = rnum (mixB r c) := by rw [u32_xor, ofInt_u32]; rfl
theorem lo4_go (r : BitVec 32) : bits .and .u32 (rnum r) 15 = (lo4 r : Int) := and_15 r
theorem nib_go (r : BitVec 32) : bits .xor .u32 (rnum r / 16) (rnum (tab (lo4 r))) = rnum (bsN 4 r) := tab_go r
theorem stB_nib (r : BitVec 32) (c : Int) : bsN 4 (bsN 4 (mixB r c)) = stB r c := (bsN_add 4 4 _).symm
theorem take_nth (l : List Int) (k : Nat) (h : k < l.length) : l.take (k + 1) = l.take k ++ [nth l k] := by
  rw [List.take_succ_eq_append_getElem h, nth_eq h]
theorem st_take (r : BitVec 32) (l : List Int) (k : Nat) (h : k < l.length) : st r (l.take (k + 1)) = stB (st r (l.take k)) (nth l k) := by
  rw [take_nth l k h, st_append]; rfl
theorem flat_take (ls : List (List Int)) (k : Nat) (h : k < ls.length) : (ls.take (k + 1)).flatten = (ls.take k).flatten ++ ls.getD k [] := by
  rw [List.take_succ_eq_append_getElem h, List.flatten_append]
  simp [List.getD, h]

set_option maxRecDepth 100000 in
set_option maxHeartbeats 1000000 in
theorem sum_any (a : Option Addr) (n c : Nat) (ls : List (List Int)) (w : World) (h : PartsAt w a n ls) (hn : n ≤ 1000000000) :
    Calls Try.prog 64 #[.slice a n c] w fun e w' => e = .returned (.int .u32 (rnum (sumB ls.flatten))) ∧ Below w.heap.size w w' := by
  go_enter Try.func64, Try.ntmps64
  go_wp2_with (first | (go_at_call 65; refine (half_any _).mono ?_; rintro e w1 ⟨rfl, hb⟩) | (refine wpList_store_row rfl 132 _ _ rfl w1.heap.size (tabA 16) rfl rfl 132 _ (heap_alloc_new w1 _) (by kernel_rfl) (by simp [tabA_size]) (tabA_one 16) ?_))
  have hB1 : Below w1.heap.size w1 ((w1.alloc (.cells #[.int .u32 0, .int .u32 0, .int .u32 0, .int .u32 0, .int .u32 0, .int .u32 0, .int .u32 0, .int .u32 0, .int .u32 0, .int .u32 0, .int .u32 0, .int .u32 0, .int .u32 0, .int .u32 0, .int .u32 0, .int .u32 0] 132)).setRow w1.heap.size (tabA 16)) := Below.setRow ((Below.refl _ _).alloc (Nat.le_refl _) _) (Nat.le_refl _) _
  have hT : ∀ j, j < 16 → ((w1.alloc (.cells #[.int .u32 0, .int .u32 0, .int .u32 0, .int .u32 0, .int .u32 0, .int .u32 0, .int .u32 0, .int .u32 0, .int .u32 0, .int .u32 0, .int .u32 0, .int .u32 0, .int .u32 0, .int .u32 0, .int .u32 0, .int .u32 0] 132)).setRow w1.heap.size (tabA 16)).cell? ⟨w1.heap.size, j, none⟩ = some (.int .u32 (rnum (tab j))) := fun j hj => by
    rw [cell_of_row _ _ _ _ _ _ (setRow_heap _ _ _ _ _ _ (heap_alloc_new w1 _)), tabA_get _ _ hj, if_pos hj]
  generalize (w1.alloc (.cells #[.int .u32 0, .int .u32 0, .int .u32 0, .int .u32 0, .int .u32 0, .int .u32 0, .int .u32 0, .int .u32 0, .int .u32 0, .int .u32 0, .int .u32 0, .int .u32 0, .int .u32 0, .int .u32 0, .int .u32 0, .int .u32 0] 132)).setRow w1.heap.size (tabA 16) = w2 at *
  have hP := (h.below hb).below hB1
  have hB := hb.trans (hB1.mono hb.size)
  have HT := Lib.hid hT
  have HLs := Lib.hid hP.len
  clear hT hb hB1
  go_loop [4, 12] (fun v i => ∃ k : Nat, k ≤ n ∧ i = .int .i64 k ∧ v = .int .u32 (rnum (st (ones) (ls.take k).flatten))) (fun _ i => n - (intOf i).toNat)
  case atStart => exact ⟨0, by omega, rfl, rfl⟩
  case round =>
    obtain ⟨k, hk, rfl, rfl⟩ := hrel
    by_cases hp : k < n
    · obtain ⟨b, o, ai, ni, ci, rfl, hc, hr⟩ := hP.cell k hp
      have hmax := hr.max
      have hcap := hr.cap
      unfold maxLen at hmax
      have HLL := Lib.hid hr.len
      have HF := Lib.hid (flat_take ls k (by rw [HLs.out]; exact hp))
      go_wp2
      generalize ls.getD k [] = l at *
      generalize hs0 : st (ones) (ls.take k).flatten = s0 at *
      have HS0 := Lib.hid hs0
      clear hs0
      go_loop [4, 18] (fun v j => ∃ q : Nat, q ≤ ni ∧ j = .int .i64 q ∧ v = .int .u32 (rnum (st s0 (l.take q)))) (fun _ j => ni - (intOf j).toNat)
      case atStart => exact ⟨0, by omega, rfl, rfl⟩
      case round =>
        obtain ⟨q, hq, rfl, rfl⟩ := hrel
        by_cases hqn : q < ni
        · obtain ⟨b2, o2, rfl, hc2⟩ := hr.cell q hqn
          obtain ⟨hb1, hb2⟩ := hr.byte q hqn
          have HS := Lib.hid (st_take s0 l q (by rw [HLL.out]; exact hqn))
          generalize st s0 (l.take q) = s1 at *
          generalize nth l q = x at *
          have e1 := mix_go s1 x
          have e2 := lo4_go (mixB s1 x)
          have e3 := nib_go (mixB s1 x)
          have e4 := lo4_go (bsN 4 (mixB s1 x))
          have e5 := nib_go (bsN 4 (mixB s1 x))
          have l1 := lo4_lt (mixB s1 x)
          have l2 := lo4_lt (bsN 4 (mixB s1 x))
          have t1 := HT.out _ l1
          have t2 := HT.out _ l2
          have HN := Lib.hid (stB_nib s1 x)
          go_wp2
          go_round
          case rel => exact ⟨q + 1, by omega, by go_num, by rw [HN.out, HS.out]⟩
          case measure => simp [intOf] <;> omega
        · obtain rfl : q = ni := by omega
          have HX : Hid (st s0 (l.take q) = st (ones) (ls.take (k + 1)).flatten) := by
            show _ = _
            rw [HF.out, st_append, HS0.out, List.take_of_length_le (by rw [HLL.out]; omega)]
          go_wp2
          go_round
          case rel => exact ⟨k + 1, by omega, by go_num, by rw [HX.out]⟩
          case measure => simp [intOf] <;> omega
    · obtain rfl : k = n := by omega
      go_wp2
      go_ret
      exact ⟨ret_int (by rw [not_go, List.take_of_length_le (by rw [HLs.out]; omega)]; rfl), hB⟩
theorem PartsAt.alloc {w : World} {a : Option Addr} {n : Nat} {ls : List (List Int)} (h : PartsAt w a n ls) (o : Obj) : PartsAt (w.alloc o) a n ls := h.below ((Below.refl _ _).alloc (Nat.le_refl _) o)
theorem PartsAt.none (w : World) : PartsAt w none 0 [] := ⟨rfl, fun i hi => by omega⟩
theorem PartsAt.one {w : World} {a : Option Addr} {n c : Nat} {l : List Int} (h : RdAt .u8 w a n c l) (e : TypeId) : PartsAt (w.alloc (.cells #[.slice a n c] e)) (some ⟨w.heap.size, 0, Option.none⟩) 1 [l] :=
  ⟨rfl, fun i hi => by
    obtain rfl : i = 0 := by omega
    exact ⟨_, _, a, n, c, rfl, by simp, h.alloc _⟩⟩
theorem PartsAt.two {w : World} {a a' : Option Addr} {n c n' c' : Nat} {l l' : List Int} (h : RdAt .u8 w a n c l) (h' : RdAt .u8 w a' n' c' l') (e : TypeId) : PartsAt (w.alloc (.cells #[.slice a n c, .slice a' n' c'] e)) (some ⟨w.heap.size, 0, Option.none⟩) 2 [l, l'] :=
  ⟨rfl, fun i hi => by
    rcases (by omega : i = 0 ∨ i = 1) with rfl | rfl
    · exact ⟨_, _, a, n, c, rfl, by simp, h.alloc _⟩
    · exact ⟨_, _, a', n', c', rfl, by simp, h'.alloc _⟩⟩
set_option maxRecDepth 100000 in
/-- The sum of one part. -/
theorem sum_one (a : Option Addr) (c : Nat) (l : List Int) (w : World) (h : PartsAt w a 1 [l]) :
    Calls Try.prog 64 #[.slice a 1 c] w fun e w' => e = .returned (.int .u32 (rnum (sumB l))) ∧ Below w.heap.size w w' := by
  refine (sum_any a 1 c [l] w h (by omega)).mono fun e w' ⟨he, hb⟩ => ⟨?_, hb⟩
  rw [he]; simp
end Go.Proofs.Ytlhpdkapddnbcaa

namespace Go.Proofs.Ytlhpdkapddnbcaa
open Go.RowKit
def mixL (a b c : List Int) : Nat → List Int
  | 0 => []
  | k + 1 => mixL a b c k ++ [bits .xor .u8 (bits .xor .u8 (nth a k) (nth b k)) (nth c k)]
theorem mixL_len (a b c : List Int) : ∀ k, (mixL a b c k).length = k
  | 0 => rfl
  | k + 1 => by simp [mixL, mixL_len a b c k]
theorem byte_xor (x y : Int) (h1 : 0 ≤ x) (h2 : x ≤ 255) (h3 : 0 ≤ y) (h4 : y ≤ 255) : byte (bits .xor .u8 x y) = byte x ^^^ byte y ∧ 0 ≤ bits .xor .u8 x y ∧ bits .xor .u8 x y ≤ 255 := by
  obtain ⟨p, rfl⟩ := Int.eq_ofNat_of_zero_le h1
  obtain ⟨q, rfl⟩ := Int.eq_ofNat_of_zero_le h3
  have hlt : p ^^^ q < 2 ^ 8 := Nat.xor_lt_two_pow (by omega) (by omega)
  rw [u8_xor _ _ h1 (by omega) h3 (by omega), Int.toNat_natCast, Int.toNat_natCast]
  refine ⟨?_, by omega, by omega⟩
  unfold byte
  rw [BitVec.ofInt_natCast, BitVec.ofInt_natCast, BitVec.ofInt_natCast]
  apply BitVec.eq_of_toNat_eq
  rw [BitVec.toNat_xor, BitVec.toNat_ofNat, BitVec.toNat_ofNat, BitVec.toNat_ofNat, Nat.mod_eq_of_lt (by omega : p < 2 ^ 32), Nat.mod_eq_of_lt (by omega : q < 2 ^ 32), Nat.mod_eq_of_lt (by omega)]
theorem x3 (a b c d e f : BitVec 32) : (a ^^^ b ^^^ c) ^^^ (d ^^^ e ^^^ f) = (a ^^^ d) ^^^ (b ^^^ e) ^^^ (c ^^^ f) := by ac_rfl
theorem st_mix (a b c : List Int) (x y z : BitVec 32) : ∀ k, k ≤ a.length → k ≤ b.length → k ≤ c.length → (∀ l ∈ [a, b, c], ∀ i, i < k → 0 ≤ nth l i ∧ nth l i ≤ 255) →
    st (x ^^^ y ^^^ z) (mixL a b c k) = st x (a.take k) ^^^ st y (b.take k) ^^^ st z (c.take k)
  | 0, _, _, _, _ => rfl
  | k + 1, h1, h2, h3, hb => by
    have ih := st_mix a b c x y z k (by omega) (by omega) (by omega) (fun l hl i hi => hb l hl i (by omega))
    have b1 := hb a (by simp) k (by omega)
    have b2 := hb b (by simp) k (by omega)
    have b3 := hb c (by simp) k (by omega)
    obtain ⟨e1, e2, e3⟩ := byte_xor (nth a k) (nth b k) b1.1 b1.2 b2.1 b2.2
    obtain ⟨f1, _, _⟩ := byte_xor _ (nth c k) e2 e3 b3.1 b3.2
    rw [mixL, st_append, ih, st_take x a k (by omega), st_take y b k (by omega), st_take z c k (by omega)]
    show stB _ _ = _
    unfold stB
    rw [f1, e1, x3, bsN_xor, bsN_xor]
theorem ones3 : ones = ones ^^^ ones ^^^ ones := by decide
theorem not3 (a b c : BitVec 32) : ~~~ (a ^^^ b ^^^ c) = ~~~ a ^^^ ~~~ b ^^^ ~~~ c := by
  rw [not_eq_xor, not_eq_xor, not_eq_xor, not_eq_xor, ← x3, ← ones3]
theorem sum_mix (a b c : List Int) (k : Nat) (h1 : k ≤ a.length) (h2 : k ≤ b.length) (h3 : k ≤ c.length) (hb : ∀ l ∈ [a, b, c], ∀ i, i < k → 0 ≤ nth l i ∧ nth l i ≤ 255) :
    bits .xor .u32 (bits .xor .u32 (rnum (sumB (a.take k))) (rnum (sumB (b.take k)))) (rnum (sumB (c.take k))) = rnum (sumB (mixL a b c k)) := by
  rw [u32_xor, u32_xor, ofInt_u32, ofInt_u32, ofInt_u32, ofInt_u32]
  unfold sumB
  rw [show st ones (mixL a b c k) = st (ones ^^^ ones ^^^ ones) (mixL a b c k) by rw [← ones3], st_mix a b c _ _ _ k h1 h2 h3 hb, not3]
/-- The first k bytes of a slice. -/
theorem RdAt.take {w : World} {a : Option Addr} {n c : Nat} {l : List Int} {kd : IntKind} (h : RdAt kd w a n c l) (k : Nat) (hk : k ≤ n) : RdAt kd w a k c (l.take k) :=
  ⟨by rw [List.length_take, h.len]; omega, by have := h.cap; omega, h.max, fun i hi => by
    obtain ⟨b, o, e, hc⟩ := h.cell i (by omega)
    refine ⟨b, o, e, ?_⟩
    rw [hc]; congr 1
    have hl := h.len
    rw [nth_eq (by omega), nth_eq (by rw [List.length_take]; omega), List.getElem_take], fun x hx => h.wf x (List.mem_of_mem_take hx), h.void⟩
end Go.Proofs.Ytlhpdkapddnbcaa

namespace Go.Proofs.Ytlhpdkapddnbcaa
open Go.RowKit
theorem low_shift (c : BitVec 32) (x : Int) (hx : x = rnum c % 256) : bsN 8 (c ^^^ byte x) = c >>> 8 := by
  have hb : byte x = c &&& 255#32 := by
    subst hx
    unfold byte rnum
    apply BitVec.eq_of_toNat_eq
    rw [show ((c.toNat : Int) % 256) = ((c.toNat % 256 : Nat) : Int) by omega, BitVec.ofInt_natCast, BitVec.toNat_ofNat, BitVec.toNat_and]
    rw [Nat.mod_eq_of_lt (by omega)]
    show _ = c.toNat &&& 255
    rw [show (255 : Nat) = 2 ^ 8 - 1 from rfl, Nat.and_two_pow_sub_one_eq_mod]
  have hg : ∀ i, (255#32).getLsbD i = decide (i < 8) := by
    intro i
    rw [show (255#32) = BitVec.ofNat 32 (2 ^ 8 - 1) from rfl, BitVec.getLsbD_ofNat, Nat.testBit_two_pow_sub_one]
    by_cases h : i < 8
    · rw [decide_eq_true h, decide_eq_true (by omega : i < 32)]; rfl
    · rw [decide_eq_false h, Bool.and_false]
  rw [hb, bsN_shift 8 _ (fun i hi => by rw [BitVec.getLsbD_xor, BitVec.getLsbD_and, hg, decide_eq_true hi]; simp)]
  apply BitVec.eq_of_getLsbD_eq
  intro i hi
  rw [BitVec.getLsbD_ushiftRight, BitVec.getLsbD_ushiftRight, BitVec.getLsbD_xor, BitVec.getLsbD_and, hg, decide_eq_false (by omega : ¬ 8 + i < 8)]
  simp
theorem stB_low (r c : BitVec 32) (x : Int) (hx : x = rnum c % 256) : stB r x = bsN 8 (r ^^^ c) ^^^ (c >>> 8) := by
  unfold stB
  rw [← low_shift c x hx, ← bsN_xor]
  congr 1
  rw [BitVec.xor_assoc, ← BitVec.xor_assoc c c, BitVec.xor_self, BitVec.zero_xor]
theorem byte_at (c : BitVec 32) (k : Nat) : rnum c / 2 ^ k % 256 = rnum (c >>> k) % 256 := by rw [u32_shr]
/-- Four bytes of c, behind the register r. -/
theorem st_put (r c : BitVec 32) : st r (putL (rnum c) 4) = bsN 32 (r ^^^ c) := by
  have e : putL (rnum c) 4 = [rnum (c >>> 0) % 256, rnum (c >>> 8) % 256, rnum (c >>> 16) % 256, rnum (c >>> 24) % 256] := by
    simp only [putL, List.nil_append, List.cons_append, byte_at]
  rw [e, st_cons, st_cons, st_cons, st_cons, st_nil]
  have s0 : stB r (rnum (c >>> 0) % 256) = bsN 8 (r ^^^ c) ^^^ (c >>> 8) := by
    rw [stB_low r (c >>> 0) _ rfl]; simp
  have s1 : ∀ (z : BitVec 32) (k : Nat), stB (z ^^^ (c >>> k)) (rnum (c >>> k) % 256) = bsN 8 z ^^^ (c >>> (k + 8)) := by
    intro z k
    rw [stB_low _ (c >>> k) _ rfl, BitVec.xor_assoc, BitVec.xor_self, BitVec.xor_zero, BitVec.shiftRight_add]
  rw [s0, s1, s1, s1]
  have z : c >>> (24 + 8) = 0#32 := by
    apply BitVec.eq_of_getLsbD_eq
    intro i hi
    rw [BitVec.getLsbD_ushiftRight, BitVec.getLsbD_of_ge c _ (by omega)]; simp
  rw [z, BitVec.xor_zero, ← bsN_add, ← bsN_add, ← bsN_add]
def sealL (l : List Int) : List Int := l ++ putL (rnum (sumB l)) 4
def rest : BitVec 32 := bsN 32 ones
theorem st_seal (l : List Int) (v : Int) (h : v = rnum (sumB l)) : st ones (l ++ putL v 4) = rest := by
  subst h
  rw [st_append, st_put]
  unfold rest sumB
  congr 1
  rw [not_eq_xor, ← BitVec.xor_assoc, BitVec.xor_self, BitVec.zero_xor]
theorem putL_getK {l : List Int} (hb : Bytes l) : ∀ n, n ≤ l.length → l.take n = putL (getK l n) n
  | 0, _ => by simp [putL]
  | n + 1, h => by
    have ih := putL_getK hb n (by omega)
    have hbd := getK_bd l n (fun i _ => hb.at i)
    have hx := hb.at n
    have hp : (0 : Int) < 2 ^ (8 * n) := Int.pow_pos (by decide)
    rw [take_nth l n (by omega), ih, putL, getK]
    congr 1
    · have : ∀ k, k ≤ n → putL (getK l n) k = putL (getK l n + nth l n * 2 ^ (8 * n)) k := by
        intro k
        induction k with
        | zero => intro _; rfl
        | succ k ihk =>
          intro hk
          rw [putL, putL, ihk (by omega)]
          congr 2
          have e : (2 : Int) ^ (8 * n) = 256 * 2 ^ (8 * (n - k - 1)) * 2 ^ (8 * k) := by
            rw [show (256 : Int) = 2 ^ 8 from rfl, ← Int.pow_add, ← Int.pow_add]
            congr 1; omega
          rw [e, ← Int.mul_assoc, Int.add_mul_ediv_right _ _ (by have : (0 : Int) < 2 ^ (8 * k) := Int.pow_pos (by decide); omega)]
          rw [← Int.mul_assoc, Int.mul_comm (nth l n) 256, Int.mul_assoc, Int.add_mul_emod_self_left]
      exact this n (Nat.le_refl _)
    · congr 1
      rw [Int.add_mul_ediv_right _ _ (by omega), Int.ediv_eq_zero_of_lt hbd.1 hbd.2, Int.zero_add]
      omega
def openOk (l : List Int) : Bool := decide (4 ≤ l.length) && decide (getK (l.drop (l.length - 4)) 4 = rnum (sumB (l.take (l.length - 4))))
theorem st_open {l : List Int} (hb : Bytes l) (h : openOk l = true) : st ones l = rest := by
  unfold openOk at h
  simp only [Bool.and_eq_true, decide_eq_true_eq] at h
  have hd : Bytes (l.drop (l.length - 4)) := fun x hx => hb x (List.mem_of_mem_drop hx)
  have e := putL_getK hd 4 (by rw [List.length_drop]; omega)
  rw [List.take_of_length_le (by rw [List.length_drop]; omega)] at e
  have e2 := st_seal (l.take (l.length - 4)) _ h.2
  rw [← e, List.take_append_drop] at e2
  exact e2
theorem seal_len (l : List Int) : (sealL l).length = l.length + 4 := by unfold sealL; rw [List.length_append, putL_len]
theorem seal_take (l : List Int) : (sealL l).take ((sealL l).length - 4) = l := by
  rw [seal_len, Nat.add_sub_cancel]; unfold sealL; rw [List.take_left]
theorem seal_drop (l : List Int) : (sealL l).drop ((sealL l).length - 4) = putL (rnum (sumB l)) 4 := by
  rw [seal_len, Nat.add_sub_cancel]; unfold sealL; rw [List.drop_left]
theorem open_seal (l : List Int) : openOk (sealL l) = true := by
  unfold openOk
  rw [seal_take, seal_drop, getK_putL _ _ (u32_bd _).1 4 (Nat.le_refl _), seal_len, decide_eq_true (by omega : 4 ≤ l.length + 4), Bool.true_and, decide_eq_true_eq]
  have := u32_bd (sumB l)
  exact Int.emod_eq_of_lt this.1 (by omega)
theorem putL_bytes (v : Int) : ∀ n, Bytes (putL v n)
  | 0 => fun x hx => by simp [putL] at hx
  | n + 1 => fun x hx => by
    rw [putL, List.mem_append] at hx
    rcases hx with hx | hx
    · exact putL_bytes v n x hx
    · rw [List.mem_singleton] at hx
      subst hx
      omega
theorem seal_bytes {l : List Int} (h : Bytes l) : Bytes (sealL l) := fun x hx => by
  unfold sealL at hx
  rcases List.mem_append.1 hx with hx | hx
  · exact h x hx
  · exact putL_bytes _ _ x hx
theorem st_sealed (l : List Int) : st ones (sealL l) = rest := st_seal l _ rfl
theorem byte_bit1 (i : Nat) (h : i < 8) : byte (2 ^ i) = bit1 i := by
  have : ∀ i, i < 8 → byte (2 ^ i) = bit1 i := by decide
  exact this i h
theorem bs_bit1 : ∀ (i : Nat), i < 32 → bsN i (bit1 i) = bit1 0 := by decide +kernel
theorem stB_tog (r : BitVec 32) (x : Int) (i : Nat) (h1 : 0 ≤ x) (h2 : x ≤ 255) (hi : i < 8) : stB r (bits .xor .u8 x (2 ^ i)) = stB r x ^^^ bsN 8 (bit1 i) := by
  have e : (2 : Int) ^ i = ((2 ^ i : Nat) : Int) := by simp
  have hlt : 2 ^ i ≤ 2 ^ 7 := Nat.pow_le_pow_right (by decide) (by omega)
  obtain ⟨b1, _, _⟩ := byte_xor x (2 ^ i) h1 h2 (by rw [e]; exact Int.natCast_nonneg _) (by rw [e]; omega)
  unfold stB
  rw [b1, byte_bit1 i hi, ← BitVec.xor_assoc, bsN_xor]
theorem st_tog (l : List Int) (hb : Bytes l) (j : Nat) (hj : j < 8 * l.length) (r : BitVec 32) : st r (tog l j) = st r l ^^^ bsN (8 * l.length - j) (bit1 0) := by
  have hq : j / 8 < l.length := by omega
  obtain ⟨b1, b2⟩ := hb.at (j / 8)
  have e1 : l = l.take (j / 8) ++ nth l (j / 8) :: l.drop (j / 8 + 1) := by
    rw [nth_eq hq, List.getElem_cons_drop, List.take_append_drop]
  have e2 : tog l j = l.take (j / 8) ++ bits .xor .u8 (nth l (j / 8)) (2 ^ (j % 8)) :: l.drop (j / 8 + 1) := by
    unfold tog; rw [List.set_eq_take_append_cons_drop, if_pos hq]
  rw [e2]
  conv => rhs; lhs; rw [e1]
  rw [st_append, st_append, st_cons, st_cons, stB_tog _ _ _ b1 b2 (by omega), st_xor, ← bsN_add, List.length_drop]
  congr 1
  rw [show 8 + 8 * (l.length - (j / 8 + 1)) = j % 8 + (8 * l.length - j) by omega, bsN_add, bs_bit1 _ (by omega)]
/-- Which bits of p a burst turns. -/
def maskK (N bit : Nat) (p : BitVec 32) : Nat → BitVec 32
  | 0 => 0#32
  | k + 1 => if bit + k < N ∧ p.getLsbD k = true then maskK N bit p k ^^^ bit1 k else maskK N bit p k
theorem maskK_get (N bit : Nat) (p : BitVec 32) (i : Nat) (hi : i < 32) : ∀ k, (maskK N bit p k).getLsbD i = (decide (i < k) && (decide (bit + i < N) && p.getLsbD i))
  | 0 => by simp [maskK]
  | k + 1 => by
    have ih := maskK_get N bit p i hi k
    rw [maskK]
    by_cases x : i = k
    · subst x
      rw [decide_eq_true (by omega : i < i + 1), Bool.true_and]
      rw [decide_eq_false (by omega : ¬ i < i), Bool.false_and] at ih
      by_cases c : bit + i < N ∧ p.getLsbD i = true
      · rw [if_pos c, BitVec.getLsbD_xor, ih, bit1_get i i hi, decide_eq_true c.1, c.2]; simp
      · rw [if_neg c, ih]
        by_cases z : bit + i < N
        · cases hh : p.getLsbD i
          · simp
          · exact absurd ⟨z, hh⟩ c
        · rw [decide_eq_false z]; simp
    · have e : decide (i < k + 1) = decide (i < k) := by
        by_cases y : i < k
        · rw [decide_eq_true y, decide_eq_true (by omega : i < k + 1)]
        · rw [decide_eq_false y, decide_eq_false (by omega : ¬ i < k + 1)]
      rw [e]
      by_cases c : bit + k < N ∧ p.getLsbD k = true
      · rw [if_pos c, BitVec.getLsbD_xor, ih, bit1_get k i hi, decide_eq_false x, Bool.xor_false]
      · rw [if_neg c, ih]
theorem st_burst (l : List Int) (hb : Bytes l) (bit : Nat) (hbit : bit < 8 * l.length) (p : BitVec 32) (r : BitVec 32) : ∀ k, k ≤ 32 → st r (burstK l bit p k) = st r l ^^^ bsN (8 * l.length - bit) (maskK (8 * l.length) bit p k)
  | 0, _ => by rw [burstK, maskK, bsN_zero, BitVec.xor_zero]
  | k + 1, hk => by
    have ih := st_burst l hb bit hbit p r k (by omega)
    rw [burstK, maskK]
    by_cases c : bit + k < 8 * l.length ∧ p.getLsbD k = true
    · rw [if_pos c, if_pos c, st_tog _ (burstK_bytes hb bit p k) _ (by rw [burstK_len]; exact c.1), ih, burstK_len, bsN_xor, BitVec.xor_assoc]
      congr 2
      rw [show 8 * l.length - bit = k + (8 * l.length - (bit + k)) by omega, bsN_add, bs_bit1 k (by omega)]
    · rw [if_neg c, if_neg c, ih]
theorem burst_still (l : List Int) (bit : Nat) (p : BitVec 32) (h : maskK (8 * l.length) bit p 32 = 0#32) : ∀ k, k ≤ 32 → burstK l bit p k = l
  | 0, _ => rfl
  | k + 1, hk => by
    rw [burstK, if_neg ?_, burst_still l bit p h k (by omega)]
    rintro ⟨c1, c2⟩
    have := maskK_get (8 * l.length) bit p k (by omega) 32
    rw [h, decide_eq_true (by omega : k < 32), decide_eq_true c1, c2] at this
    simp at this
/-- A burst that turns something in bytes with a sum is found. -/
theorem burst_found (l : List Int) (hb : Bytes l) (bit : Int) (p : BitVec 32) (hs : st ones l = rest) (hne : burstV l bit p ≠ l) : openOk (burstV l bit p) = false := by
  cases ho : openOk (burstV l bit p) with
  | false => rfl
  | true =>
    exfalso
    have h1 := st_open (burstV_bytes hb bit p) ho
    unfold burstV at h1 hne
    split at hne
    · rename_i hc
      rw [if_pos hc, st_burst l hb _ (by omega) p ones 32 (Nat.le_refl _), hs] at h1
      have h2 : bsN (8 * l.length - bit.toNat) (maskK (8 * l.length) bit.toNat p 32) = 0#32 := by
        have := congrArg (fun z => rest ^^^ z) h1
        simp only [← BitVec.xor_assoc, BitVec.xor_self, BitVec.zero_xor] at this
        exact this
      exact hne (burst_still l _ p (bsN_eq_zero _ h2) 32 (Nat.le_refl _))
    · exact hne rfl
end Go.Proofs.Ytlhpdkapddnbcaa

namespace Go.Proofs.Ytlhpdkapddnbcaa
open Go.RowKit
theorem Owns.cellAt {k : IntKind} {e : TypeId} {w : World} {base : Nat} {a : Option Addr} {n c : Nat} {l : List Int} (h : Owns k e w base (.slice a n c) l) (i : Nat) (hi : i < l.length) :
    ∃ g, a = some ⟨g, 0, none⟩ ∧ base ≤ g ∧ g < w.heap.size ∧ w.cell? ⟨g, i, none⟩ = some (.int k (nth l i)) ∧ w.frozen? ⟨g, i, none⟩ = false := by
  rcases h.2 with ⟨rfl, _⟩ | h2
  · simp at hi
  · have h3 := h2
    rcases h3.2 with ⟨hv, hn⟩ | ⟨g, cap, cur, hv, hb, hg, _⟩
    · omega
    · injection hv with q1 q2 q3
      subst q1 q2 q3
      refine ⟨g, rfl, hb, (Array.getElem?_eq_some_iff.1 hg).1, ?_, h2.frozenAt i⟩
      rw [h2.cellAt i (by omega), List.getElem?_map, List.getElem?_eq_getElem hi, nth_eq hi]
      rfl
theorem Owns.stored {k : IntKind} {e : TypeId} {w : World} {base : Nat} {g n c : Nat} {l : List Int} (h : Owns k e w base (.slice (some ⟨g, 0, none⟩) n c) l) (i : Nat) (x : Int) (hx : (Lit.int k x).wf = true) :
    Owns k e (w.setCell ⟨g, i, none⟩ (.int k x)) base (.slice (some ⟨g, 0, none⟩) n c) (l.set i x) := by
  refine ⟨fun y hy => ?_, ?_⟩
  · rcases List.mem_or_eq_of_mem_set hy with hy | hy
    · exact h.1 y hy
    · rw [hy]; exact hx
  · rcases h.2 with ⟨rfl, a, hv, ha⟩ | h2
    · exact .inl ⟨rfl, a, hv, ha⟩
    · refine .inr ?_
      obtain ⟨a', c', hv⟩ := h.shape
      injection hv with q1 q2 q3
      subst q2
      have := (h2.stored i (.int k x)).1
      rw [List.length_set, List.map_set]
      exact this
end Go.Proofs.Ytlhpdkapddnbcaa

namespace Go.Proofs.Ytlhpdkapddnbcaa
open Go.RowKit
theorem set_tog {w : World} {base g n c : Nat} {l : List Int} (h : Owns .u8 5 w base (.slice (some ⟨g, 0, none⟩) n c) l) (j : Nat) (hb : Bytes l) :
    Owns .u8 5 (w.setCell ⟨g, j / 8, none⟩ (.int .u8 (bits .xor .u8 (nth l (j / 8)) (2 ^ (j % 8))))) base (.slice (some ⟨g, 0, none⟩) n c) (tog l j) :=
  h.stored _ _ (WalkArith.wf_u8 (tog_bd hb j))
theorem pow_u8 (j : Nat) : (2 : Int) ^ (j % 8) % 256 = 2 ^ (j % 8) := by
  obtain ⟨e, hlt⟩ := pow8 j
  rw [e]
  exact Int.emod_eq_of_lt (Int.natCast_nonneg _) (Int.ofNat_lt.2 hlt)
theorem shr_three (m : Nat) : (m : Int).fdiv (2 ^ min (Int.toNat 3) IntKind.i64.bits) = ((m / 8 : Nat) : Int) := by
  rw [show (2 : Int) ^ min (Int.toNat 3) IntKind.i64.bits = 8 from by decide, Int.fdiv_eq_ediv_of_nonneg _ (by omega)]
  omega

end Go.Proofs.Ytlhpdkapddnbcaa

namespace Go.Proofs.Ytlhpdkapddnbcaa
open Go.RowKit

def getOk (n : Nat) (m : Int) : Bool := decide (0 ≤ m ∧ m ≤ 8 ∧ m ≤ n)
def getV (l : List Int) (n : Nat) (m : Int) : Int := if getOk n m then getK l m.toNat else 0
theorem getV_no {l : List Int} {n : Nat} {m : Int} (h : getOk n m = false) : getV l n m = 0 := by unfold getV; simp [h]
theorem getV_yes {l : List Int} {n : Nat} {m : Nat} (h : getOk n m = true) : getV l n m = getK l m := by unfold getV; simp [h]

set_option maxRecDepth 100000 in
theorem get_any (a : Option Addr) (n c : Nat) (l : List Int) (m : Int) (w : World) (h : RdAt .u8 w a n c l) :
    Calls Try.prog 62 #[.slice a n c, .int .i64 m] w fun e w' => e = .returned (.tuple #[.int .u64 (getV l n m), .bool (getOk n m)]) ∧ w = w' := by
  have hmax := h.max
  have hcap := h.cap
  unfold maxLen at hmax
  by_cases hok : getOk n m = true
  · have q : 0 ≤ m ∧ m ≤ 8 ∧ m ≤ n := by unfold getOk at hok; simpa using hok
    obtain ⟨q1, q2, q4⟩ := q
    obtain ⟨m, rfl⟩ := Int.eq_ofNat_of_zero_le q1
    rw [hok, getV_yes hok]
    clear hok
    go_enter Try.func62, Try.ntmps62
    go_wp2
    go_loop [6, 21] (fun x i => ∃ k : Nat, k ≤ m ∧ i = .int .i64 k ∧ x = .int .u64 (getK l k)) (fun _ i => m - (intOf i).toNat)
    case atStart => exact ⟨0, by omega, rfl, rfl⟩
    case round =>
      obtain ⟨k, hk, rfl, rfl⟩ := hrel
      by_cases hp : k < m
      · obtain ⟨b, o, rfl, hc⟩ := h.cell k (by omega)
        have hb := h.byte k (by omega)
        have hb1 := hb.1
        have hb2 := hb.2
        clear hb
        go_wp2
        go_round
        case rel => exact ⟨k + 1, by omega, by go_num, by rw [get_go l k (by omega) (fun i hi => h.byte i (by omega))]⟩
        case measure => simp [intOf] <;> omega
      · obtain rfl : k = m := by omega
        go_wp2
        go_ret2
        exact ⟨rfl, rfl⟩
  · have hok' : getOk n m = false := by simpa using hok
    rw [hok', getV_no hok']
    have q : ¬ (0 ≤ m ∧ m ≤ 8 ∧ m ≤ n) := by unfold getOk at hok; simpa using hok
    clear hok hok'
    by_cases c1 : m < 0
    · go_enter Try.func62, Try.ntmps62
      go_wp2
      go_ret2
      exact ⟨rfl, rfl⟩
    by_cases c2 : 8 < m
    · go_enter Try.func62, Try.ntmps62
      go_wp2
      go_ret2
      exact ⟨rfl, rfl⟩
    have c4 : n < m := by omega
    clear q
    go_enter Try.func62, Try.ntmps62
    go_wp2
    go_ret2
    exact ⟨rfl, rfl⟩

end Go.Proofs.Ytlhpdkapddnbcaa
