/- Plain law: the sum of three rows mixed by exclusive or. No program in sight. -/
import Derived.Test.YtnlhpfcepbmbfaaSum
namespace Go.Proofs.Ytnlhpfcepbmbfaa
open Go.RowKit
def mixL (a b c : List Int) : Nat → List Int
  | 0 => []
  | k + 1 => mixL a b c k ++ [bits .xor .u8 (bits .xor .u8 (nth a k) (nth b k)) (nth c k)]
theorem mixL_len (a b c : List Int) : ∀ k, (mixL a b c k).length = k
  | 0 => rfl
  | k + 1 => by simp [mixL, mixL_len a b c k]
theorem byte_xor (x y : Int) (h1 : 0 ≤ x) (h2 : x ≤ 255) (h3 : 0 ≤ y) (h4 : y ≤ 255) : byte (bits .xor .u8 x y) = byte x ^^^ byte y ∧ 0 ≤ bits .xor .u8 x y ∧ bits .xor .u8 x y ≤ 255 := by
  obtain ⟨p, rfl⟩ := Int.eq_ofNat_of_zero_le h1
  obtain ⟨q, rfl⟩ := Int.eq_ofNat_of_zero_le h3
  have hlt : p ^^^ q < 2 ^ 8 := Nat.xor_lt_two_pow (by omega) (by omega)
  rw [u8_xor _ _ h1 (by omega) h3 (by omega), Int.toNat_natCast, Int.toNat_natCast]
  refine ⟨?_, by omega, by omega⟩
  unfold byte
  rw [BitVec.ofInt_natCast, BitVec.ofInt_natCast, BitVec.ofInt_natCast]
  apply BitVec.eq_of_toNat_eq
  rw [BitVec.toNat_xor, BitVec.toNat_ofNat, BitVec.toNat_ofNat, BitVec.toNat_ofNat, Nat.mod_eq_of_lt (by omega : p < 2 ^ 32), Nat.mod_eq_of_lt (by omega : q < 2 ^ 32), Nat.mod_eq_of_lt (by omega)]
theorem x3 (a b c d e f : BitVec 32) : (a ^^^ b ^^^ c) ^^^ (d ^^^ e ^^^ f) = (a ^^^ d) ^^^ (b ^^^ e) ^^^ (c ^^^ f) := by ac_rfl
theorem st_mix (a b c : List Int) (x y z : BitVec 32) : ∀ k, k ≤ a.length → k ≤ b.length → k ≤ c.length → (∀ l ∈ [a, b, c], ∀ i, i < k → 0 ≤ nth l i ∧ nth l i ≤ 255) →
    st (x ^^^ y ^^^ z) (mixL a b c k) = st x (a.take k) ^^^ st y (b.take k) ^^^ st z (c.take k)
  | 0, _, _, _, _ => rfl
  | k + 1, h1, h2, h3, hb => by
    have ih := st_mix a b c x y z k (by omega) (by omega) (by omega) (fun l hl i hi => hb l hl i (by omega))
    have b1 := hb a (by simp) k (by omega)
    have b2 := hb b (by simp) k (by omega)
    have b3 := hb c (by simp) k (by omega)
    obtain ⟨e1, e2, e3⟩ := byte_xor (nth a k) (nth b k) b1.1 b1.2 b2.1 b2.2
    obtain ⟨f1, _, _⟩ := byte_xor _ (nth c k) e2 e3 b3.1 b3.2
    rw [mixL, st_append, ih, st_take x a k (by omega), st_take y b k (by omega), st_take z c k (by omega)]
    show stB _ _ = _
    unfold stB
    rw [f1, e1, x3, bsN_xor, bsN_xor]
theorem ones3 : ones = ones ^^^ ones ^^^ ones := by decide
theorem not3 (a b c : BitVec 32) : ~~~ (a ^^^ b ^^^ c) = ~~~ a ^^^ ~~~ b ^^^ ~~~ c := by
  rw [not_eq_xor, not_eq_xor, not_eq_xor, not_eq_xor, ← x3, ← ones3]
theorem sum_mix (a b c : List Int) (k : Nat) (h1 : k ≤ a.length) (h2 : k ≤ b.length) (h3 : k ≤ c.length) (hb : ∀ l ∈ [a, b, c], ∀ i, i < k → 0 ≤ nth l i ∧ nth l i ≤ 255) :
    bits .xor .u32 (bits .xor .u32 (rnum (sumB (a.take k))) (rnum (sumB (b.take k)))) (rnum (sumB (c.take k))) = rnum (sumB (mixL a b c k)) := by
  rw [u32_xor, u32_xor, ofInt_u32, ofInt_u32, ofInt_u32, ofInt_u32]
  unfold sumB
  rw [show st ones (mixL a b c k) = st (ones ^^^ ones ^^^ ones) (mixL a b c k) by rw [← ones3], st_mix a b c _ _ _ k h1 h2 h3 hb, not3]
/-- The first k bytes of a slice. -/
theorem RdAt.take {w : World} {a : Option Addr} {n c : Nat} {l : List Int} {kd : IntKind} (h : RdAt kd w a n c l) (k : Nat) (hk : k ≤ n) : RdAt kd w a k c (l.take k) :=
  ⟨by rw [List.length_take, h.len]; omega, by have := h.cap; omega, h.max, fun i hi => by
    obtain ⟨b, o, e, hc⟩ := h.cell i (by omega)
    refine ⟨b, o, e, ?_⟩
    rw [hc]; congr 1
    have hl := h.len
    rw [nth_eq (by omega), nth_eq (by rw [List.length_take]; omega), List.getElem_take], fun x hx => h.wf x (List.mem_of_mem_take hx), h.void⟩
end Go.Proofs.Ytnlhpfcepbmbfaa
