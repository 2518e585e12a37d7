/- Contracts of ints.Var and of the reference's. -/
import Derived.Test.YtfoabnoolmeoiaaU8
import Derived.Test.YtfoabnoolmeoiaaFieldLaw
namespace Go.Proofs.Ytfoabnoolmeoiaa
open Go.RowKit

/-- v in sevens, the least first; at most f + 1 bytes. -/
def varF : Nat → Int → List Int
  | 0, v => [v]
  | f + 1, v => if 128 ≤ v then (v % 128 + 128) :: varF f (v / 128) else [v]
theorem varF_len : ∀ (f : Nat) (v : Int), 1 ≤ (varF f v).length ∧ (varF f v).length ≤ f + 1
  | 0, v => by simp [varF]
  | f + 1, v => by
    have := varF_len f (v / 128)
    unfold varF; split <;> simp <;> omega
theorem varF_step (f : Nat) (v : Int) (h : 128 ≤ v) : varF (f + 1) v = (v % 128 + 128) :: varF f (v / 128) := by rw [varF, if_pos h]
theorem varF_last (f : Nat) (v : Int) (h : v < 128) : varF f v = [v] := by cases f with | zero => rfl | succ f => rw [varF, if_neg (by omega)]
theorem u8_or_128 (x : Int) (h1 : 0 ≤ x) (h2 : x ≤ 255) : bits .or .u8 x 128 = x % 128 + 128 := by
  obtain ⟨a, rfl⟩ := Int.eq_ofNat_of_zero_le h1
  rw [u8_or _ 128 h1 (by omega) (by omega) (by omega), Int.toNat_natCast, show (128 : Int).toNat = 128 from rfl]
  have : ∀ y : Fin 256, (y.val ||| 128) = y.val % 128 + 128 := by decide +kernel
  have := this ⟨a, by omega⟩
  simp only at this
  omega
theorem u8_or_128' (y : Int) : bits .or .u8 (y % 256) 128 = y % 128 + 128 := by rw [u8_or_128 _ (by omega) (by omega)]; omega
theorem wf_128 (y : Int) : (Lit.int .u8 (y % 128 + 128)).wf = true := WalkArith.wf_u8 (by omega)

set_option maxRecDepth 100000 in
theorem var_any (a : Option Addr) (n c : Nat) (l : List Int) (v : Int) (w : World) (h : RdAt .u8 w a n c l) (hn : n ≤ 1000000000)
    (v1 : 0 ≤ v) (v2 : v ≤ 18446744073709551615) :
    Calls Try.prog 30 #[.slice a n c, .int .u64 v] w fun e w' => ∃ r, e = .returned r ∧ Owns .u8 5 w' w.heap.size r (l ++ varF 9 v) ∧ Below w.heap.size w w' := by
  have hlen := h.len
  go_enter Try.func30, Try.ntmps30
  go_wp2_with (at_builtin; refine app_all u8T u8I (by decide) rfl _ _ rfl _ w.heap.size _ [] rfl (Owns.empty _ _ _ _ _ _) _ _ _ l rfl (h.below ((Below.refl _ _).alloc (Nat.le_refl _) _)) (by simp; omega) (by simp) ?_; intro x1 w1 ho1 hg0)
  have hb1 := hg0.fromEmpty
  clear hg0
  go_loopw [1, 5] (fun y x wr => ∃ (q : Int) (f : Nat) (acc : List Int), f ≤ 9 ∧ acc.length + f = n + 9 ∧ 0 ≤ q ∧ q ≤ 18446744073709551615 ∧ q < 2 ^ (7 * f + 7) ∧ y = .int .u64 q ∧ Owns .u8 5 wr w.heap.size x acc ∧ Below w.heap.size w wr ∧ Hid (acc ++ varF f q = l ++ varF 9 v)) (fun y _ _ => (intOf y).toNat)
  case atStart => exact ⟨v, 9, l, by omega, by omega, v1, v2, by omega, rfl, by simpa using ho1, hb1, rfl⟩
  case round =>
    obtain ⟨q, f, acc, hf, hacc, hq0, hq1, hq2, rfl, ho, hb, hl⟩ := hrel
    have hsz := hb.size
    have HA := Lib.hid hacc
    have HL := Lib.hid hlen
    clear hlen hacc ho1 hb1
    by_cases hp : 128 ≤ q
    · cases f with
      | zero => exfalso; simp at hq2; omega
      | succ f =>
        have hq3 : q / 128 < 2 ^ (7 * f + 7) := by rw [show 7 * (f + 1) + 7 = 7 * f + 7 + 7 by omega, Int.pow_add] at hq2; omega
        have ho128 := u8_or_128' q
        clear hq2
        go_wp2_with (at_builtin; refine app_one u8T u8I (by decide) rfl _ _ rfl _ w.heap.size _ acc rfl ho _ rfl ?_ (by have := HA.out; omega) hsz ?_; exact wf_128 _; intro x2 w2 ho2 hb2)
        go_roundw
        case rel => exact ⟨q / 128, f, _, by omega, by have := HA.out; simp; omega, by omega, by omega, hq3, rfl, ho2, hb.trans (hb2.below hsz (fun g hg => (ho.at_base g hg).1)), by have := hl.out; rw [varF_step f q hp] at this; show _ = _; simpa using this⟩
        case measure => simp [intOf] <;> omega
    · go_wp2_with (at_builtin; refine app_one u8T u8I (by decide) rfl _ _ rfl _ w.heap.size _ acc rfl ho _ rfl ?_ (by have := HA.out; omega) hsz ?_; exact WalkArith.wf_u8 (by omega); intro x2 w2 ho2 hb2)
      go_ret
      exact ⟨_, rfl, by have := hl.out; rw [varF_last f q (by omega)] at this; rw [← this]; exact ho2, hb.trans (hb2.below hsz (fun g hg => (ho.at_base g hg).1))⟩

end Go.Proofs.Ytfoabnoolmeoiaa
