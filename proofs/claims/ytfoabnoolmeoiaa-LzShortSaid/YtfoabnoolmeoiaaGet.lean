/- Contracts of ints.Get and of the reference's. -/
import Derived.Test.YtfoabnoolmeoiaaProg
import Derived.Test.YtfoabnoolmeoiaaFieldLaw
import Derived.ProofKit
namespace Go.Proofs.Ytfoabnoolmeoiaa
open Go.RowKit

def getOk (n : Nat) (m : Int) : Bool := decide (0 ≤ m ∧ m ≤ 8 ∧ m ≤ n)
def getV (l : List Int) (n : Nat) (m : Int) : Int := if getOk n m then getK l m.toNat else 0
theorem getV_no {l : List Int} {n : Nat} {m : Int} (h : getOk n m = false) : getV l n m = 0 := by unfold getV; simp [h]
theorem getV_yes {l : List Int} {n : Nat} {m : Nat} (h : getOk n m = true) : getV l n m = getK l m := by unfold getV; simp [h]

set_option maxRecDepth 100000 in
theorem get_any (a : Option Addr) (n c : Nat) (l : List Int) (m : Int) (w : World) (h : RdAt .u8 w a n c l) :
    Calls Try.prog 28 #[.slice a n c, .int .i64 m] w fun e w' => e = .returned (.tuple #[.int .u64 (getV l n m), .bool (getOk n m)]) ∧ w = w' := by
  have hmax := h.max
  have hcap := h.cap
  unfold maxLen at hmax
  by_cases hok : getOk n m = true
  · have q : 0 ≤ m ∧ m ≤ 8 ∧ m ≤ n := by unfold getOk at hok; simpa using hok
    obtain ⟨q1, q2, q4⟩ := q
    obtain ⟨m, rfl⟩ := Int.eq_ofNat_of_zero_le q1
    rw [hok, getV_yes hok]
    clear hok
    go_enter Try.func28, Try.ntmps28
    go_wp2
    go_loop [6, 21] (fun x i => ∃ k : Nat, k ≤ m ∧ i = .int .i64 k ∧ x = .int .u64 (getK l k)) (fun _ i => m - (intOf i).toNat)
    case atStart => exact ⟨0, by omega, rfl, rfl⟩
    case round =>
      obtain ⟨k, hk, rfl, rfl⟩ := hrel
      by_cases hp : k < m
      · obtain ⟨b, o, rfl, hc⟩ := h.cell k (by omega)
        have hb := h.byte k (by omega)
        have hb1 := hb.1
        have hb2 := hb.2
        clear hb
        go_wp2
        go_round
        case rel => exact ⟨k + 1, by omega, by go_num, by rw [get_go l k (by omega) (fun i hi => h.byte i (by omega))]⟩
        case measure => simp [intOf] <;> omega
      · obtain rfl : k = m := by omega
        go_wp2
        go_ret2
        exact ⟨rfl, rfl⟩
  · have hok' : getOk n m = false := by simpa using hok
    rw [hok', getV_no hok']
    have q : ¬ (0 ≤ m ∧ m ≤ 8 ∧ m ≤ n) := by unfold getOk at hok; simpa using hok
    clear hok hok'
    by_cases c1 : m < 0
    · go_enter Try.func28, Try.ntmps28
      go_wp2
      go_ret2
      exact ⟨rfl, rfl⟩
    by_cases c2 : 8 < m
    · go_enter Try.func28, Try.ntmps28
      go_wp2
      go_ret2
      exact ⟨rfl, rfl⟩
    have c4 : n < m := by omega
    clear q
    go_enter Try.func28, Try.ntmps28
    go_wp2
    go_ret2
    exact ⟨rfl, rfl⟩

end Go.Proofs.Ytfoabnoolmeoiaa
