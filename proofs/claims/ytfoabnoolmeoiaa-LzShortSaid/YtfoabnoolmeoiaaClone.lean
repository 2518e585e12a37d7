/- The contract of slices.Clone at bytes. -/
import Derived.Test.YtfoabnoolmeoiaaU8
import Derived.WalkSpells
namespace Go.Proofs.Ytfoabnoolmeoiaa
open Go.RowKit
/-- Ends with bytes of its own. -/
def GivesBytes (l : List Int) (w : World) (e : Ending) (w' : World) : Prop := ∃ v, e = .returned v ∧ Owns .u8 5 w' w.heap.size v l ∧ Below w.heap.size w w'
set_option maxRecDepth 100000 in
theorem clone_any (a : Option Addr) (n c : Nat) (l : List Int) (w : World) (h : RdAt .u8 w a n c l) (hn : n ≤ 1000000000) :
    Calls Try.prog 18 #[.slice a n c] w (GivesBytes l w) := by
  cases a with
  | none =>
    obtain rfl : c = 0 := h.void rfl
    have hcap := h.cap
    obtain rfl : n = 0 := by omega
    obtain rfl : l = [] := List.eq_nil_of_length_eq_zero h.len
    have hnil := fun (w : World) (a : Option Addr) (n c : Nat) => Lib.run_eql_slice_nil (P := Try.prog) w 22 5 a n c 0 0 Try.underlying22
    go_enter Try.func18, Try.ntmps18
    go_wp2
    go_ret
    exact ⟨_, rfl, Owns.nil _ _ _ _, Below.refl _ _⟩
  | some x =>
    have hnil := fun (w : World) (a : Option Addr) (n c : Nat) => Lib.run_eql_slice_nil (P := Try.prog) w 22 5 a n c 0 0 Try.underlying22
    go_enter Try.func18, Try.ntmps18
    go_wp2_with (at_builtin; refine app_all u8T u8I (by decide) rfl _ _ rfl _ w.heap.size _ [] rfl (Owns.empty _ _ _ _ _ _) _ _ _ l rfl (h.below ((Below.refl _ _).alloc (Nat.le_refl _) _)) (by simp; omega) (by simp) ?_; intro x1 w1 ho1 hg0)
    go_ret
    exact ⟨_, rfl, ho1, hg0.fromEmpty⟩
end Go.Proofs.Ytfoabnoolmeoiaa
