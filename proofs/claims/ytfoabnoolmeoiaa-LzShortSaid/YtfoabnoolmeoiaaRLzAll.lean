/- The reference's Unpack: the other cases. -/
import Derived.Test.YtfoabnoolmeoiaaRLz
namespace Go.Proofs.Ytfoabnoolmeoiaa
open Go.RowKit
set_option maxRecDepth 100000 in
set_option maxHeartbeats 1000000 in
theorem rl_e (a : Option Addr) (c : Nat) (M : Int) (w : World) (hm0 : 0 ≤ M) :
    Calls Try.prog 9 #[.slice a 0 c, .int .i64 M] w fun e w' => (∃ v, e = .returned (.tuple #[v, .int .i64 0, .int .i64 21]) ∧ Owns .u8 5 w' w.heap.size v []) ∧ Below w.heap.size w w' := by
  have hnl : decide (M < 0) = false := decide_eq_false (by omega)
  go_enter Try.func9, Try.ntmps9
  go_wp2_with fail
  go_ret3
  exact ⟨⟨_, rfl, Owns.nil _ _ _ _⟩, Below.refl _ _⟩
set_option maxRecDepth 100000 in
set_option maxHeartbeats 1000000 in
theorem rl_o (a : Option Addr) (n c : Nat) (x : List Int) (M q : Int) (w : World) (r : RdAt .u8 w a n c x) (hn : 1 ≤ n) (hk : nth x 0 = q) (hq : 1 < q) (hm0 : 0 ≤ M) :
    Calls Try.prog 9 #[.slice a n c, .int .i64 M] w fun e w' => (∃ v, e = .returned (.tuple #[v, .int .i64 0, .int .i64 22]) ∧ Owns .u8 5 w' w.heap.size v []) ∧ Below w.heap.size w w' := by
  obtain ⟨b, ad, rfl, hcell⟩ := r.cell 0 (by omega)
  rw [hk] at hcell
  have hcell2 := hcell
  rw [Nat.add_zero] at hcell2
  have hcap := r.cap
  have hmax := r.max
  unfold maxLen at hmax
  have hnz : ((n : Int) == 0) = false := beq_eq_false_iff_ne.2 (by omega)
  have hnl : decide (M < 0) = false := decide_eq_false (by omega)
  have hq1 : decide (1 < q) = true := decide_eq_true hq
  clear r hk
  go_enter Try.func9, Try.ntmps9
  go_wp2_with fail
  go_ret3
  exact ⟨⟨_, rfl, Owns.nil _ _ _ _⟩, Below.refl _ _⟩
set_option maxRecDepth 100000 in
set_option maxHeartbeats 1000000 in
theorem rl_l (a : Option Addr) (n c : Nat) (x : List Int) (M : Int) (w : World) (r : RdAt .u8 w a n c x) (hn : 1 ≤ n) (hk : nth x 0 = 0) (hm0 : 0 ≤ M) (hm : M < (n : Int) - 1) :
    Calls Try.prog 9 #[.slice a n c, .int .i64 M] w fun e w' => (∃ v, e = .returned (.tuple #[v, .int .i64 0, .int .i64 24]) ∧ Owns .u8 5 w' w.heap.size v []) ∧ Below w.heap.size w w' := by
  obtain ⟨b, ad, rfl, hcell⟩ := r.cell 0 (by omega)
  rw [hk] at hcell
  have hcell2 := hcell
  rw [Nat.add_zero] at hcell2
  have hcap := r.cap
  have hmax := r.max
  unfold maxLen at hmax
  have hnz : ((n : Int) == 0) = false := beq_eq_false_iff_ne.2 (by omega)
  have hnl : decide (M < 0) = false := decide_eq_false (by omega)
  have hw1 : IntKind.i64.wrap ((n : Int) - 1) = (n : Int) - 1 := IntWalk.i64_in _ (by omega)
  have hgt : decide (M < (n : Int) - 1) = true := decide_eq_true hm
  clear r hk
  go_enter Try.func9, Try.ntmps9
  go_wp2_with fail
  go_ret3
  exact ⟨⟨_, rfl, Owns.nil _ _ _ _⟩, Below.refl _ _⟩
set_option maxRecDepth 100000 in
set_option maxHeartbeats 1000000 in
theorem rl_r (a : Option Addr) (n c : Nat) (x : List Int) (M : Int) (w : World) (r : RdAt .u8 w a n c x) (hn : 1 ≤ n) (hk : nth x 0 = 0) (hm0 : 0 ≤ M) (hmm : M ≤ 2097152) (hm : (n : Int) - 1 ≤ M) (X : List Int) (hX : x.drop 1 = X) :
    Calls Try.prog 9 #[.slice a n c, .int .i64 M] w fun e w' => (∃ v, e = .returned (.tuple #[v, .int .i64 ((n - 1 : Nat) : Int), .int .i64 0]) ∧ Owns .u8 5 w' w.heap.size v X) ∧ Below w.heap.size w w' := by
  obtain ⟨b, ad, rfl, hcell⟩ := r.cell 0 (by omega)
  rw [hk] at hcell
  have hcell2 := hcell
  rw [Nat.add_zero] at hcell2
  have hcap := r.cap
  have hmax := r.max
  unfold maxLen at hmax
  have hnz : ((n : Int) == 0) = false := beq_eq_false_iff_ne.2 (by omega)
  have hnl : decide (M < 0) = false := decide_eq_false (by omega)
  have hw1 : IntKind.i64.wrap ((n : Int) - 1) = (n : Int) - 1 := IntWalk.i64_in _ (by omega)
  have hgt : decide (M < (n : Int) - 1) = false := decide_eq_false (by omega)
  have hif : ∀ (A B : Option Addr), (if c = 1 then A else B) = pk c 1 A B := fun _ _ => rfl
  have r2 := rd_pk r 1 (by omega)
  rw [hX] at r2
  have R2 := Lib.hid r2
  have HN : Hid (((n - 1 : Nat) : Int) = (n : Int) - 1) := by show _ = _; omega
  clear r r2 hk hX
  go_enter Try.func9, Try.ntmps9
  go_wp2_with (at_builtin; refine app_all u8T u8I (by decide) rfl (.tmp 36) (.tmp 38) rfl _ w.heap.size _ [] rfl (Owns.empty _ _ _ _ _ _) _ _ _ X rfl (R2.out.below ((Below.refl _ _).alloc (Nat.le_refl _) _)) (by simp; omega) (by simp) ?_; intro x1 w1 ho1 hg0)
  go_ret3
  exact ⟨⟨_, by rw [HN.out]; rfl, ho1⟩, hg0.fromEmpty⟩
set_option maxRecDepth 100000 in
theorem refunpack_any (a : Option Addr) (n c : Nat) (x : List Int) (M : Int) (w : World) (r : RdAt .u8 w a n c x) (hm0 : 0 ≤ M) (hmm : M ≤ 2097152) :
    Calls Try.prog 9 #[.slice a n c, .int .i64 M] w fun e w' => (∃ v, e = .returned (.tuple #[v, .int .i64 (litT (allT M x)), .int .i64 (allT M x).e]) ∧ Owns .u8 5 w' w.heap.size v (outT (allT M x))) ∧ Below w.heap.size w w' := by
  have hlen := r.len
  by_cases h0 : n = 0
  · subst h0
    have hT : allT M x = ⟨21, x, [], 0, 0⟩ := by unfold allT; rw [if_pos hlen]
    rw [hT]
    exact rl_e a c M w hm0
  · by_cases hk : nth x 0 = 0
    · by_cases hm : M < ((x.length - 1 : Nat) : Int)
      · have hT : allT M x = ⟨24, x, [], 0, 0⟩ := by unfold allT; rw [if_neg (by omega), if_pos hk, if_pos hm]
        rw [hT]
        exact rl_l a n c x M w r (by omega) hk hm0 (by omega)
      · have hT : allT M x = ⟨0, [], x.drop 1, ((x.length - 1 : Nat) : Int), 0⟩ := by unfold allT; rw [if_neg (by omega), if_pos hk, if_neg hm]
        rw [hT, hlen]
        exact rl_r a n c x M w r (by omega) hk hm0 hmm (by omega) _ rfl
    · by_cases hk1 : nth x 0 = 1
      · have hT : allT M x = toks M (n - 1) (x.drop 1) [] 0 0 := by unfold allT; rw [if_neg (by omega), if_neg hk, if_pos hk1, hlen]
        exact rl_p a n c x M w r (by omega) hk1 hm0 hmm _ hT.symm
      · have hT : allT M x = ⟨22, x, [], 0, 0⟩ := by unfold allT; rw [if_neg (by omega), if_neg hk, if_neg hk1]
        rw [hT]
        have h9 := nth_pos x r.wf 0
        exact rl_o a n c x M _ w r (by omega) rfl (by omega) hm0
end Go.Proofs.Ytfoabnoolmeoiaa
