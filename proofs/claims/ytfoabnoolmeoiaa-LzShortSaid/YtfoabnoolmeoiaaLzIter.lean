/- slices.Backward over a slice of ints: the iterator's contract. -/
import Derived.Test.YtfoabnoolmeoiaaLzHalf
import Derived.RangeFuncNested
import Derived.RangeFuncBound
import Derived.RangeFuncCalls
import Derived.RangeFuncLeaves
import Derived.RangeFuncFrom
import Derived.Shelf.Abstract
import Derived.Shelf.RegionOpen
import Derived.OwnWalkIn
import Derived.TacticsInMore
import Derived.LoopNIn
import Derived.LoopIn
namespace Go.Proofs.Ytfoabnoolmeoiaa
open Go.RowKit Go.Shelf Go.Proofs
attribute [local go_sem] Oper.semAt_some
/-- A place's number in the list. -/
abbrev Ixs (L : List Int) : Type := {k : Nat // k < L.length}
/-- The blocks of which Z holds are as they were. -/
def KpZ (Z : Nat → Prop) (W W' : World) : Prop := W.heap.size ≤ W'.heap.size ∧ ∀ j, Z j → W'.heap[j]? = W.heap[j]?
theorem KpZ.refl (Z : Nat → Prop) (W : World) : KpZ Z W W := ⟨Nat.le_refl _, fun _ _ => rfl⟩
theorem KpZ.trans {Z : Nat → Prop} {A B C : World} (h : KpZ Z A B) (k : KpZ Z B C) : KpZ Z A C := ⟨Nat.le_trans h.1 k.1, fun j hj => (k.2 j hj).trans (h.2 j hj)⟩
theorem cell_at {W W' : World} {j : Nat} (h : W'.heap[j]? = W.heap[j]?) (o : Nat) : W'.cell? ⟨j, o, none⟩ = W.cell? ⟨j, o, none⟩ := by
  unfold World.cell?
  simp only [h]
theorem KpZ.rd {Z : Nat → Prop} {W W' : World} {kd : IntKind} {a : Option Addr} {n c : Nat} {l : List Int} (k : KpZ Z W W') (h : RdAt kd W a n c l) (hz : ∀ x, a = some x → 0 < n → Z x.block) : RdAt kd W' a n c l :=
  ⟨h.len, h.cap, h.max, fun i hi => by
    obtain ⟨b, o, e, hc⟩ := h.cell i hi
    exact ⟨b, o, e, by rw [cell_at (k.2 b (hz _ e (by omega)))]; exact hc⟩, h.wf, h.void⟩
set_option linter.unusedSimpArgs false in
set_option linter.unusedVariables false in
set_option maxRecDepth 100000 in
set_option maxHeartbeats 1000000 in
theorem back1_in (F : Fence) (n : Nat) (hf : F.fn 29) (hro : F.round = none) (hn : 1 ≤ n) (l b0 len cap : Nat) (a : Option Addr) (L : List Int) (Z : Nat → Prop) (hz0 : Z b0) (hz : ∀ x, a = some x → 0 < len → Z x.block) (hlen : len ≤ 1000000)
    (J Jx : List (Ixs L) → World → Prop)
    (hY : ∀ pre x W, J pre W → pre.length < L.length → YieldAt F (n - 1) Try.prog l #[.int .i64 x.1, .int .i64 (nth L x.1)] W fun e W' =>
      (e = .returned (.bool true) ∧ J (pre ++ [x]) W' ∧ KpZ Z W W') ∨ (e = .returned (.bool false) ∧ Jx (pre ++ [x]) W'))
    (W : World) (hP : W.cell? ⟨b0, 0, none⟩ = some (.slice a len cap)) (hR : RdAt .i64 W a len cap L) (h0 : J [] W) :
    CallsIn F n Try.prog 29 #[.func (.yield l) #[] #[], .pointer (some ⟨b0, 0, none⟩)] W fun e W' => (∃ v, e = .returned v) ∧
      ((∃ ys, ys.map (·.1) = backL L.length ∧ J ys W') ∨ (∃ pre, pre.map (·.1) <+: backL L.length ∧ Jx pre W')) := by
  have HR := Lib.hid hR
  have HP := Lib.hid hP
  have HL := Lib.hid hR.len
  clear hR
  refine callsIn_of_wp Try.func29 rfl hf ?_ hro
  simp only [Try.ntmps29, List.size_toArray, List.length_cons, List.length_nil, Nat.reduceAdd, Nat.reduceSub, Array.replicate_succ, Array.replicate_zero, List.push_toArray, List.append_toArray, List.nil_append, List.cons_append]
  gi_wp2
  clear hP
  gi_loopw [3] (fun i wr => ∃ (k : Nat) (pre : List (Ixs L)), k ≤ len ∧ i = .int .i64 ((k : Int) - 1) ∧ Hid (pre.map (·.1) ++ backL k = backL L.length) ∧ Hid (J pre wr) ∧ Hid (KpZ Z W wr)) (fun i _ => (intOf i + 1).toNat)
  case atStart => exact ⟨len, [], Nat.le_refl _, rfl, by show [] ++ backL len = backL L.length; rw [HL.out]; rfl, h0, KpZ.refl _ _⟩
  case round =>
    obtain ⟨k, pre, hk, rfl, hp, hJ, hK⟩ := hrel
    cases k with
    | zero =>
      have e0 : (((0 : Nat) : Int) - 1) = -1 := rfl
      rw [e0]
      gi_wp2
      go_end0
      exact ⟨⟨_, rfl⟩, .inl ⟨pre, by have := hp.out; simpa [backL] using this, hJ.out⟩⟩
    | succ k =>
      have e0 : (((k + 1 : Nat) : Int) - 1) = (k : Int) := by omega
      rw [e0]
      have c1 : wr.cell? ⟨b0, 0, none⟩ = some (.slice a len cap) := by rw [cell_at (hK.out.2 b0 hz0)]; exact HP.out
      obtain ⟨g, o, rfl, c2⟩ := (hK.out.rd HR.out hz).cell k (by omega)
      have hkl : k < L.length := by rw [HL.out]; omega
      have hp2 : pre.map (·.1) ++ k :: backL k = backL L.length := by rw [← backL_succ]; exact hp.out
      have hpl : pre.length < L.length := by
        have := congrArg List.length hp2
        simp [backL] at this
        omega
      obtain ⟨fn, tmps, assign, body, hy, hRo⟩ := hY pre ⟨k, hkl⟩ wr hJ.out hpl
      have HRo := Lib.hid hRo
      have HP2 := Lib.hid hp2
      clear hRo hp2 hpl
      dsimp only at hy
      gi_wp2
      refine HRo.out.mono ?_
      rintro e W3 (⟨rfl, hJ3, hk3⟩ | ⟨rfl, hJx3⟩)
      · have HJ3 := Lib.hid hJ3
        have HK3 := Lib.hid (hK.out.trans hk3)
        clear hJ3 hk3
        gi_wp2
        go_roundw
        case rel => exact ⟨k, pre ++ [⟨k, hkl⟩], by omega, by go_num, by show _ = _; rw [List.map_append, List.append_assoc]; exact HP2.out, HJ3, HK3⟩
        case measure => simp [intOf] <;> omega
      · have HJ3 := Lib.hid hJx3
        clear hJx3
        gi_wp2
        refine bodyPost_ret (results_none rfl _ _ _) rfl ?_
        exact ⟨⟨_, rfl⟩, .inr ⟨pre ++ [⟨k, hkl⟩], by rw [← HP2.out, List.map_append]; exact ⟨backL k, by simp⟩, HJ3.out⟩⟩
set_option maxRecDepth 100000 in
theorem backward_any (a : Option Addr) (n c : Nat) (w : World) :
    Calls Try.prog 22 #[.slice a n c] w fun e w' => e = .returned (.func (.func 29) #[] #[.pointer (some ⟨w.heap.size, 0, none⟩)]) ∧ w' = w.alloc (.cells #[.slice a n c] 49) := by
  go_enter Try.func22, Try.ntmps22
  go_wp2
  go_ret
  exact ⟨rfl, rfl⟩
set_option maxRecDepth 100000 in
/-- The iterator's contract. -/
theorem back_stops (F : Fence) (n : Nat) (hf : F.fn 29) (hro : F.round = none) (hn : 1 ≤ n) (b0 len cap : Nat) (a : Option Addr) (L : List Int) (Z : Nat → Prop) (hz0 : Z b0) (hz : ∀ x, a = some x → 0 < len → Z x.block) (hlen : len ≤ 1000000) (w : World) (hzw : ∀ j, Z j → j < w.heap.size)
    (hP : w.cell? ⟨b0, 0, none⟩ = some (.slice a len cap)) (hR : RdAt .i64 w a len cap L) :
    SeqStopsK F n Try.prog 29 #[.pointer (some ⟨b0, 0, none⟩)] (fun x : Ixs L => #[.int .i64 x.1, .int .i64 (nth L x.1)]) (KpZ Z) (fun ys => ys.map (·.1) = backL L.length) (fun pre => pre.map (·.1) <+: backL L.length) L.length w := fun l J Jx W hW _ _ hY h0 => by
  have hk : KpZ Z w W := ⟨hW.size, fun j hj => hW.block j (hzw j hj)⟩
  exact back1_in F n hf hro hn l b0 len cap a L Z hz0 hz hlen J Jx hY W (by rw [cell_at (hk.2 b0 hz0)]; exact hP) (hk.rd hR hz) h0
end Go.Proofs.Ytfoabnoolmeoiaa
