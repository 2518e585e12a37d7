/- The walk of almanaclaw4.LzMost. -/
import Derived.Test.YtfoabnoolmeoiaaKnown4
import Derived.Test.YtfoabnoolmeoiaaLzMostLaw
namespace Go.Proofs.Ytfoabnoolmeoiaa
open Go.RowKit
set_option linter.unusedSimpArgs false in
set_option linter.unusedVariables false in
set_option maxRecDepth 100000 in
set_option maxHeartbeats 2000000 in
theorem lzMost_walk (a : Option Addr) (n c : Nat) (x : List Int) (by' : Int) (w : World) (h : RdAt .u8 w a n c x) (_ : (Lit.int .i64 by').wf = true) :
    Calls Try.prog 4 #[.slice a n c, .int .i64 by'] w fun e w' => e = .returned (.bool true) ∧ Below w.heap.size w w' := by
  have H := Lib.hid h
  clear h
  by_cases hn : 8192 < n
  · have hd1 : decide ((8192 : Int) < n) = true := decide_eq_true (by omega)
    go_enter Try.func4, Try.ntmps4
    go_wp2_with (go_at_call 8; refine (known4 _).mono ?_; rintro e w1 ⟨rfl, hb⟩)
    go_ret
    exact ⟨rfl, hb⟩
  · have hd1 : decide ((8192 : Int) < n) = false := decide_eq_false (by omega)
    by_cases hy1 : by' < 1
    · have hd2 : decide (by' < 1) = true := decide_eq_true hy1
      go_enter Try.func4, Try.ntmps4
      go_wp2_with (go_at_call 8; refine (known4 _).mono ?_; rintro e w1 ⟨rfl, hb⟩)
      go_ret
      exact ⟨rfl, hb⟩
    · have hd2 : decide (by' < 1) = false := decide_eq_false hy1
      by_cases hy2 : 1048576 < by'
      · have hd3 : decide (1048576 < by') = true := decide_eq_true hy2
        go_enter Try.func4, Try.ntmps4
        go_wp2_with (go_at_call 8; refine (known4 _).mono ?_; rintro e w1 ⟨rfl, hb⟩)
        go_ret
        exact ⟨rfl, hb⟩
      · have hd3 : decide (1048576 < by') = false := decide_eq_false hy2
        obtain ⟨E0, hE0⟩ : ∃ E0, (allT 65536 x).e = E0 := ⟨_, rfl⟩
        have HE0 := Lib.hid hE0
        obtain ⟨o0, ho0⟩ : ∃ o0, outT (allT 65536 x) = o0 := ⟨_, rfl⟩
        have HO0 := Lib.hid ho0
        clear hE0 ho0
        by_cases hz : E0 = 0
        · subst hz
          have hoo : o0 = (allT 65536 x).o := by rw [← HO0.out]; unfold outT; rw [if_pos HE0.out]
          obtain ⟨N, hN⟩ : ∃ N, o0.length = N := ⟨_, rfl⟩
          have hNle : (N : Int) ≤ 65536 := by rw [← hN, hoo]; exact allT_le (by decide)
          have T1 : ∀ M', (N : Int) ≤ M' → allT M' x = allT 65536 x := fun M' h => allT_any HE0.out (by rw [← hoo, hN]; exact h)
          have T2 : ∀ M', M' < (N : Int) → 0 ≤ M' → (allT M' x).e = 24 := fun M' h h0 => allT_low HE0.out (by rw [← hoo, hN]; exact h) h0
          have TT1 := Lib.hid T1
          have TT2 := Lib.hid T2
          have HN := Lib.hid hN
          clear T1 T2 hoo hN
          have hw1 : IntKind.i64.wrap ((N : Int) + by') = (N : Int) + by' := IntWalk.i64_in _ (by omega)
          have hw2 : IntKind.i64.wrap ((N : Int) + by' - 1) = (N : Int) + by' - 1 := IntWalk.i64_in _ (by omega)
          have hw3 : IntKind.i64.wrap ((N : Int) - by') = (N : Int) - by' := IntWalk.i64_in _ (by omega)
          go_enter Try.func4, Try.ntmps4
          go_wp2_with (go_at_call 8; refine (known4 _).mono ?_; rintro e w1 ⟨rfl, hb⟩)
          refine (refunpack_any _ _ _ _ _ _ (H.out.below hb) (by decide) (by decide)).mono ?_
          rintro e w2 ⟨⟨v2, hee, o2⟩, hb2'⟩
          rw [HE0.out] at hee
          subst hee
          rw [HO0.out] at o2
          replace hb := hb.trans (hb2'.mono hb.size)
          obtain ⟨a2, c2, rfl⟩ := o2.shapeN N HN.out
          clear hb2'
          go_wp2_with fail
          refine (unpack_any _ _ _ _ _ ((N : Int) + by' - 1) _ (H.out.below hb) (by omega) (by omega)).mono ?_
          rintro e w3 ⟨⟨v3, hee, o3⟩, hb3⟩
          rw [TT1.out _ (by omega)] at hee o3
          rw [HE0.out] at hee
          subst hee
          rw [HO0.out] at o3
          have o2' := o2.below hb3
          replace hb := hb.trans (hb3.mono hb.size)
          obtain ⟨a3, c3, rfl⟩ := o3.shapeN N HN.out
          clear hb3 o2
          have k2 := conv_rd u8T s8 su o2'.rd
          have k3 := conv_rd u8T s8 su o3.rd
          clear o2' o3
          go_wp2_with fail
          by_cases hN0 : N = 0
          · have hN1 : ((N : Int) == 0) = true := by simp [hN0]
            refine (unpack_any _ _ _ _ _ 0 _ (H.out.below hb) (by omega) (by omega)).mono ?_
            rintro e w4 ⟨⟨v4, hee, o4⟩, hb4⟩
            rw [TT1.out _ (by omega)] at hee o4
            rw [HE0.out] at hee
            subst hee
            rw [HO0.out] at o4
            replace hb := hb.trans (hb4.mono hb.size)
            obtain ⟨a4, c4, rfl⟩ := o4.shapeN N HN.out
            clear hb4 o4 k2 k3
            go_wp2_with fail
            go_ret
            exact ⟨rfl, hb⟩
          · have hN1 : ((N : Int) == 0) = false := beq_eq_false_iff_ne.2 (by omega)
            refine (unpack_any _ _ _ _ _ (max ((N : Int) - by') 0) _ (H.out.below hb) rfl (by omega)).mono ?_
            rintro e w4 ⟨⟨v4, hee, o4⟩, hb4⟩
            have h24 := TT2.out (max ((N : Int) - by') 0) (by omega) (by omega)
            rw [h24] at hee
            subst hee
            rw [outT_bad _ (by rw [h24]; decide)] at o4
            replace hb := hb.trans (hb4.mono hb.size)
            obtain ⟨a4, c4, rfl⟩ := o4.shapeN 0 rfl
            clear hb4 o4 k2 k3 h24
            go_wp2_with fail
            go_ret
            exact ⟨rfl, hb⟩
        · have hz2 : (E0 == 0) = false := beq_eq_false_iff_ne.2 hz
          go_enter Try.func4, Try.ntmps4
          go_wp2_with (go_at_call 8; refine (known4 _).mono ?_; rintro e w1 ⟨rfl, hb⟩)
          refine (refunpack_any _ _ _ _ _ _ (H.out.below hb) (by decide) (by decide)).mono ?_
          rintro e w2 ⟨⟨v2, hee, o2⟩, hb2'⟩
          rw [HE0.out] at hee
          subst hee
          replace hb := hb.trans (hb2'.mono hb.size)
          obtain ⟨a2, c2, rfl⟩ := o2.shape
          clear hb2' o2
          go_wp2_with fail
          go_ret
          exact ⟨rfl, hb⟩
end Go.Proofs.Ytfoabnoolmeoiaa
