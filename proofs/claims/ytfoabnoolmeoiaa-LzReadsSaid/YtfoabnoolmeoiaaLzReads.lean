/- The walk of almanaclaw4.LzReads. -/
import Derived.Test.YtfoabnoolmeoiaaKnown4
import Derived.Test.YtfoabnoolmeoiaaRLzNeg
import Derived.Test.YtfoabnoolmeoiaaLzRest
import Derived.Test.YtfoabnoolmeoiaaLzCopies
import Derived.Test.YtfoabnoolmeoiaaLzMostLaw
namespace Go.Proofs.Ytfoabnoolmeoiaa
open Go.RowKit
theorem toks_sum (M : Int) : ∀ (f : Nat) (x o : List Int) (l c : Int), (o.length : Int) = l + c → 0 ≤ l → 0 ≤ c → ((toks M f x o l c).o.length : Int) = (toks M f x o l c).lit + (toks M f x o l c).cop ∧ 0 ≤ (toks M f x o l c).lit ∧ 0 ≤ (toks M f x o l c).cop
  | 0, x, o, l, c, h, h1, h2 => ⟨h, h1, h2⟩
  | f + 1, x, o, l, c, h, h1, h2 => by
    unfold toks
    split
    · exact ⟨h, h1, h2⟩
    · split
      · exact ⟨h, h1, h2⟩
      · rename_i he
        have he : tokE x o M = 0 := by simpa using he
        have hs := tokO_sum he
        exact toks_sum M f _ _ _ _ (by omega) (by omega) (by omega)
theorem allT_sum (M : Int) (x : List Int) : ((allT M x).o.length : Int) = (allT M x).lit + (allT M x).cop ∧ 0 ≤ (allT M x).lit ∧ 0 ≤ (allT M x).cop := by
  unfold allT
  split
  · exact ⟨rfl, Int.le_refl _, Int.le_refl _⟩
  · split
    · split
      · exact ⟨rfl, Int.le_refl _, Int.le_refl _⟩
      · refine ⟨?_, Int.natCast_nonneg _, Int.le_refl _⟩
        simp only [List.length_drop]
        omega
    · split
      · exact toks_sum M _ _ _ _ _ rfl (Int.le_refl _) (Int.le_refl _)
      · exact ⟨rfl, Int.le_refl _, Int.le_refl _⟩
theorem outT_sum (M : Int) (x : List Int) : ((outT (allT M x)).length : Int) = litT (allT M x) + copT (allT M x) ∧ 0 ≤ litT (allT M x) ∧ 0 ≤ copT (allT M x) := by
  unfold outT litT copT
  split
  · exact allT_sum M x
  · exact ⟨rfl, Int.le_refl _, Int.le_refl _⟩
theorem outT_le {M : Int} {x : List Int} (hM : 0 ≤ M) : ((outT (allT M x)).length : Int) ≤ M := by
  unfold outT
  split
  · exact allT_le hM
  · simpa using hM
set_option linter.unusedSimpArgs false in
set_option linter.unusedVariables false in
set_option maxRecDepth 100000 in
set_option maxHeartbeats 4000000 in
theorem lzReads_walk (a : Option Addr) (n c : Nat) (x : List Int) (m : Int) (w : World) (h : RdAt .u8 w a n c x) (hwf : (Lit.int .i64 m).wf = true) :
    Calls Try.prog 5 #[.slice a n c, .int .i64 m] w fun e w' => e = .returned (.bool true) ∧ Below w.heap.size w w' := by
  have H := Lib.hid h
  clear h
  by_cases hn : 8192 < n
  · have hd1 : decide ((8192 : Int) < n) = true := decide_eq_true (by omega)
    go_enter Try.func5, Try.ntmps5
    go_wp2_with (go_at_call 8; refine (known4 _).mono ?_; rintro e w1 ⟨rfl, hb⟩)
    go_ret
    exact ⟨rfl, hb⟩
  · have hd1 : decide ((8192 : Int) < n) = false := decide_eq_false (by omega)
    obtain ⟨T2, hT2⟩ : ∃ T2, allT 1048576 x = T2 := ⟨_, rfl⟩
    have hs2 := outT_sum 1048576 x
    have hle2 := outT_le (M := 1048576) (x := x) (by decide)
    rw [hT2] at hs2 hle2
    obtain ⟨E2, hE2⟩ : ∃ E2, T2.e = E2 := ⟨_, rfl⟩
    obtain ⟨o2, ho2⟩ : ∃ o2, outT T2 = o2 := ⟨_, rfl⟩
    obtain ⟨L2, hL2⟩ : ∃ L2, litT T2 = L2 := ⟨_, rfl⟩
    obtain ⟨C2, hC2⟩ : ∃ C2, copT T2 = C2 := ⟨_, rfl⟩
    obtain ⟨N2, hN2⟩ : ∃ N2, o2.length = N2 := ⟨_, rfl⟩
    rw [ho2, hL2, hC2, hN2] at hs2
    rw [ho2, hN2] at hle2
    have HT2 := Lib.hid hT2
    have HE2 := Lib.hid hE2
    have HO2 := Lib.hid ho2
    have HL2 := Lib.hid hL2
    have HC2 := Lib.hid hC2
    have HN2 := Lib.hid hN2
    obtain ⟨hsA, hsB, hsC⟩ := hs2
    have hww : IntKind.i64.wrap ((N2 : Int) - L2) = C2 := by rw [IntWalk.i64_in _ (by omega)]; omega
    clear hT2 hE2 ho2 hL2 hC2 hN2 hsA hsB hsC hle2
    have hm0 := wf_i64_bd hwf
    by_cases hm : 65536 < m
    · have hd2 : decide (65536 < m) = true := decide_eq_true hm
      obtain ⟨T, hT⟩ : ∃ T, allT (max 65536 0) x = T := ⟨_, rfl⟩
      obtain ⟨E0, hE0⟩ : ∃ E0, T.e = E0 := ⟨_, rfl⟩
      obtain ⟨o0, ho0⟩ : ∃ o0, outT T = o0 := ⟨_, rfl⟩
      obtain ⟨N, hN⟩ : ∃ N, o0.length = N := ⟨_, rfl⟩
      have HT := Lib.hid hT
      have HE0 := Lib.hid hE0
      have HO0 := Lib.hid ho0
      have HN := Lib.hid hN
      have hMb : (65536 : Int) ≤ 65536 := by omega
      have HMB := Lib.hid hMb
      clear hT hE0 ho0 hN hMb hm0
      go_enter Try.func5, Try.ntmps5
      go_wp2_with (go_at_call 8; refine (known4 _).mono ?_; rintro e w1 ⟨rfl, hb⟩)
      refine (unpack_any _ _ _ _ _ (max 65536 0) _ (H.out.below hb) rfl (Int.le_trans HMB.out (by decide))).mono ?_
      rintro e w2 ⟨⟨v1, hee, o1⟩, hb2⟩
      rw [HT.out] at hee o1
      rw [HE0.out] at hee
      rw [HO0.out] at o1
      subst hee
      replace hb := hb.trans (hb2.mono hb.size)
      obtain ⟨a1, c1, rfl⟩ := o1.shapeN N HN.out
      clear hb2
      go_wp2_with fail
      refine (refunpack_all _ _ _ _ _ (max 65536 0) _ (H.out.below hb) rfl (Int.le_trans HMB.out (by decide))).mono ?_
      rintro e w3 ⟨⟨v2, hee, o2'⟩, hb2⟩
      rw [HT.out] at hee o2'
      rw [HE0.out] at hee
      rw [HO0.out] at o2'
      subst hee
      have o1' := o1.below hb2
      replace hb := hb.trans (hb2.mono hb.size)
      obtain ⟨a2, c2, rfl⟩ := o2'.shapeN N HN.out
      clear hb2 o1
      go_wp2_with fail
      refine (check_any _ _ _ x _ (max 65536 0) _ (H.out.below hb) rfl (Int.le_trans HMB.out (by decide))).mono ?_
      rintro e w4 ⟨hee, hb2⟩
      rw [HT.out, HE0.out, HO0.out, HN.out] at hee
      subst hee
      have k1 := conv_rd u8T s8 su (o1'.below hb2).rd
      have k2 := conv_rd u8T s8 su (o2'.below hb2).rd
      replace hb := hb.trans (hb2.mono hb.size)
      clear hb2 o1' o2'
      go_wp2_with fail
      refine (copies_any _ _ _ x _ (H.out.below hb)).mono ?_
      rintro e w5 ⟨hee, hb2⟩
      rw [HT2.out, HE2.out, HL2.out, HC2.out] at hee
      subst hee
      replace hb := hb.trans (hb2.mono hb.size)
      clear hb2 k1 k2
      go_wp2_with fail
      refine (refunpack_all _ _ _ x _ 1048576 _ (H.out.below hb) (by decide) (by decide)).mono ?_
      rintro e w6 ⟨⟨v6, hee, o6⟩, hb2⟩
      rw [HT2.out] at hee o6
      rw [HE2.out, HL2.out] at hee
      rw [HO2.out] at o6
      subst hee
      replace hb := hb.trans (hb2.mono hb.size)
      obtain ⟨a6, c6, rfl⟩ := o6.shapeN N2 HN2.out
      clear hb2 o6
      go_wp2_with fail
      go_ret
      exact ⟨rfl, hb⟩
    · have hd2 : decide (65536 < m) = false := decide_eq_false hm
      obtain ⟨T, hT⟩ : ∃ T, allT (max m 0) x = T := ⟨_, rfl⟩
      obtain ⟨E0, hE0⟩ : ∃ E0, T.e = E0 := ⟨_, rfl⟩
      obtain ⟨o0, ho0⟩ : ∃ o0, outT T = o0 := ⟨_, rfl⟩
      obtain ⟨N, hN⟩ : ∃ N, o0.length = N := ⟨_, rfl⟩
      have HT := Lib.hid hT
      have HE0 := Lib.hid hE0
      have HO0 := Lib.hid ho0
      have HN := Lib.hid hN
      have hMb : (m : Int) ≤ 65536 := by omega
      have HMB := Lib.hid hMb
      clear hT hE0 ho0 hN hMb hm0
      go_enter Try.func5, Try.ntmps5
      go_wp2_with (go_at_call 8; refine (known4 _).mono ?_; rintro e w1 ⟨rfl, hb⟩)
      refine (unpack_any _ _ _ _ _ (max m 0) _ (H.out.below hb) rfl (Int.le_trans HMB.out (by decide))).mono ?_
      rintro e w2 ⟨⟨v1, hee, o1⟩, hb2⟩
      rw [HT.out] at hee o1
      rw [HE0.out] at hee
      rw [HO0.out] at o1
      subst hee
      replace hb := hb.trans (hb2.mono hb.size)
      obtain ⟨a1, c1, rfl⟩ := o1.shapeN N HN.out
      clear hb2
      go_wp2_with fail
      refine (refunpack_all _ _ _ _ _ (max m 0) _ (H.out.below hb) rfl (Int.le_trans HMB.out (by decide))).mono ?_
      rintro e w3 ⟨⟨v2, hee, o2'⟩, hb2⟩
      rw [HT.out] at hee o2'
      rw [HE0.out] at hee
      rw [HO0.out] at o2'
      subst hee
      have o1' := o1.below hb2
      replace hb := hb.trans (hb2.mono hb.size)
      obtain ⟨a2, c2, rfl⟩ := o2'.shapeN N HN.out
      clear hb2 o1
      go_wp2_with fail
      refine (check_any _ _ _ x _ (max m 0) _ (H.out.below hb) rfl (Int.le_trans HMB.out (by decide))).mono ?_
      rintro e w4 ⟨hee, hb2⟩
      rw [HT.out, HE0.out, HO0.out, HN.out] at hee
      subst hee
      have k1 := conv_rd u8T s8 su (o1'.below hb2).rd
      have k2 := conv_rd u8T s8 su (o2'.below hb2).rd
      replace hb := hb.trans (hb2.mono hb.size)
      clear hb2 o1' o2'
      go_wp2_with fail
      refine (copies_any _ _ _ x _ (H.out.below hb)).mono ?_
      rintro e w5 ⟨hee, hb2⟩
      rw [HT2.out, HE2.out, HL2.out, HC2.out] at hee
      subst hee
      replace hb := hb.trans (hb2.mono hb.size)
      clear hb2 k1 k2
      go_wp2_with fail
      refine (refunpack_all _ _ _ x _ 1048576 _ (H.out.below hb) (by decide) (by decide)).mono ?_
      rintro e w6 ⟨⟨v6, hee, o6⟩, hb2⟩
      rw [HT2.out] at hee o6
      rw [HE2.out, HL2.out] at hee
      rw [HO2.out] at o6
      subst hee
      replace hb := hb.trans (hb2.mono hb.size)
      obtain ⟨a6, c6, rfl⟩ := o6.shapeN N2 HN2.out
      clear hb2 o6
      go_wp2_with fail
      go_ret
      exact ⟨rfl, hb⟩
end Go.Proofs.Ytfoabnoolmeoiaa
