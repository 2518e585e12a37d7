/- The walk of almanaclaw4.LzJoins. -/
import Derived.Test.YtfoabnoolmeoiaaKnown4
import Derived.Test.YtfoabnoolmeoiaaLzJoinLaw
namespace Go.Proofs.Ytfoabnoolmeoiaa
open Go.RowKit
theorem lone_own (w : World) (k : Int) (hk : (Lit.int .u8 k).wf = true) : Owns .u8 5 (w.alloc (.cells #[.int .u8 k] 5)) w.heap.size (.slice (some ⟨w.heap.size, 0, none⟩) 1 1) [k] :=
  ⟨by simpa using hk, .inr ⟨rfl, .inr ⟨w.heap.size, 1, _, rfl, Nat.le_refl _, heap_alloc_new _ _, Nat.le_refl _, by unfold maxLen; omega, rfl, rfl⟩⟩⟩
theorem lone_below {w w' : World} {k : Int} {v : Value} (hk : (Lit.int .u8 k).wf = true) (h : Grows (w.alloc (.cells #[.int .u8 k] 5)) (.slice (some ⟨w.heap.size, 0, none⟩) 1 1) w' v) : Below w.heap.size w w' :=
  ((Below.refl w.heap.size w).alloc (Nat.le_refl _) _).trans (h.below (by simp) (fun g hg => ((lone_own w k hk).at_base g hg).1))
theorem strs_app (a b : List Int) : strOfNums (a ++ b) = strOfNums a ++ strOfNums b := by
  unfold strOfNums
  rw [List.map_append]
  ext1
  simp
theorem strs_size (a : List Int) : (strOfNums a).size = a.length := by
  unfold strOfNums
  simp [ByteArray.size]
theorem outT_le16 {x : List Int} : (outT (allT 16384 x)).length ≤ 16384 := by
  unfold outT
  split
  · have := allT_le (M := 16384) (x := x) (by decide); omega
  · simp
set_option linter.unusedSimpArgs false in
set_option linter.unusedVariables false in
set_option maxRecDepth 100000 in
set_option maxHeartbeats 4000000 in
theorem lzJoins_walk (a : Option Addr) (n c : Nat) (x : List Int) (a' : Option Addr) (n' c' : Nat) (x' : List Int) (w : World) (h : RdAt .u8 w a n c x) (h' : RdAt .u8 w a' n' c' x') :
    Calls Try.prog 3 #[.slice a n c, .slice a' n' c'] w fun e w' => e = .returned (.bool true) ∧ Below w.heap.size w w' := by
  have H := Lib.hid h
  have H' := Lib.hid h'
  clear h h'
  by_cases hn : 2000 < n
  · have hd1 : decide ((2000 : Int) < n) = true := decide_eq_true (by omega)
    go_enter Try.func3, Try.ntmps3
    go_wp2_with (go_at_call 8; refine (known4 _).mono ?_; rintro e w1 ⟨rfl, hb⟩)
    go_ret
    exact ⟨rfl, hb⟩
  · have hd1 : decide ((2000 : Int) < n) = false := decide_eq_false (by omega)
    by_cases hn' : 2000 < n'
    · have hd2 : decide ((2000 : Int) < n') = true := decide_eq_true (by omega)
      go_enter Try.func3, Try.ntmps3
      go_wp2_with (go_at_call 8; refine (known4 _).mono ?_; rintro e w1 ⟨rfl, hb⟩)
      go_ret
      exact ⟨rfl, hb⟩
    · have hd2 : decide ((2000 : Int) < n') = false := decide_eq_false (by omega)
      obtain ⟨T1, hT1⟩ : ∃ T1, allT 16384 ([1] ++ x) = T1 := ⟨_, rfl⟩
      obtain ⟨E1, hE1⟩ : ∃ E1, T1.e = E1 := ⟨_, rfl⟩
      obtain ⟨o1, ho1⟩ : ∃ o1, outT T1 = o1 := ⟨_, rfl⟩
      obtain ⟨N1, hN1⟩ : ∃ N1, o1.length = N1 := ⟨_, rfl⟩
      obtain ⟨T2, hT2⟩ : ∃ T2, allT 16384 ([1] ++ x') = T2 := ⟨_, rfl⟩
      obtain ⟨E2, hE2⟩ : ∃ E2, T2.e = E2 := ⟨_, rfl⟩
      obtain ⟨o2, ho2⟩ : ∃ o2, outT T2 = o2 := ⟨_, rfl⟩
      obtain ⟨N2, hN2⟩ : ∃ N2, o2.length = N2 := ⟨_, rfl⟩
      have hx1 := H.out.len
      have hx2 := H'.out.len
      have hb1 : N1 ≤ 16384 := by rw [← hN1, ← ho1, ← hT1]; exact outT_le16
      have hb2 : N2 ≤ 16384 := by rw [← hN2, ← ho2, ← hT2]; exact outT_le16
      have HT1 := Lib.hid hT1
      have HE1 := Lib.hid hE1
      have HO1 := Lib.hid ho1
      have HN1 := Lib.hid hN1
      have HT2 := Lib.hid hT2
      have HE2 := Lib.hid hE2
      have HO2 := Lib.hid ho2
      have HN2 := Lib.hid hN2
      have HX1 := Lib.hid hx1
      have HX2 := Lib.hid hx2
      clear hT1 hE1 ho1 hN1 hT2 hE2 ho2 hN2 hx1 hx2
      by_cases hz1 : E1 = 0
      · subst hz1
        by_cases hz2 : E2 = 0
        · subst hz2
          obtain ⟨T3, hT3⟩ : ∃ T3, allT ((N1 : Int) + N2) ([1] ++ x ++ x') = T3 := ⟨_, rfl⟩
          have hj := allT_joins (a := x) (b := x') (M := 16384) (by rw [HT1.out]; exact HE1.out) (by rw [HT2.out]; exact HE2.out) (N := (N1 : Int) + N2) (by
            rw [HT1.out, HT2.out, ← HN1.out, ← HN2.out, ← HO1.out, ← HO2.out]; unfold outT; rw [if_pos HE1.out, if_pos HE2.out])
          rw [hT3, HT1.out, HT2.out] at hj
          have hj3 : outT T3 = o1 ++ o2 := by
            rw [← HO1.out, ← HO2.out]; unfold outT; rw [if_pos hj.1, if_pos HE1.out, if_pos HE2.out]; exact hj.2
          have HJ := Lib.hid hj
          have HJ3 := Lib.hid hj3
          have HT3 := Lib.hid hT3
          clear hj hj3 hT3
          have hws : IntKind.i64.wrap ((N1 : Int) + N2) = (N1 : Int) + N2 := IntWalk.i64_in _ (by omega)
          go_enter Try.func3, Try.ntmps3
          go_wp2_with (first | (go_at_call 8; refine (known4 _).mono ?_; rintro e w1 ⟨rfl, hb⟩) | (at_builtin; refine app_all u8T u8I (by decide) rfl (.tmp 24) (.tmp 25) rfl _ w1.heap.size _ [1] rfl (lone_own _ 1 (by decide)) _ _ _ x rfl ((H.out.below hb).below ((Below.refl _ _).alloc (Nat.le_refl _) _)) (by simp; omega) (by simp) ?_; intro v2 w2 ow2 hg2; have hL2 := lone_below (by decide) hg2; have HH2 := Lib.hid hL2; clear hL2 hg2))
          obtain ⟨ay, cy, rfl⟩ := ow2.shapeN (1 + n) (by rw [List.length_append, HX1.out]; rfl)
          replace hb := hb.trans (HH2.out.mono hb.size)
          have OW2 := Lib.hid ow2
          clear ow2 HH2
          refine (refunpack_any _ _ _ _ 16384 _ OW2.out.rd (by decide) (by decide)).mono ?_
          rintro e w3 ⟨⟨v3, hee, o3⟩, hb2⟩
          rw [HT1.out] at hee o3
          rw [HE1.out] at hee
          rw [HO1.out] at o3
          subst hee
          replace hb := hb.trans (hb2.mono hb.size)
          obtain ⟨a3, c3, rfl⟩ := o3.shapeN N1 HN1.out
          clear hb2 OW2
          have O3 := Lib.hid o3
          clear o3
          go_wp2_with (at_builtin; refine app_all u8T u8I (by decide) rfl (.tmp 32) (.tmp 33) rfl _ w3.heap.size _ [1] rfl (lone_own _ 1 (by decide)) _ _ _ x' rfl ((H'.out.below hb).below ((Below.refl _ _).alloc (Nat.le_refl _) _)) (by simp; omega) (by simp) ?_; intro v4 w4 ow4 hg4; have hL4 := lone_below (by decide) hg4; have HH4 := Lib.hid hL4; clear hL4 hg4)
          obtain ⟨az, cz, rfl⟩ := ow4.shapeN (1 + n') (by rw [List.length_append, HX2.out]; rfl)
          replace hb := hb.trans (HH4.out.mono hb.size)
          have O3b := Lib.hid (O3.out.below HH4.out)
          have OW4 := Lib.hid ow4
          clear ow4 O3 HH4
          refine (refunpack_any _ _ _ _ 16384 _ OW4.out.rd (by decide) (by decide)).mono ?_
          rintro e w5 ⟨⟨v5, hee, o5⟩, hb2⟩
          rw [HT2.out] at hee o5
          rw [HE2.out] at hee
          rw [HO2.out] at o5
          subst hee
          replace hb := hb.trans (hb2.mono hb.size)
          have O3c := Lib.hid (O3b.out.below hb2)
          obtain ⟨a5, c5, rfl⟩ := o5.shapeN N2 HN2.out
          have O5 := Lib.hid o5
          clear hb2 OW4 o5 O3b
          have HB5 := Lib.hid hb
          clear hb
          go_wp2_with (first | (at_builtin; refine app_all u8T u8I (by decide) rfl (.tmp 46) (.tmp 47) rfl _ w5.heap.size _ [1] rfl (lone_own _ 1 (by decide)) _ _ _ x rfl ((H.out.below HB5.out).below ((Below.refl _ _).alloc (Nat.le_refl _) _)) (by simp; omega) (by simp) ?_; intro v6 w6 ow6 hg6; have hL6 := lone_below (by decide) hg6; have HH6 := Lib.hid hL6; clear hL6 hg6; obtain ⟨a6, c6, rfl⟩ := ow6.shapeN (1 + n) (by rw [List.length_append, HX1.out]; rfl); have OW6 := Lib.hid ow6; clear ow6) | (at_builtin; refine app_all u8T u8I (by decide) rfl (.tmp 48) (.tmp 49) rfl _ w5.heap.size _ ([1] ++ x) rfl OW6.out _ _ _ x' rfl ((H'.out.below HB5.out).below HH6.out) (by rw [List.length_append, HX1.out]; simp; omega) HH6.out.size ?_; intro v7 w7 ow7 hg7; have hL7 := hg7.below HH6.out.size (fun g hg => (OW6.out.at_base g hg).1); have HH7 := Lib.hid (HH6.out.trans hL7); clear hL7 hg7; obtain ⟨a7, c7, rfl⟩ := ow7.shapeN (1 + n + n') (by rw [List.length_append, List.length_append, HX1.out, HX2.out]; rfl); have OW7 := Lib.hid ow7; clear ow7))
          refine (unpack_any _ _ _ _ _ ((N1 : Int) + N2) _ OW7.out.rd (by omega) (by omega)).mono ?_
          rintro e w8 ⟨⟨v8, hee, o8⟩, hb2⟩
          rw [HT3.out] at hee o8
          rw [HJ.out.1] at hee
          rw [HJ3.out] at o8
          subst hee
          obtain ⟨a8, c8, rfl⟩ := o8.shapeN (N1 + N2) (by rw [List.length_append, HN1.out, HN2.out])
          have k8 := conv_rd u8T s8 su o8.rd
          have k3 := conv_rd u8T s8 su ((O3c.out.below HH7.out).below hb2).rd
          have k5 := conv_rd u8T s8 su ((O5.out.below HH7.out).below hb2).rd
          have hss := strs_app o1 o2
          have hsz1 : ¬ 9223372036854775807 < (strOfNums o1).size + (strOfNums o2).size := by rw [strs_size, strs_size, HN1.out, HN2.out]; omega
          have hb := (HB5.out.trans (HH7.out.mono HB5.out.size)).trans (hb2.mono (HB5.out.trans (HH7.out.mono HB5.out.size)).size)
          have HB := Lib.hid hb
          clear hb hb2 o8
          go_wp2_with fail
          go_ret
          exact ⟨rfl, HB.out⟩
        · have hzz : (E2 == 0) = false := beq_eq_false_iff_ne.2 hz2
          go_enter Try.func3, Try.ntmps3
          go_wp2_with (first | (go_at_call 8; refine (known4 _).mono ?_; rintro e w1 ⟨rfl, hb⟩) | (at_builtin; refine app_all u8T u8I (by decide) rfl (.tmp 24) (.tmp 25) rfl _ w1.heap.size _ [1] rfl (lone_own _ 1 (by decide)) _ _ _ x rfl ((H.out.below hb).below ((Below.refl _ _).alloc (Nat.le_refl _) _)) (by simp; omega) (by simp) ?_; intro v2 w2 ow2 hg2; have hL2 := lone_below (by decide) hg2; have HH2 := Lib.hid hL2; clear hL2 hg2))
          obtain ⟨ay, cy, rfl⟩ := ow2.shapeN (1 + n) (by rw [List.length_append, HX1.out]; rfl)
          replace hb := hb.trans (HH2.out.mono hb.size)
          have OW2 := Lib.hid ow2
          clear ow2 HH2
          refine (refunpack_any _ _ _ _ 16384 _ OW2.out.rd (by decide) (by decide)).mono ?_
          rintro e w3 ⟨⟨v3, hee, o3⟩, hb2⟩
          rw [HT1.out] at hee o3
          rw [HE1.out] at hee
          rw [HO1.out] at o3
          subst hee
          replace hb := hb.trans (hb2.mono hb.size)
          obtain ⟨a3, c3, rfl⟩ := o3.shapeN N1 HN1.out
          clear hb2 OW2
          have O3 := Lib.hid o3
          clear o3
          go_wp2_with (at_builtin; refine app_all u8T u8I (by decide) rfl (.tmp 32) (.tmp 33) rfl _ w3.heap.size _ [1] rfl (lone_own _ 1 (by decide)) _ _ _ x' rfl ((H'.out.below hb).below ((Below.refl _ _).alloc (Nat.le_refl _) _)) (by simp; omega) (by simp) ?_; intro v4 w4 ow4 hg4; have hL4 := lone_below (by decide) hg4; have HH4 := Lib.hid hL4; clear hL4 hg4)
          obtain ⟨az, cz, rfl⟩ := ow4.shapeN (1 + n') (by rw [List.length_append, HX2.out]; rfl)
          replace hb := hb.trans (HH4.out.mono hb.size)
          have O3b := Lib.hid (O3.out.below HH4.out)
          have OW4 := Lib.hid ow4
          clear ow4 O3 HH4
          refine (refunpack_any _ _ _ _ 16384 _ OW4.out.rd (by decide) (by decide)).mono ?_
          rintro e w5 ⟨⟨v5, hee, o5⟩, hb2⟩
          rw [HT2.out] at hee o5
          rw [HE2.out] at hee
          rw [HO2.out] at o5
          subst hee
          replace hb := hb.trans (hb2.mono hb.size)
          have O3c := Lib.hid (O3b.out.below hb2)
          obtain ⟨a5, c5, rfl⟩ := o5.shapeN N2 HN2.out
          have O5 := Lib.hid o5
          clear hb2 OW4 o5 O3b
          go_wp2_with fail
          go_ret
          exact ⟨rfl, hb⟩
      · have hzz : (E1 == 0) = false := beq_eq_false_iff_ne.2 hz1
        go_enter Try.func3, Try.ntmps3
        go_wp2_with (first | (go_at_call 8; refine (known4 _).mono ?_; rintro e w1 ⟨rfl, hb⟩) | (at_builtin; refine app_all u8T u8I (by decide) rfl (.tmp 24) (.tmp 25) rfl _ w1.heap.size _ [1] rfl (lone_own _ 1 (by decide)) _ _ _ x rfl ((H.out.below hb).below ((Below.refl _ _).alloc (Nat.le_refl _) _)) (by simp; omega) (by simp) ?_; intro v2 w2 ow2 hg2; have hL2 := lone_below (by decide) hg2; have HH2 := Lib.hid hL2; clear hL2 hg2))
        obtain ⟨ay, cy, rfl⟩ := ow2.shapeN (1 + n) (by rw [List.length_append, HX1.out]; rfl)
        replace hb := hb.trans (HH2.out.mono hb.size)
        have OW2 := Lib.hid ow2
        clear ow2 HH2
        refine (refunpack_any _ _ _ _ 16384 _ OW2.out.rd (by decide) (by decide)).mono ?_
        rintro e w3 ⟨⟨v3, hee, o3⟩, hb2⟩
        rw [HT1.out] at hee o3
        rw [HE1.out] at hee
        rw [HO1.out] at o3
        subst hee
        replace hb := hb.trans (hb2.mono hb.size)
        obtain ⟨a3, c3, rfl⟩ := o3.shapeN N1 HN1.out
        clear hb2 OW2
        have O3 := Lib.hid o3
        clear o3
        go_wp2_with (at_builtin; refine app_all u8T u8I (by decide) rfl (.tmp 32) (.tmp 33) rfl _ w3.heap.size _ [1] rfl (lone_own _ 1 (by decide)) _ _ _ x' rfl ((H'.out.below hb).below ((Below.refl _ _).alloc (Nat.le_refl _) _)) (by simp; omega) (by simp) ?_; intro v4 w4 ow4 hg4; have hL4 := lone_below (by decide) hg4; have HH4 := Lib.hid hL4; clear hL4 hg4)
        obtain ⟨az, cz, rfl⟩ := ow4.shapeN (1 + n') (by rw [List.length_append, HX2.out]; rfl)
        replace hb := hb.trans (HH4.out.mono hb.size)
        have O3b := Lib.hid (O3.out.below HH4.out)
        have OW4 := Lib.hid ow4
        clear ow4 O3 HH4
        refine (refunpack_any _ _ _ _ 16384 _ OW4.out.rd (by decide) (by decide)).mono ?_
        rintro e w5 ⟨⟨v5, hee, o5⟩, hb2⟩
        rw [HT2.out] at hee o5
        rw [HE2.out] at hee
        rw [HO2.out] at o5
        subst hee
        replace hb := hb.trans (hb2.mono hb.size)
        have O3c := Lib.hid (O3b.out.below hb2)
        obtain ⟨a5, c5, rfl⟩ := o5.shapeN N2 HN2.out
        have O5 := Lib.hid o5
        clear hb2 OW4 o5 O3b
        go_wp2_with fail
        go_ret
        exact ⟨rfl, hb⟩
end Go.Proofs.Ytfoabnoolmeoiaa
