/- The walk of almanaclaw2.CrcSplits. -/
import Derived.Test.YtendhldpgkdhnaaKnown2
import Derived.Test.YtendhldpgkdhnaaRowsOf
import Derived.Test.YtendhldpgkdhnaaSeal
namespace Go.Proofs.Ytendhldpgkdhnaa
open Go.RowKit
theorem take_more (l : List Int) (i q : Nat) : l.take i ++ (l.drop i).take q = l.take (i + q) := by rw [List.take_add]
set_option linter.unusedSimpArgs false in
set_option maxRecDepth 100000 in
set_option maxHeartbeats 4000000 in
theorem splits_in (aa : Option Addr) (na ca : Nat) (la : List Int) (ac : Option Addr) (nc cc : Nat) (lc : List Int) (w : World) (ha : RdAt .u8 w aa na ca la) (hcc : RdAt .i64 w ac nc cc lc) (h1 : na ≤ 8192) (h2 : nc ≤ 500) :
    Calls Try.prog 4 #[.slice aa na ca, .slice ac nc cc] w fun e w' => e = .returned (.bool true) ∧ Below w.heap.size w w' := by
  have hd1 : decide ((8192 : Int) < na) = false := decide_eq_false (by omega)
  have hd2 : decide ((500 : Int) < nc) = false := decide_eq_false (by omega)
  have HLa := Lib.hid ha.len
  have hcap := ha.cap
  have hmax := ha.max
  unfold maxLen at hmax
  go_enter Try.func4, Try.ntmps4
  go_wp2_with (go_at_call 9; refine (known2 _).mono ?_; rintro e w1 ⟨rfl, hb⟩)
  replace ha := ha.below hb
  replace hcc := hcc.below hb
  go_loopw [5, 6, 7] (fun v s i wr => ∃ (k at0 : Nat) (vs : List Value) (ls : List (List Int)), k ≤ nc ∧ at0 ≤ na ∧ i = .int .i64 k ∧ s = .int .i64 at0 ∧ RowsOf w1 wr w1.heap.size v vs ls ∧ ls.flatten = la.take at0 ∧ vs.length ≤ k ∧ Below w1.heap.size w1 wr) (fun _ _ i _ => nc - (intOf i).toNat)
  case atStart => exact ⟨0, 0, [], [], by omega, by omega, rfl, rfl, RowsOf.nil _ _ _, rfl, by simp, Below.refl _ _⟩
  case round =>
    obtain ⟨k, at0, vs, ls, hk, hat, rfl, rfl, hR, hfl, hvl, hbw⟩ := hrel
    have HF := Lib.hid hfl
    clear hfl
    have hsz := hbw.size
    obtain ⟨av, cv, rfl⟩ := hR.shape
    by_cases hp : k < nc ∧ at0 < na
    · obtain ⟨hp1, hp2⟩ := hp
      have hc2 := hcc.below hbw
      obtain ⟨b, o, rfl, hc⟩ := hc2.cell k hp1
      obtain ⟨b2, o2, rfl, _⟩ := ha.cell at0 hp2
      generalize nth lc k = x at *
      obtain ⟨m, hm⟩ : ∃ m, x.tmod ((na : Int) - at0 + 1) = m := ⟨_, rfl⟩
      have hm1 := Int.tmod_lt_of_pos x (show 0 < (na : Int) - at0 + 1 by omega)
      have hm2 := Int.lt_tmod_of_pos x (show 0 < (na : Int) - at0 + 1 by omega)
      rw [hm] at hm1 hm2
      have hnz : ¬ ((na : Int) - at0 + 1 = 0) := by omega
      by_cases hm0 : 0 ≤ m
      · obtain ⟨q, rfl⟩ := Int.eq_ofNat_of_zero_le hm0
        have hr := RdAt.take (ha.drop at0 (by omega)) q (by omega)
        go_wp2_with (at_builtin; refine rows_one rfl (.tmp 45) (.tmp 52) rfl w1 wr w1.heap.size (.slice av vs.length cv) vs ls rfl hR _ q (ca - at0) _ hr rfl (by omega) hsz hbw ?_; intro v2 w2 hR2 hb2)
        go_roundw
        case rel => exact ⟨k + 1, at0 + q, _, _, by omega, by omega, by go_num, by go_num, hR2, by rw [List.flatten_append, HF.out]; simp only [List.flatten_cons, List.flatten_nil, List.append_nil]; exact take_more la at0 q, by simp; omega, hb2⟩
        case measure => simp [intOf] <;> omega
      · obtain ⟨q, hq⟩ : ∃ q : Nat, m = -(q : Int) := ⟨(-m).toNat, by omega⟩
        subst hq
        have hr := RdAt.take (ha.drop at0 (by omega)) q (by omega)
        go_wp2_with (at_builtin; refine rows_one rfl (.tmp 45) (.tmp 52) rfl w1 wr w1.heap.size (.slice av vs.length cv) vs ls rfl hR _ q (ca - at0) _ hr rfl (by omega) hsz hbw ?_; intro v2 w2 hR2 hb2)
        go_roundw
        case rel => exact ⟨k + 1, at0 + q, _, _, by omega, by omega, by go_num, by go_num, hR2, by rw [List.flatten_append, HF.out]; simp only [List.flatten_cons, List.flatten_nil, List.append_nil]; exact take_more la at0 q, by simp; omega, hb2⟩
        case measure => simp [intOf] <;> omega
    · have hX : (ls ++ [la.drop at0]).flatten = la := by rw [List.flatten_append, HF.out]; simp
      have hdk : (k : Int) < nc → (na : Int) ≤ at0 := fun h => by omega
      have hstop : nc ≤ k ∨ na ≤ at0 := by omega
      clear hdk hp
      cases aa with
      | none =>
        have hc0 := ha.void rfl
        obtain rfl : na = 0 := by omega
        obtain rfl : at0 = 0 := by omega
        subst hc0
        have HX := Lib.hid hX
        clear hX
        have hr : RdAt .u8 w1 none 0 0 (la.drop 0) := ha
        have hcb : (k : Int) < nc ∨ (nc : Int) ≤ k := by omega
        rcases hcb with hcb | hcb
        all_goals
          go_wp2_with (at_builtin; refine rows_one rfl (.tmp 57) (.tmp 61) rfl w1 wr w1.heap.size (.slice av vs.length cv) vs ls rfl hR _ _ _ _ hr rfl (by omega) hsz hbw ?_; intro v2 w2 hR2 hb2)
          obtain ⟨g, cg, rfl, hP⟩ := hR2.parts hb2 (by simp)
          refine (sum_any _ _ _ _ _ hP (by have := hR.len; simp; omega)).mono ?_
          rintro e w3 ⟨he, hb3⟩
          rw [HX.out] at he
          subst he
          have ha3 := (ha.below hb2).below hb3
          replace hb := hb.trans (hb2.mono hb.size)
          replace hb := hb.trans (hb3.mono hb.size)
          go_wp2_with fail
          refine (sum_one _ _ la _ (PartsAt.one ha3 _)).mono ?_
          rintro e w4 ⟨rfl, hb4⟩
          replace hb := hb.trans ((below_boxed hb4).mono hb.size)
          go_wp2_with fail
          go_ret
          exact ⟨rfl, hb⟩
      | some x =>
        by_cases hz : na = 0
        · subst hz
          obtain rfl : at0 = 0 := by omega
          have hl0 : la = [] := List.eq_nil_of_length_eq_zero HLa.out
          rw [hl0, List.drop_nil] at hX
          have HX : Hid ((ls ++ [([] : List Int)]).flatten = la) := by show _ = _; rw [hl0]; exact hX
          clear hX hl0
          by_cases hc0 : ca = 0
          · subst hc0
            have hcb : (k : Int) < nc ∨ (nc : Int) ≤ k := by omega
            rcases hcb with hcb | hcb
            all_goals
              go_wp2_with (at_builtin; refine rows_one rfl (.tmp 57) (.tmp 61) rfl w1 wr w1.heap.size (.slice av vs.length cv) vs ls rfl hR _ _ _ _ (rdAt_any _ _ _ _ (by unfold maxLen; omega)) rfl (by omega) hsz hbw ?_; intro v2 w2 hR2 hb2)
              obtain ⟨g, cg, rfl, hP⟩ := hR2.parts hb2 (by simp)
              refine (sum_any _ _ _ _ _ hP (by have := hR.len; simp; omega)).mono ?_
              rintro e w3 ⟨he, hb3⟩
              rw [HX.out] at he
              subst he
              have ha3 := (ha.below hb2).below hb3
              replace hb := hb.trans (hb2.mono hb.size)
              replace hb := hb.trans (hb3.mono hb.size)
              go_wp2_with fail
              refine (sum_one _ _ la _ (PartsAt.one ha3 _)).mono ?_
              rintro e w4 ⟨rfl, hb4⟩
              replace hb := hb.trans ((below_boxed hb4).mono hb.size)
              go_wp2_with fail
              go_ret
              exact ⟨rfl, hb⟩
          · have hcp : 0 < ca := by omega
            have hcb : (k : Int) < nc ∨ (nc : Int) ≤ k := by omega
            rcases hcb with hcb | hcb
            all_goals
              go_wp2_with (at_builtin; refine rows_one rfl (.tmp 57) (.tmp 61) rfl w1 wr w1.heap.size (.slice av vs.length cv) vs ls rfl hR _ _ _ _ (rdAt_any _ _ _ _ (by unfold maxLen; omega)) rfl (by omega) hsz hbw ?_; intro v2 w2 hR2 hb2)
              obtain ⟨g, cg, rfl, hP⟩ := hR2.parts hb2 (by simp)
              refine (sum_any _ _ _ _ _ hP (by have := hR.len; simp; omega)).mono ?_
              rintro e w3 ⟨he, hb3⟩
              rw [HX.out] at he
              subst he
              have ha3 := (ha.below hb2).below hb3
              replace hb := hb.trans (hb2.mono hb.size)
              replace hb := hb.trans (hb3.mono hb.size)
              go_wp2_with fail
              refine (sum_one _ _ la _ (PartsAt.one ha3 _)).mono ?_
              rintro e w4 ⟨rfl, hb4⟩
              replace hb := hb.trans ((below_boxed hb4).mono hb.size)
              go_wp2_with fail
              go_ret
              exact ⟨rfl, hb⟩
        · obtain ⟨b, o, hx, _⟩ := ha.cell 0 (by omega)
          injection hx with hx
          subst hx
          by_cases he : at0 = ca
          · obtain rfl : na = ca := by omega
            subst he
            have hl0 : la.drop at0 = [] := List.drop_of_length_le (by rw [HLa.out]; omega)
            rw [hl0] at hX
            have HX := Lib.hid hX
            clear hX hl0
            have hcb : (k : Int) < nc ∨ (nc : Int) ≤ k := by omega
            rcases hcb with hcb | hcb
            all_goals
              go_wp2_with (at_builtin; refine rows_one rfl (.tmp 57) (.tmp 61) rfl w1 wr w1.heap.size (.slice av vs.length cv) vs ls rfl hR _ _ _ _ (rdAt_any _ _ _ _ (by unfold maxLen; omega)) rfl (by omega) hsz hbw ?_; intro v2 w2 hR2 hb2)
              obtain ⟨g, cg, rfl, hP⟩ := hR2.parts hb2 (by simp)
              refine (sum_any _ _ _ _ _ hP (by have := hR.len; simp; omega)).mono ?_
              rintro e w3 ⟨he, hb3⟩
              rw [HX.out] at he
              subst he
              have ha3 := (ha.below hb2).below hb3
              replace hb := hb.trans (hb2.mono hb.size)
              replace hb := hb.trans (hb3.mono hb.size)
              go_wp2_with fail
              refine (sum_one _ _ la _ (PartsAt.one ha3 _)).mono ?_
              rintro e w4 ⟨rfl, hb4⟩
              replace hb := hb.trans ((below_boxed hb4).mono hb.size)
              go_wp2_with fail
              go_ret
              exact ⟨rfl, hb⟩
          · have HX := Lib.hid hX
            have hr := ha.drop at0 (by omega)
            have hca : at0 < ca := by omega
            clear hX he
            have hcb : (k : Int) < nc ∨ (nc : Int) ≤ k := by omega
            rcases hcb with hcb | hcb
            all_goals
              go_wp2_with (at_builtin; refine rows_one rfl (.tmp 57) (.tmp 61) rfl w1 wr w1.heap.size (.slice av vs.length cv) vs ls rfl hR _ _ _ _ hr rfl (by omega) hsz hbw ?_; intro v2 w2 hR2 hb2)
              obtain ⟨g, cg, rfl, hP⟩ := hR2.parts hb2 (by simp)
              refine (sum_any _ _ _ _ _ hP (by have := hR.len; simp; omega)).mono ?_
              rintro e w3 ⟨he, hb3⟩
              rw [HX.out] at he
              subst he
              have ha3 := (ha.below hb2).below hb3
              replace hb := hb.trans (hb2.mono hb.size)
              replace hb := hb.trans (hb3.mono hb.size)
              go_wp2_with fail
              refine (sum_one _ _ la _ (PartsAt.one ha3 _)).mono ?_
              rintro e w4 ⟨rfl, hb4⟩
              replace hb := hb.trans ((below_boxed hb4).mono hb.size)
              go_wp2_with fail
              go_ret
              exact ⟨rfl, hb⟩
theorem crcSplits_walk (aa : Option Addr) (na ca : Nat) (la : List Int) (ac : Option Addr) (nc cc : Nat) (lc : List Int) (w : World) (ha : RdAt .u8 w aa na ca la) (hcc : RdAt .i64 w ac nc cc lc) :
    Calls Try.prog 4 #[.slice aa na ca, .slice ac nc cc] w fun e w' => e = .returned (.bool true) ∧ Below w.heap.size w w' := by
  by_cases h1 : na ≤ 8192
  · by_cases h2 : nc ≤ 500
    · exact splits_in aa na ca la ac nc cc lc w ha hcc h1 h2
    · have hd1 : decide ((8192 : Int) < na) = false := decide_eq_false (by omega)
      have hd2 : decide ((500 : Int) < nc) = true := decide_eq_true (by omega)
      go_enter Try.func4, Try.ntmps4
      go_wp2_with (go_at_call 9; refine (known2 _).mono ?_; rintro e w1 ⟨rfl, hb⟩)
      go_ret
      exact ⟨rfl, hb⟩
  · have hd1 : decide ((8192 : Int) < na) = true := decide_eq_true (by omega)
    go_enter Try.func4, Try.ntmps4
    go_wp2_with (go_at_call 9; refine (known2 _).mono ?_; rintro e w1 ⟨rfl, hb⟩)
    go_ret
    exact ⟨rfl, hb⟩
end Go.Proofs.Ytendhldpgkdhnaa
