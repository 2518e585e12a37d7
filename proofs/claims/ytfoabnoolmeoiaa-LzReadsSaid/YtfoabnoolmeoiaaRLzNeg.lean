/- The reference's Unpack where the most is below nothing. -/
import Derived.Test.YtfoabnoolmeoiaaRLzAll
namespace Go.Proofs.Ytfoabnoolmeoiaa
open Go.RowKit
set_option linter.unusedSimpArgs false in
set_option linter.unusedVariables false in
set_option maxRecDepth 100000 in
set_option maxHeartbeats 2000000 in
theorem rn_e (a : Option Addr) (c : Nat) (m0 : Int) (w : World) (hneg : m0 < 0) :
    Calls Try.prog 9 #[.slice a 0 c, .int .i64 m0] w fun e w' => (∃ v, e = .returned (.tuple #[v, .int .i64 0, .int .i64 21]) ∧ Owns .u8 5 w' w.heap.size v []) ∧ Below w.heap.size w w' := by
  have hnl : decide (m0 < 0) = true := decide_eq_true hneg
  go_enter Try.func9, Try.ntmps9
  go_wp2_with fail
  go_ret3
  exact ⟨⟨_, rfl, Owns.nil _ _ _ _⟩, Below.refl _ _⟩
set_option linter.unusedSimpArgs false in
set_option linter.unusedVariables false in
set_option maxRecDepth 100000 in
set_option maxHeartbeats 2000000 in
theorem rn_o (a : Option Addr) (n c : Nat) (x : List Int) (m0 q : Int) (w : World) (r : RdAt .u8 w a n c x) (hn : 1 ≤ n) (hk : nth x 0 = q) (hq : 1 < q) (hneg : m0 < 0) :
    Calls Try.prog 9 #[.slice a n c, .int .i64 m0] w fun e w' => (∃ v, e = .returned (.tuple #[v, .int .i64 0, .int .i64 22]) ∧ Owns .u8 5 w' w.heap.size v []) ∧ Below w.heap.size w w' := by
  obtain ⟨b, ad, rfl, hcell⟩ := r.cell 0 (by omega)
  rw [hk] at hcell
  have hcell2 := hcell
  rw [Nat.add_zero] at hcell2
  have hcap := r.cap
  have hmax := r.max
  unfold maxLen at hmax
  have hnz : ((n : Int) == 0) = false := beq_eq_false_iff_ne.2 (by omega)
  have hnl : decide (m0 < 0) = true := decide_eq_true hneg
  have hq1 : decide (1 < q) = true := decide_eq_true hq
  clear r hk
  go_enter Try.func9, Try.ntmps9
  go_wp2_with fail
  go_ret3
  exact ⟨⟨_, rfl, Owns.nil _ _ _ _⟩, Below.refl _ _⟩
set_option linter.unusedSimpArgs false in
set_option linter.unusedVariables false in
set_option maxRecDepth 100000 in
set_option maxHeartbeats 2000000 in
theorem rn_l (a : Option Addr) (n c : Nat) (x : List Int) (m0 : Int) (w : World) (r : RdAt .u8 w a n c x) (hn : 2 ≤ n) (hk : nth x 0 = 0) (hneg : m0 < 0) :
    Calls Try.prog 9 #[.slice a n c, .int .i64 m0] w fun e w' => (∃ v, e = .returned (.tuple #[v, .int .i64 0, .int .i64 24]) ∧ Owns .u8 5 w' w.heap.size v []) ∧ Below w.heap.size w w' := by
  obtain ⟨b, ad, rfl, hcell⟩ := r.cell 0 (by omega)
  rw [hk] at hcell
  have hcell2 := hcell
  rw [Nat.add_zero] at hcell2
  have hcap := r.cap
  have hmax := r.max
  unfold maxLen at hmax
  have hnz : ((n : Int) == 0) = false := beq_eq_false_iff_ne.2 (by omega)
  have hnl : decide (m0 < 0) = true := decide_eq_true hneg
  have hw1 : IntKind.i64.wrap ((n : Int) - 1) = (n : Int) - 1 := IntWalk.i64_in _ (by omega)
  have hgt : decide (0 < (n : Int) - 1) = true := decide_eq_true (by omega)
  clear r hk
  go_enter Try.func9, Try.ntmps9
  go_wp2_with fail
  go_ret3
  exact ⟨⟨_, rfl, Owns.nil _ _ _ _⟩, Below.refl _ _⟩
set_option linter.unusedSimpArgs false in
set_option linter.unusedVariables false in
set_option maxRecDepth 100000 in
set_option maxHeartbeats 2000000 in
theorem rn_r (a : Option Addr) (n c : Nat) (x : List Int) (m0 : Int) (w : World) (r : RdAt .u8 w a n c x) (hn : n = 1) (hk : nth x 0 = 0) (hneg : m0 < 0) (X : List Int) (hX : x.drop 1 = X) :
    Calls Try.prog 9 #[.slice a n c, .int .i64 m0] w fun e w' => (∃ v, e = .returned (.tuple #[v, .int .i64 0, .int .i64 0]) ∧ Owns .u8 5 w' w.heap.size v X) ∧ Below w.heap.size w w' := by
  subst hn
  obtain ⟨b, ad, rfl, hcell⟩ := r.cell 0 (by omega)
  rw [hk] at hcell
  have hcell2 := hcell
  rw [Nat.add_zero] at hcell2
  have hcap := r.cap
  have hmax := r.max
  unfold maxLen at hmax
  have hnz : (((1 : Nat) : Int) == 0) = false := beq_eq_false_iff_ne.2 (by omega)
  have hnl : decide (m0 < 0) = true := decide_eq_true hneg
  have hif : ∀ (A B : Option Addr), (if c = 1 then A else B) = pk c 1 A B := fun _ _ => rfl
  have r2 := rd_pk r 1 (by omega)
  rw [hX] at r2
  have R2 := Lib.hid r2
  clear r r2 hk hX
  go_enter Try.func9, Try.ntmps9
  go_wp2_with (at_builtin; refine app_all u8T u8I (by decide) rfl (.tmp 36) (.tmp 38) rfl _ w.heap.size _ [] rfl (Owns.empty _ _ _ _ _ _) _ _ _ X rfl (R2.out.below ((Below.refl _ _).alloc (Nat.le_refl _) _)) (by simp) (by simp) ?_; intro x1 w1 ho1 hg0)
  go_ret3
  exact ⟨⟨_, rfl, ho1⟩, hg0.fromEmpty⟩
set_option linter.unusedSimpArgs false in
set_option linter.unusedVariables false in
set_option maxRecDepth 100000 in
set_option maxHeartbeats 2000000 in
theorem rn_p (a : Option Addr) (n c : Nat) (x : List Int) (m0 : Int) (w : World) (r : RdAt .u8 w a n c x) (hn : 1 ≤ n) (hk : nth x 0 = 1) (hneg : m0 < 0) (T : Tok) (hT : toks 0 (n - 1) (x.drop 1) [] 0 0 = T) :
    Calls Try.prog 9 #[.slice a n c, .int .i64 m0] w fun e w' => (∃ v, e = .returned (.tuple #[v, .int .i64 (litT T), .int .i64 T.e]) ∧ Owns .u8 5 w' w.heap.size v (outT T)) ∧ Below w.heap.size w w' := by
  obtain ⟨b, ad, rfl, hcell⟩ := r.cell 0 (by omega)
  rw [hk] at hcell
  have hcell2 := hcell
  rw [Nat.add_zero] at hcell2
  have hcap := r.cap
  have hmax := r.max
  unfold maxLen at hmax
  have hnz : ((n : Int) == 0) = false := beq_eq_false_iff_ne.2 (by omega)
  have hnl : decide (m0 < 0) = true := decide_eq_true hneg
  have hif : ∀ (A B : Option Addr), (if c = 1 then A else B) = pk c 1 A B := fun _ _ => rfl
  have R1 := Lib.hid (rd_pk r 1 (by omega))
  obtain ⟨a1, ha1⟩ : ∃ a1, pk c 1 (some (⟨b, ad, none⟩ : Addr)) (some ⟨b, ad + 1, none⟩) = a1 := ⟨_, rfl⟩
  obtain ⟨x1, hx1'⟩ : ∃ x1, x.drop 1 = x1 := ⟨_, rfl⟩
  obtain ⟨n1, hn1'⟩ : ∃ n1, n - 1 = n1 := ⟨_, rfl⟩
  obtain ⟨c1, hc1'⟩ : ∃ c1, c - 1 = c1 := ⟨_, rfl⟩
  rw [ha1, hx1', hn1', hc1'] at R1
  rw [hx1', hn1'] at hT
  have HTT := Lib.hid hT
  have hx1 := R1.out.len
  clear r hT
  go_enter Try.func9, Try.ntmps9
  go_wp2_with fail
  clear hif ha1 hcell hcell2
  try simp only [hn1', hc1']
  go_loopw [7, 8, 9] (fun vo vl vx wr => vo = .slice none 0 0 ∧ vl = .int .i64 0 ∧ vx = .slice a1 n1 c1 ∧ wr = w) (fun _ _ vx _ => lenOf vx)
  case atStart => exact ⟨rfl, rfl, rfl, rfl⟩
  case round =>
    obtain ⟨rfl, rfl, rfl, rfl⟩ := hrel
    by_cases hn1 : n1 = 0
    · subst hn1
      obtain rfl : x1 = [] := List.length_eq_zero_iff.1 hx1
      have hTv := HTT.out
      rw [toks_nil] at hTv
      subst hTv
      clear HTT
      go_wp2_with fail
      go_ret3
      exact ⟨⟨_, rfl, by unfold outT; rw [if_pos rfl]; exact Owns.nil _ _ _ _⟩, Below.refl _ _⟩
    · have hgz : decide (0 < (n1 : Int)) = true := decide_eq_true (by omega)
      have hcap1 := R1.out.cap
      have hmax1 := R1.out.max
      unfold maxLen at hmax1
      have hg1 : 0 ≤ rvV x1 x1.length := rvV_bd _ _
      have hg2 := rvV_lt x1 x1.length (nth_pos x1 R1.out.wf 9)
      obtain ⟨E1, hE1⟩ : ∃ E1, rvE x1 n1 = E1 := ⟨_, rfl⟩
      by_cases hz1 : E1 = 0
      · subst hz1
        have hp1 := rvN_pos (x := x1) (n := n1) hE1
        have hl1 := rvN_le (x := x1) (n := n1) hE1
        obtain ⟨m1, hm1⟩ := Int.eq_ofNat_of_zero_le (show 0 ≤ rvN x1 n1 by omega)
        rw [hm1] at hp1 hl1
        obtain ⟨b1, ad1, rfl, _⟩ := R1.out.cell 0 (by omega)
        have hif1 : ∀ (A B : Option Addr), (if c1 = m1 then A else B) = pk c1 m1 A B := fun _ _ => rfl
        have hkc1 : m1 ≤ c1 := by omega
        have r2 := rd_pk R1.out m1 (by omega)
        obtain ⟨a2, ha2⟩ : ∃ a2, pk c1 m1 (some (⟨b1, ad1, none⟩ : Addr)) (some ⟨b1, ad1 + m1, none⟩) = a2 := ⟨_, rfl⟩
        obtain ⟨n2, hn2⟩ : ∃ n2, n1 - m1 = n2 := ⟨_, rfl⟩
        obtain ⟨c2, hc2⟩ : ∃ c2, c1 - m1 = c2 := ⟨_, rfl⟩
        rw [ha2, hn2, hc2] at r2
        have hrest : restV x1 = x1.drop m1 := by unfold restV; rw [hx1, hm1]; rfl
        obtain ⟨x2, hx2⟩ : ∃ x2, x1.drop m1 = x2 := ⟨_, rfl⟩
        rw [hx2] at r2 hrest
        obtain ⟨t, ht⟩ : ∃ t, rvV x1 n1 = t := ⟨_, rfl⟩
        have hxl2 := r2.len
        have hcap2 := r2.cap
        have hw9 := r2.wf
        have R2 := Lib.hid r2
        clear r2
        rw [hx1, ht] at hg1 hg2
        have HREST := Lib.hid hrest
        have HE1 := Lib.hid hE1
        have HN1 := Lib.hid hm1
        have HV1 := Lib.hid ht
        have HX1 := Lib.hid hx1
        have HL2 := Lib.hid hxl2
        clear hE1 hm1 ht hx2 hrest hx1 hxl2
        by_cases hk0 : t / 2 = 0
        · have hEE : tokE x1 [] 0 = 22 := by unfold tokE; rw [HX1.out, HE1.out, HV1.out, if_neg (by decide), if_pos hk0]
          have hd1 : t.tdiv 2 = 0 := by rw [Int.tdiv_eq_ediv_of_nonneg hg1]; exact hk0
          have hTv := HTT.out
          rw [toks_bad (by rw [HX1.out]; omega) (by rw [HX1.out]; exact Nat.le_refl _) (by rw [hEE]; decide), hEE] at hTv
          subst hTv
          clear hEE HTT
          go_wp2_with fail
          refine (rreadvar_any _ _ _ x1 _ R1.out).mono ?_
          rintro e wz ⟨hee, rfl⟩
          rw [HE1.out, HV1.out, HN1.out] at hee
          subst hee
          go_wp2_with fail
          go_ret3
          exact ⟨⟨_, by rw [litT_bad _ (show (22 : Int) ≠ 0 by decide)]; rfl, by rw [outT_bad _ (show (22 : Int) ≠ 0 by decide)]; exact Owns.nil _ _ _ _⟩, Below.refl _ _⟩
        · obtain ⟨k, hkk2⟩ := Int.eq_ofNat_of_zero_le (show 0 ≤ t / 2 by omega)
          have hkz : ((k : Int) == 0) = false := beq_eq_false_iff_ne.2 (by omega)
          by_cases hodd : t % 2 = 1
          · obtain rfl : t = 2 * (k : Int) + 1 := by omega
            have hd1 : (2 * (k : Int) + 1).tdiv 2 = k := by rw [Int.tdiv_eq_ediv_of_nonneg hg1]; exact hkk2
            have hd2 : (2 * (k : Int) + 1).tmod 2 = 1 := by rw [Int.tmod_eq_emod_of_nonneg hg1]; exact hodd
            have HODD := Lib.hid hodd
            have HDIV := Lib.hid hkk2
            have hk1 : 1 ≤ k := by omega
            have hkb : (k : Int) ≤ 9223372036854775807 := by omega
            clear hodd hg1 hg2 hkk2
            obtain ⟨E2, hE2⟩ : ∃ E2, rvE x2 n2 = E2 := ⟨_, rfl⟩
            have hg3 := rvV_bd x2 n2
            have hg4 := rvV_lt x2 n2 (nth_pos x2 R2.out.wf 9)
            have HE2 := Lib.hid hE2
            have HG3 := Lib.hid hg3
            have HG4 := Lib.hid hg4
            clear hE2 hg3 hg4
            by_cases hz1 : E2 = 0
            · subst hz1
              have hp2 := rvN_pos (x := x2) (n := n2) HE2.out
              have hl2 := rvN_le (x := x2) (n := n2) HE2.out
              obtain ⟨m2, hm2⟩ := Int.eq_ofNat_of_zero_le (show 0 ≤ rvN x2 n2 by omega)
              rw [hm2] at hp2 hl2
              have hne1 : ¬ c1 = m1 := by omega
              obtain rfl : some (⟨b1, ad1 + m1, none⟩ : Addr) = a2 := by rw [← ha2]; unfold pk; rw [if_neg hne1]
              have hif2 : ∀ (A B : Option Addr), (if c2 = m2 then A else B) = pk c2 m2 A B := fun _ _ => rfl
              have hkc2 : m2 ≤ c2 := by omega
              obtain ⟨d, hd⟩ := Int.eq_ofNat_of_zero_le HG3.out
              have hdb : d ≤ 18446744073709551615 := by have h4 := HG4.out; rw [hd] at h4; omega
              have HV2 := Lib.hid hd
              have HN2 := Lib.hid hm2
              clear hd hm2 HG3 HG4
              have hEE : tokE x1 [] 0 = 22 := by unfold tokE; rw [HX1.out, HE1.out, HV1.out, HREST.out, HL2.out, HE2.out, HV2.out, if_neg (by decide), HDIV.out, if_neg (by omega), if_pos HODD.out, if_neg (by decide), if_pos (by simp only [List.length_nil]; omega)]
              by_cases hd0 : d = 0
              · subst hd0
                have hTv := HTT.out
                rw [toks_bad (by rw [HX1.out]; omega) (by rw [HX1.out]; exact Nat.le_refl _) (by rw [hEE]; decide), hEE] at hTv
                subst hTv
                clear hEE HTT
                go_wp2_with fail
                refine (rreadvar_any _ _ _ x1 _ R1.out).mono ?_
                rintro e wz ⟨hee, rfl⟩
                rw [HE1.out, HV1.out, HN1.out] at hee
                subst hee
                go_wp2_with fail
                refine (rreadvar_any _ _ _ x2 _ R2.out).mono ?_
                rintro e wz ⟨hee, rfl⟩
                rw [HE2.out, HV2.out, HN2.out] at hee
                subst hee
                go_wp2_with fail
                go_ret3
                exact ⟨⟨_, by rw [litT_bad _ (show (22 : Int) ≠ 0 by decide)]; rfl, by rw [outT_bad _ (show (22 : Int) ≠ 0 by decide)]; exact Owns.nil _ _ _ _⟩, Below.refl _ _⟩
              · have hdz : ((d : Int) == 0) = false := beq_eq_false_iff_ne.2 (by omega)
                have hgt : decide ((0 : Int) < d) = true := decide_eq_true (by omega)
                have hgtn : decide (0 < d) = true := decide_eq_true (by omega)
                have hTv := HTT.out
                rw [toks_bad (by rw [HX1.out]; omega) (by rw [HX1.out]; exact Nat.le_refl _) (by rw [hEE]; decide), hEE] at hTv
                subst hTv
                clear hEE HTT
                go_wp2_with fail
                refine (rreadvar_any _ _ _ x1 _ R1.out).mono ?_
                rintro e wz ⟨hee, rfl⟩
                rw [HE1.out, HV1.out, HN1.out] at hee
                subst hee
                go_wp2_with fail
                refine (rreadvar_any _ _ _ x2 _ R2.out).mono ?_
                rintro e wz ⟨hee, rfl⟩
                rw [HE2.out, HV2.out, HN2.out] at hee
                subst hee
                go_wp2_with fail
                go_ret3
                exact ⟨⟨_, by rw [litT_bad _ (show (22 : Int) ≠ 0 by decide)]; rfl, by rw [outT_bad _ (show (22 : Int) ≠ 0 by decide)]; exact Owns.nil _ _ _ _⟩, Below.refl _ _⟩
            · have hEE : tokE x1 [] 0 = E2 := by unfold tokE; rw [HX1.out, HE1.out, HV1.out, HREST.out, HL2.out, HE2.out, if_neg (by decide), HDIV.out, if_neg (by omega), if_pos HODD.out, if_pos hz1]
              have hz2 : (E2 == 0) = false := beq_eq_false_iff_ne.2 hz1
              have hTv := HTT.out
              rw [toks_bad (by rw [HX1.out]; omega) (by rw [HX1.out]; exact Nat.le_refl _) (by rw [hEE]; exact hz1), hEE] at hTv
              subst hTv
              clear hEE HTT
              go_wp2_with fail
              refine (rreadvar_any _ _ _ x1 _ R1.out).mono ?_
              rintro e wz ⟨hee, rfl⟩
              rw [HE1.out, HV1.out, HN1.out] at hee
              subst hee
              go_wp2_with fail
              refine (rreadvar_any _ _ _ x2 _ R2.out).mono ?_
              rintro e wz ⟨hee, rfl⟩
              rw [HE2.out] at hee
              subst hee
              go_wp2_with fail
              go_ret3
              exact ⟨⟨_, by unfold litT; rw [if_neg hz1]; rfl, by unfold outT; rw [if_neg hz1]; exact Owns.nil _ _ _ _⟩, Below.refl _ _⟩
          · obtain rfl : t = 2 * (k : Int) := by omega
            have hd1 : (2 * (k : Int)).tdiv 2 = k := by rw [Int.tdiv_eq_ediv_of_nonneg hg1]; exact hkk2
            have hd2 : (2 * (k : Int)).tmod 2 = 0 := by rw [Int.tmod_eq_emod_of_nonneg hg1]; omega
            have HODD := Lib.hid hodd
            have HDIV := Lib.hid hkk2
            have hk1 : 1 ≤ k := by omega
            have hkb : (k : Int) ≤ 9223372036854775807 := by omega
            clear hodd hg1 hg2 hkk2
            have hEE : tokE x1 [] 0 = 24 := by unfold tokE; rw [HX1.out, HE1.out, HV1.out, HREST.out, HL2.out, if_neg (by decide), HDIV.out, if_neg (by omega), if_neg HODD.out, if_pos (by simp only [List.length_nil]; omega)]
            have hgt : decide ((0 : Int) < k) = true := decide_eq_true (by omega)
            have hgtn : decide (0 < k) = true := decide_eq_true (by omega)
            have hTv := HTT.out
            rw [toks_bad (by rw [HX1.out]; omega) (by rw [HX1.out]; exact Nat.le_refl _) (by rw [hEE]; decide), hEE] at hTv
            subst hTv
            clear hEE HTT
            go_wp2_with fail
            refine (rreadvar_any _ _ _ x1 _ R1.out).mono ?_
            rintro e wz ⟨hee, rfl⟩
            rw [HE1.out, HV1.out, HN1.out] at hee
            subst hee
            go_wp2_with fail
            go_ret3
            exact ⟨⟨_, by rw [litT_bad _ (show (24 : Int) ≠ 0 by decide)]; rfl, by rw [outT_bad _ (show (24 : Int) ≠ 0 by decide)]; exact Owns.nil _ _ _ _⟩, Below.refl _ _⟩
      · have hEE : tokE x1 [] 0 = E1 := by unfold tokE; rw [hx1, hE1, if_pos hz1]
        have hz2 : (E1 == 0) = false := beq_eq_false_iff_ne.2 hz1
        have HE1 := Lib.hid hE1
        have hTv := HTT.out
        rw [toks_bad (by omega) (by rw [hx1]; exact Nat.le_refl _) (by rw [hEE]; exact hz1), hEE] at hTv
        subst hTv
        clear hE1 hEE HTT hx1 hg1 hg2
        go_wp2_with fail
        refine (rreadvar_any _ _ _ x1 _ R1.out).mono ?_
        rintro e wz ⟨hee, rfl⟩
        rw [HE1.out] at hee
        subst hee
        go_wp2_with fail
        go_ret3
        exact ⟨⟨_, by unfold litT; rw [if_neg hz1]; rfl, by unfold outT; rw [if_neg hz1]; exact Owns.nil _ _ _ _⟩, Below.refl _ _⟩
/-- The reference's Unpack, whatever the most is. -/
theorem refunpack_all (a : Option Addr) (n c : Nat) (x : List Int) (m0 M : Int) (w : World) (r : RdAt .u8 w a n c x) (hM : max m0 0 = M) (hmm : m0 ≤ 2097152) :
    Calls Try.prog 9 #[.slice a n c, .int .i64 m0] w fun e w' => (∃ v, e = .returned (.tuple #[v, .int .i64 (litT (allT M x)), .int .i64 (allT M x).e]) ∧ Owns .u8 5 w' w.heap.size v (outT (allT M x))) ∧ Below w.heap.size w w' := by
  by_cases h0 : 0 ≤ m0
  · obtain rfl : m0 = M := by omega
    exact refunpack_any a n c x m0 w r h0 hmm
  · obtain rfl : M = 0 := by omega
    have hneg : m0 < 0 := by omega
    have hlen := r.len
    by_cases h0 : n = 0
    · subst h0
      have hT : allT 0 x = ⟨21, x, [], 0, 0⟩ := by unfold allT; rw [if_pos hlen]
      rw [hT]
      exact rn_e a c m0 w hneg
    · by_cases hk : nth x 0 = 0
      · by_cases hm : 0 < ((x.length - 1 : Nat) : Int)
        · have hT : allT 0 x = ⟨24, x, [], 0, 0⟩ := by unfold allT; rw [if_neg (by omega), if_pos hk, if_pos hm]
          rw [hT]
          exact rn_l a n c x m0 w r (by omega) hk hneg
        · have hT : allT 0 x = ⟨0, [], x.drop 1, 0, 0⟩ := by unfold allT; rw [if_neg (by omega), if_pos hk, if_neg hm, show x.length - 1 = 0 by omega]; rfl
          rw [hT]
          exact rn_r a n c x m0 w r (by omega) hk hneg _ rfl
      · by_cases hk1 : nth x 0 = 1
        · have hT : allT 0 x = toks 0 (n - 1) (x.drop 1) [] 0 0 := by unfold allT; rw [if_neg (by omega), if_neg hk, if_pos hk1, hlen]
          exact rn_p a n c x m0 w r (by omega) hk1 hneg _ hT.symm
        · have hT : allT 0 x = ⟨22, x, [], 0, 0⟩ := by unfold allT; rw [if_neg (by omega), if_neg hk, if_neg hk1]
          rw [hT]
          have h9 := nth_pos x r.wf 0
          exact rn_o a n c x m0 _ w r (by omega) rfl (by omega) hneg
end Go.Proofs.Ytfoabnoolmeoiaa
