/- The reference's Unpack: what it answers for packed bytes. -/
import Derived.Test.YtfoabnoolmeoiaaLzAll
import Derived.Test.YtfoabnoolmeoiaaRReadVar
namespace Go.Proofs.Ytfoabnoolmeoiaa
open Go.RowKit
def pk {α : Type} (c k : Nat) (A B : α) : α := if c = k then A else B
theorem rd_pk {kd : IntKind} {w : World} {b o n c : Nat} {l : List Int} (h : RdAt kd w (some ⟨b, o, none⟩) n c l) (k : Nat) (hk : k ≤ n) : RdAt kd w (pk c k (some ⟨b, o, none⟩) (some ⟨b, o + k, none⟩)) (n - k) (c - k) (l.drop k) := by
  unfold pk
  by_cases hc : c = k
  · rw [if_pos hc]
    have hcap := h.cap
    have hmax := h.max
    have hl := h.len
    rw [show n - k = 0 by omega, show c - k = 0 by omega, List.drop_of_length_le (by omega)]
    exact ⟨rfl, Nat.le_refl _, by unfold maxLen; omega, fun i hi => by omega, by simp, fun h => by cases h⟩
  · rw [if_neg hc]
    exact rd_drop h k hk
theorem wz_drop {w : World} {a : Option Addr} {n c : Nat} {l : List Int} (h : RdAt .u8 w a n c l) (k : Nat) : ∀ y ∈ l.drop k, (Lit.int .u8 y).wf = true := fun y hy => h.wf y (List.mem_of_mem_drop hy)
def lenOf : Value → Nat
  | .slice _ n _ => n
  | _ => 0
/-- How many bytes came by literals: none where there is an error. -/
def litT (T : Tok) : Int := if T.e = 0 then T.lit else 0
theorem litT_bad (T : Tok) (h : T.e ≠ 0) : litT T = 0 := if_neg h
theorem outT_bad (T : Tok) (h : T.e ≠ 0) : outT T = [] := if_neg h
set_option linter.unusedSimpArgs false in
set_option linter.unusedVariables false in
set_option maxRecDepth 100000 in
set_option maxHeartbeats 4000000 in
theorem rl_p (a : Option Addr) (n c : Nat) (x : List Int) (M : Int) (w : World) (r : RdAt .u8 w a n c x) (hn : 1 ≤ n) (hk : nth x 0 = 1) (hm0 : 0 ≤ M) (hmm : M ≤ 2097152) (T : Tok) (hT : toks M (n - 1) (x.drop 1) [] 0 0 = T) :
    Calls Try.prog 9 #[.slice a n c, .int .i64 M] w fun e w' => (∃ v, e = .returned (.tuple #[v, .int .i64 (litT T), .int .i64 T.e]) ∧ Owns .u8 5 w' w.heap.size v (outT T)) ∧ Below w.heap.size w w' := by
  obtain ⟨b, ad, rfl, hcell⟩ := r.cell 0 (by omega)
  rw [hk] at hcell
  have hcell2 := hcell
  rw [Nat.add_zero] at hcell2
  have hcap := r.cap
  have hmax := r.max
  unfold maxLen at hmax
  have hnz : ((n : Int) == 0) = false := beq_eq_false_iff_ne.2 (by omega)
  have hnl : decide (M < 0) = false := decide_eq_false (by omega)
  have hif : ∀ (A B : Option Addr), (if c = 1 then A else B) = pk c 1 A B := fun _ _ => rfl
  have R1 := Lib.hid (rd_pk r 1 (by omega))
  obtain ⟨a1, ha1⟩ : ∃ a1, pk c 1 (some (⟨b, ad, none⟩ : Addr)) (some ⟨b, ad + 1, none⟩) = a1 := ⟨_, rfl⟩
  rw [ha1] at R1
  have HT := Lib.hid hT
  clear r hT
  go_enter Try.func9, Try.ntmps9
  go_wp2_with fail
  clear hif ha1 hcell hcell2
  go_loopw [7, 8, 9] (fun vo vl vx wr => ∃ (f n' c' : Nat) (a' : Option Addr) (x' o' : List Int) (l' k' : Int), vx = .slice a' n' c' ∧ vl = .int .i64 l' ∧ RdAt .u8 w a' n' c' x' ∧ Owns .u8 5 wr w.heap.size vo o' ∧ x'.length ≤ f ∧ Hid (toks M f x' o' l' k' = T) ∧ (o'.length : Int) ≤ M ∧ 0 ≤ l' ∧ 0 ≤ k' ∧ l' + k' = o'.length ∧ Below w.heap.size w wr) (fun _ _ vx _ => lenOf vx)
  case atStart => exact ⟨_, _, _, _, _, _, _, _, rfl, rfl, R1.out, Owns.nil _ _ _ _, (by rw [R1.out.len]; omega), HT, (by simpa using hm0), by omega, by omega, rfl, Below.refl _ _⟩
  case round =>
    clear R1 HT
    obtain ⟨f, n1, c1, a1, x1, o1, l1, k1, rfl, rfl, r1, own, hf, HTT, ho, hl, hkk, hs, hb⟩ := hrel
    have hx1 := r1.len
    obtain ⟨q, hq⟩ : ∃ q, o1.length = q := ⟨_, rfl⟩
    have HQ := Lib.hid hq
    obtain ⟨av, cv, rfl⟩ := own.shapeN q HQ.out
    have OWN := Lib.hid own
    rw [hq] at ho hs
    clear hq own
    by_cases hn1 : n1 = 0
    · subst hn1
      obtain rfl : x1 = [] := List.length_eq_zero_iff.1 hx1
      have hTv := HTT.out
      rw [toks_nil] at hTv
      subst hTv
      clear HTT
      go_wp2_with fail
      go_ret3
      exact ⟨⟨_, rfl, by unfold outT; rw [if_pos rfl]; exact OWN.out⟩, hb⟩
    · have hgz : decide (0 < (n1 : Int)) = true := decide_eq_true (by omega)
      have hcap1 := r1.cap
      have hmax1 := r1.max
      unfold maxLen at hmax1
      have R1 := Lib.hid r1
      clear r1
      have hg1 : 0 ≤ rvV x1 x1.length := rvV_bd _ _
      have hg2 := rvV_lt x1 x1.length (nth_pos x1 R1.out.wf 9)
      obtain ⟨E1, hE1⟩ : ∃ E1, rvE x1 n1 = E1 := ⟨_, rfl⟩
      by_cases hz1 : E1 = 0
      · subst hz1
        have hp1 := rvN_pos (x := x1) (n := n1) hE1
        have hl1 := rvN_le (x := x1) (n := n1) hE1
        obtain ⟨m1, hm1⟩ := Int.eq_ofNat_of_zero_le (show 0 ≤ rvN x1 n1 by omega)
        rw [hm1] at hp1 hl1
        obtain ⟨b1, ad1, rfl, _⟩ := R1.out.cell 0 (by omega)
        have hif1 : ∀ (A B : Option Addr), (if c1 = m1 then A else B) = pk c1 m1 A B := fun _ _ => rfl
        have hkc1 : m1 ≤ c1 := by omega
        have r2 := rd_pk R1.out m1 (by omega)
        obtain ⟨a2, ha2⟩ : ∃ a2, pk c1 m1 (some (⟨b1, ad1, none⟩ : Addr)) (some ⟨b1, ad1 + m1, none⟩) = a2 := ⟨_, rfl⟩
        obtain ⟨n2, hn2⟩ : ∃ n2, n1 - m1 = n2 := ⟨_, rfl⟩
        obtain ⟨c2, hc2⟩ : ∃ c2, c1 - m1 = c2 := ⟨_, rfl⟩
        rw [ha2, hn2, hc2] at r2
        have hrest : restV x1 = x1.drop m1 := by unfold restV; rw [hx1, hm1]; rfl
        obtain ⟨x2, hx2⟩ : ∃ x2, x1.drop m1 = x2 := ⟨_, rfl⟩
        rw [hx2] at r2 hrest
        obtain ⟨t, ht⟩ : ∃ t, rvV x1 n1 = t := ⟨_, rfl⟩
        have hxl2 := r2.len
        have hcap2 := r2.cap
        have hw9 := r2.wf
        have R2 := Lib.hid r2
        clear r2
        rw [hx1, ht] at hg1 hg2
        have HREST := Lib.hid hrest
        have HE1 := Lib.hid hE1
        have HN1 := Lib.hid hm1
        have HV1 := Lib.hid ht
        have HX1 := Lib.hid hx1
        have HL2 := Lib.hid hxl2
        clear hE1 hm1 ht hx2 hrest hx1 hxl2
        by_cases hk0 : t / 2 = 0
        · have hEE : tokE x1 o1 M = 22 := by unfold tokE; rw [HX1.out, HE1.out, HV1.out, if_neg (by decide), if_pos hk0]
          have hd1 : t.tdiv 2 = 0 := by rw [Int.tdiv_eq_ediv_of_nonneg hg1]; exact hk0
          have hTv := HTT.out
          rw [toks_bad (by rw [HX1.out]; omega) hf (by rw [hEE]; decide), hEE] at hTv
          subst hTv
          clear hEE HTT
          go_wp2_with fail
          refine (rreadvar_any _ _ _ x1 _ (R1.out.below hb)).mono ?_
          rintro e wz ⟨hee, rfl⟩
          rw [HE1.out, HV1.out, HN1.out] at hee
          subst hee
          go_wp2_with fail
          go_ret3
          exact ⟨⟨_, by rw [litT_bad _ (show (22 : Int) ≠ 0 by decide)]; rfl, by rw [outT_bad _ (show (22 : Int) ≠ 0 by decide)]; exact Owns.nil _ _ _ _⟩, hb⟩
        · obtain ⟨k, hkk2⟩ := Int.eq_ofNat_of_zero_le (show 0 ≤ t / 2 by omega)
          have hkz : ((k : Int) == 0) = false := beq_eq_false_iff_ne.2 (by omega)
          by_cases hodd : t % 2 = 1
          · obtain rfl : t = 2 * (k : Int) + 1 := by omega
            have hd1 : (2 * (k : Int) + 1).tdiv 2 = k := by rw [Int.tdiv_eq_ediv_of_nonneg hg1]; exact hkk2
            have hd2 : (2 * (k : Int) + 1).tmod 2 = 1 := by rw [Int.tmod_eq_emod_of_nonneg hg1]; exact hodd
            have HODD := Lib.hid hodd
            have HDIV := Lib.hid hkk2
            have hk1 : 1 ≤ k := by omega
            have hkb : (k : Int) ≤ 9223372036854775807 := by omega
            clear hodd hg1 hg2 hkk2
            obtain ⟨E2, hE2⟩ : ∃ E2, rvE x2 n2 = E2 := ⟨_, rfl⟩
            have hg3 := rvV_bd x2 n2
            have hg4 := rvV_lt x2 n2 (nth_pos x2 R2.out.wf 9)
            have HE2 := Lib.hid hE2
            have HG3 := Lib.hid hg3
            have HG4 := Lib.hid hg4
            clear hE2 hg3 hg4
            by_cases hz1 : E2 = 0
            · subst hz1
              have hp2 := rvN_pos (x := x2) (n := n2) HE2.out
              have hl2 := rvN_le (x := x2) (n := n2) HE2.out
              obtain ⟨m2, hm2⟩ := Int.eq_ofNat_of_zero_le (show 0 ≤ rvN x2 n2 by omega)
              rw [hm2] at hp2 hl2
              have hne1 : ¬ c1 = m1 := by omega
              obtain rfl : some (⟨b1, ad1 + m1, none⟩ : Addr) = a2 := by rw [← ha2]; unfold pk; rw [if_neg hne1]
              have hif2 : ∀ (A B : Option Addr), (if c2 = m2 then A else B) = pk c2 m2 A B := fun _ _ => rfl
              have hkc2 : m2 ≤ c2 := by omega
              have r3 := rd_pk R2.out m2 (by omega)
              obtain ⟨a3, ha3⟩ : ∃ a3, pk c2 m2 (some (⟨b1, ad1 + m1, none⟩ : Addr)) (some ⟨b1, ad1 + m1 + m2, none⟩) = a3 := ⟨_, rfl⟩
              obtain ⟨n3, hn3⟩ : ∃ n3, n2 - m2 = n3 := ⟨_, rfl⟩
              obtain ⟨c3, hc3⟩ : ∃ c3, c2 - m2 = c3 := ⟨_, rfl⟩
              obtain ⟨x3, hx3⟩ : ∃ x3, x2.drop m2 = x3 := ⟨_, rfl⟩
              rw [ha3, hn3, hc3, hx3] at r3
              have R3 := Lib.hid r3
              have HX3 := Lib.hid hx3
              obtain ⟨d, hd⟩ := Int.eq_ofNat_of_zero_le HG3.out
              have hdb : d ≤ 18446744073709551615 := by have h4 := HG4.out; rw [hd] at h4; omega
              have HV2 := Lib.hid hd
              have HN2 := Lib.hid hm2
              have hxl3 := r3.len
              have HL3 := Lib.hid hxl3
              clear r3 hd hm2 hx3 hxl3 HG3 HG4
              have hw1 : IntKind.i64.wrap (M - q) = M - q := IntWalk.i64_in _ (by omega)
              have hw2 : IntKind.u64.wrap (M - q) = M - q := by rw [IntKind.wrap_u64]; omega
              by_cases hd0 : d = 0
              · have hEE : tokE x1 o1 M = 22 := by unfold tokE; rw [HX1.out, HE1.out, HV1.out, HREST.out, HL2.out, HE2.out, HV2.out, if_neg (by decide), HDIV.out, if_neg (by omega), if_pos HODD.out, if_neg (by decide), if_pos (.inl (by omega))]
                subst hd0
                have hTv := HTT.out
                rw [toks_bad (by rw [HX1.out]; omega) hf (by rw [hEE]; decide), hEE] at hTv
                subst hTv
                clear hEE HTT
                go_wp2_with fail
                refine (rreadvar_any _ _ _ x1 _ (R1.out.below hb)).mono ?_
                rintro e wz ⟨hee, rfl⟩
                rw [HE1.out, HV1.out, HN1.out] at hee
                subst hee
                go_wp2_with fail
                refine (rreadvar_any _ _ _ x2 _ (R2.out.below hb)).mono ?_
                rintro e wz ⟨hee, rfl⟩
                rw [HE2.out, HV2.out, HN2.out] at hee
                subst hee
                go_wp2_with fail
                go_ret3
                exact ⟨⟨_, by rw [litT_bad _ (show (22 : Int) ≠ 0 by decide)]; rfl, by rw [outT_bad _ (show (22 : Int) ≠ 0 by decide)]; exact Owns.nil _ _ _ _⟩, hb⟩
              · have hdz : ((d : Int) == 0) = false := beq_eq_false_iff_ne.2 (by omega)
                by_cases hdq : q < d
                · have hEE : tokE x1 o1 M = 22 := by unfold tokE; rw [HX1.out, HE1.out, HV1.out, HREST.out, HL2.out, HE2.out, HV2.out, if_neg (by decide), HDIV.out, if_neg (by omega), if_pos HODD.out, if_neg (by decide), if_pos (.inr (by rw [HQ.out]; omega))]
                  have hgt : decide ((q : Int) < d) = true := decide_eq_true (by omega)
                  have hgtn : decide (q < d) = true := decide_eq_true (by omega)
                  have hTv := HTT.out
                  rw [toks_bad (by rw [HX1.out]; omega) hf (by rw [hEE]; decide), hEE] at hTv
                  subst hTv
                  clear hEE HTT
                  go_wp2_with fail
                  refine (rreadvar_any _ _ _ x1 _ (R1.out.below hb)).mono ?_
                  rintro e wz ⟨hee, rfl⟩
                  rw [HE1.out, HV1.out, HN1.out] at hee
                  subst hee
                  go_wp2_with fail
                  refine (rreadvar_any _ _ _ x2 _ (R2.out.below hb)).mono ?_
                  rintro e wz ⟨hee, rfl⟩
                  rw [HE2.out, HV2.out, HN2.out] at hee
                  subst hee
                  go_wp2_with fail
                  go_ret3
                  exact ⟨⟨_, by rw [litT_bad _ (show (22 : Int) ≠ 0 by decide)]; rfl, by rw [outT_bad _ (show (22 : Int) ≠ 0 by decide)]; exact Owns.nil _ _ _ _⟩, hb⟩
                · have hgt : decide ((q : Int) < d) = false := decide_eq_false (by omega)
                  have hgtn : decide (q < d) = false := decide_eq_false (by omega)
                  by_cases hm : M - (q : Int) < k
                  · have hEE : tokE x1 o1 M = 24 := by unfold tokE; rw [HX1.out, HE1.out, HV1.out, HREST.out, HL2.out, HE2.out, HV2.out, if_neg (by decide), HDIV.out, if_neg (by omega), if_pos HODD.out, if_neg (by decide), if_neg (by rw [HQ.out]; omega), HQ.out, if_pos hm]
                    have hgt2 : decide (M - (q : Int) < k) = true := decide_eq_true hm
                    have hTv := HTT.out
                    rw [toks_bad (by rw [HX1.out]; omega) hf (by rw [hEE]; decide), hEE] at hTv
                    subst hTv
                    clear hEE HTT
                    go_wp2_with fail
                    refine (rreadvar_any _ _ _ x1 _ (R1.out.below hb)).mono ?_
                    rintro e wz ⟨hee, rfl⟩
                    rw [HE1.out, HV1.out, HN1.out] at hee
                    subst hee
                    go_wp2_with fail
                    refine (rreadvar_any _ _ _ x2 _ (R2.out.below hb)).mono ?_
                    rintro e wz ⟨hee, rfl⟩
                    rw [HE2.out, HV2.out, HN2.out] at hee
                    subst hee
                    go_wp2_with fail
                    go_ret3
                    exact ⟨⟨_, by rw [litT_bad _ (show (24 : Int) ≠ 0 by decide)]; rfl, by rw [outT_bad _ (show (24 : Int) ≠ 0 by decide)]; exact Owns.nil _ _ _ _⟩, hb⟩
                  · have hEE : tokE x1 o1 M = 0 := by unfold tokE; rw [HX1.out, HE1.out, HV1.out, HREST.out, HL2.out, HE2.out, HV2.out, if_neg (by decide), HDIV.out, if_neg (by omega), if_pos HODD.out, if_neg (by decide), if_neg (by rw [HQ.out]; omega), HQ.out, if_neg hm]
                    have hgt2 : decide (M - (q : Int) < k) = false := decide_eq_false hm
                    obtain ⟨f, rfl⟩ : ∃ f', f = f' + 1 := ⟨f - 1, by have h9 := HX1.out; omega⟩
                    have hTv := HTT.out
                    have e1 : tokX x1 = x3 := by unfold tokX; rw [HX1.out, HV1.out, if_pos HODD.out, HREST.out]; unfold restV; rw [HL2.out, HN2.out]; exact HX3.out
                    have e2 : tokO x1 o1 = copyN o1 d k := by unfold tokO; rw [HX1.out, HV1.out, if_pos HODD.out, HREST.out, HL2.out, HV2.out, HDIV.out]; rfl
                    have e3 : tokL x1 = 0 := by unfold tokL; rw [HX1.out, HV1.out, if_pos HODD.out]
                    have e4 : tokC x1 = k := by unfold tokC; rw [HX1.out, HV1.out, if_pos HODD.out, HDIV.out]
                    rw [toks_good (by rw [HX1.out]; omega) hEE, e1, e2, e3, e4, Int.add_zero] at hTv
                    have HT2 := Lib.hid hTv
                    have HK : Hid (q ≤ M ∧ (q : Int) + k ≤ M ∧ n3 < n1) := ⟨ho, by omega, by omega⟩
                    clear hTv hEE e1 e2 e3 e4 HTT
                    go_wp2_with fail
                    refine (rreadvar_any _ _ _ x1 _ (R1.out.below hb)).mono ?_
                    rintro e wz ⟨hee, rfl⟩
                    rw [HE1.out, HV1.out, HN1.out] at hee
                    subst hee
                    go_wp2_with fail
                    refine (rreadvar_any _ _ _ x2 _ (R2.out.below hb)).mono ?_
                    rintro e wz ⟨hee, rfl⟩
                    rw [HE2.out, HV2.out, HN2.out] at hee
                    subst hee
                    go_wp2_with fail
                    clear hif1 hif2 hw1 hw2 hgt hgtn hgt2 ha2 ha3 hd1 hd2
                    go_loopw [7, 17] (fun vo i wq => ∃ j : Nat, j ≤ k ∧ i = .int .u64 j ∧ Owns .u8 5 wq w.heap.size vo (copyN o1 d j) ∧ Below w.heap.size w wq) (fun _ i _ => k - (intOf i).toNat)
                    case atStart => exact ⟨0, by omega, rfl, OWN.out, hb⟩
                    case round =>
                      clear hb OWN
                      obtain ⟨j, hj, rfl, own, hb⟩ := hrel
                      by_cases hp : j < k
                      · have HC : Hid (copyN o1 d (j + 1) = copyN o1 d j ++ [nth (copyN o1 d j) ((copyN o1 d j).length - d)]) := by show _ = _; rfl
                        have hlen := copyN_len o1 d j
                        generalize copyN o1 d j = o at *
                        obtain ⟨q9, hq9⟩ : ∃ q9, o.length = q9 := ⟨_, rfl⟩
                        rw [hq9, HQ.out] at hlen
                        have HQ9 := Lib.hid hq9
                        clear hq9
                        have hql : q ≤ q9 ∧ q9 < q + k := by omega
                        obtain ⟨hql1, hql2⟩ := hql
                        obtain ⟨av9, cv9, rfl⟩ := own.shapeN q9 HQ9.out
                        obtain ⟨g, rfl, _, _, hcell, _⟩ := own.cellAt (q9 - d) (by rw [HQ9.out]; omega)
                        have OWN := Lib.hid own
                        clear own hlen
                        have hwd : IntKind.i64.wrap (d : Int) = d := IntWalk.i64_in _ (by omega)
                        have hws : IntKind.i64.wrap ((q9 : Int) - d) = ((q9 - d : Nat) : Int) := by rw [IntWalk.i64_in _ (by omega)]; omega
                        have hqi : q9 - d < q9 := by omega
                        have hqw : (Lit.int .u8 (nth o (q9 - d))).wf = true := OWN.out.1 _ (by rw [nth_eq (by rw [HQ9.out]; omega)]; exact List.getElem_mem _)
                        have hsz := hb.size
                        go_wp2_with (at_builtin; refine app_one u8T u8I (by decide) rfl _ _ rfl _ w.heap.size _ o rfl OWN.out _ rfl hqw (by rw [HQ9.out]; omega) (by omega) ?_; intro y2 w2 ho2 hg2)
                        have hb2 : Below w.heap.size w w2 := hb.trans (hg2.below hsz (fun g hg => (OWN.out.at_base g hg).1))
                        have hju : IntKind.u64.wrap ((j : Int) + 1) = ((j + 1 : Nat) : Int) := by rw [IntKind.wrap_u64]; omega
                        go_roundw
                        case rel => exact ⟨j + 1, by omega, by first | rw [hju] | simp only [hju] | rfl, by rw [HC.out, HQ9.out]; exact ho2, hb2⟩
                        case measure => simp only [intOf]; omega
                      · obtain rfl : j = k := by omega
                        have OWN := Lib.hid own
                        clear own
                        have hcl := copyN_len o1 d j
                        rw [HQ.out] at hcl
                        go_wp2_with fail
                        go_roundw
                        case rel => exact ⟨f, _, _, _, _, _, _, _, rfl, rfl, R3.out, OWN.out, (by rw [HL3.out]; have h7 := HX1.out; have h8 := HK.out; omega), HT2, by rw [hcl]; have h8 := HK.out; omega, hl, by omega, by rw [hcl]; omega, hb⟩
                        case measure => show n3 < n1; exact HK.out.2.2
            · have hEE : tokE x1 o1 M = E2 := by unfold tokE; rw [HX1.out, HE1.out, HV1.out, HREST.out, HL2.out, HE2.out, if_neg (by decide), HDIV.out, if_neg (by omega), if_pos HODD.out, if_pos hz1]
              have hz2 : (E2 == 0) = false := beq_eq_false_iff_ne.2 hz1
              have hTv := HTT.out
              rw [toks_bad (by rw [HX1.out]; omega) hf (by rw [hEE]; exact hz1), hEE] at hTv
              subst hTv
              clear hEE HTT
              go_wp2_with fail
              refine (rreadvar_any _ _ _ x1 _ (R1.out.below hb)).mono ?_
              rintro e wz ⟨hee, rfl⟩
              rw [HE1.out, HV1.out, HN1.out] at hee
              subst hee
              go_wp2_with fail
              refine (rreadvar_any _ _ _ x2 _ (R2.out.below hb)).mono ?_
              rintro e wz ⟨hee, rfl⟩
              rw [HE2.out] at hee
              subst hee
              go_wp2_with fail
              go_ret3
              exact ⟨⟨_, by unfold litT; rw [if_neg hz1]; rfl, by unfold outT; rw [if_neg hz1]; exact Owns.nil _ _ _ _⟩, hb⟩
          · obtain rfl : t = 2 * (k : Int) := by omega
            have hd1 : (2 * (k : Int)).tdiv 2 = k := by rw [Int.tdiv_eq_ediv_of_nonneg hg1]; exact hkk2
            have hd2 : (2 * (k : Int)).tmod 2 = 0 := by rw [Int.tmod_eq_emod_of_nonneg hg1]; omega
            have HODD := Lib.hid hodd
            have HDIV := Lib.hid hkk2
            have hk1 : 1 ≤ k := by omega
            have hkb : (k : Int) ≤ 9223372036854775807 := by omega
            clear hodd hg1 hg2 hkk2
            have hw1 : IntKind.i64.wrap (M - q) = M - q := IntWalk.i64_in _ (by omega)
            have hw2 : IntKind.u64.wrap (M - q) = M - q := by rw [IntKind.wrap_u64]; omega
            by_cases hm : M - (q : Int) < k
            · have hEE : tokE x1 o1 M = 24 := by unfold tokE; rw [HX1.out, HE1.out, HV1.out, HREST.out, HL2.out, if_neg (by decide), HDIV.out, if_neg (by omega), if_neg HODD.out, HQ.out, if_pos hm]
              have hgt2 : decide (M - (q : Int) < k) = true := decide_eq_true hm
              have hTv := HTT.out
              rw [toks_bad (by rw [HX1.out]; omega) hf (by rw [hEE]; decide), hEE] at hTv
              subst hTv
              clear hEE HTT
              go_wp2_with fail
              refine (rreadvar_any _ _ _ x1 _ (R1.out.below hb)).mono ?_
              rintro e wz ⟨hee, rfl⟩
              rw [HE1.out, HV1.out, HN1.out] at hee
              subst hee
              go_wp2_with fail
              go_ret3
              exact ⟨⟨_, by rw [litT_bad _ (show (24 : Int) ≠ 0 by decide)]; rfl, by rw [outT_bad _ (show (24 : Int) ≠ 0 by decide)]; exact Owns.nil _ _ _ _⟩, hb⟩
            · have hgt2 : decide (M - (q : Int) < k) = false := decide_eq_false hm
              by_cases hsn : n2 < k
              · have hEE : tokE x1 o1 M = 21 := by unfold tokE; rw [HX1.out, HE1.out, HV1.out, HREST.out, HL2.out, if_neg (by decide), HDIV.out, if_neg (by omega), if_neg HODD.out, HQ.out, if_neg hm, if_pos (by omega)]
                have hgt3 : decide ((n2 : Int) < k) = true := decide_eq_true (by omega)
                have hgt4 : decide (n2 < k) = true := decide_eq_true (by omega)
                have hTv := HTT.out
                rw [toks_bad (by rw [HX1.out]; omega) hf (by rw [hEE]; decide), hEE] at hTv
                subst hTv
                clear hEE HTT
                go_wp2_with fail
                refine (rreadvar_any _ _ _ x1 _ (R1.out.below hb)).mono ?_
                rintro e wz ⟨hee, rfl⟩
                rw [HE1.out, HV1.out, HN1.out] at hee
                subst hee
                go_wp2_with fail
                go_ret3
                exact ⟨⟨_, by rw [litT_bad _ (show (21 : Int) ≠ 0 by decide)]; rfl, by rw [outT_bad _ (show (21 : Int) ≠ 0 by decide)]; exact Owns.nil _ _ _ _⟩, hb⟩
              · have hgt3 : decide ((n2 : Int) < k) = false := decide_eq_false (by omega)
                have hgt4 : decide (n2 < k) = false := decide_eq_false (by omega)
                have hEE : tokE x1 o1 M = 0 := by unfold tokE; rw [HX1.out, HE1.out, HV1.out, HREST.out, HL2.out, if_neg (by decide), HDIV.out, if_neg (by omega), if_neg HODD.out, HQ.out, if_neg hm, if_neg (by omega)]
                obtain ⟨f, rfl⟩ : ∃ f', f = f' + 1 := ⟨f - 1, by have h9 := HX1.out; omega⟩
                have hTv := HTT.out
                have e1 : tokX x1 = x2.drop k := by unfold tokX; rw [HX1.out, HV1.out, if_neg HODD.out, HREST.out, HDIV.out]; rfl
                have e2 : tokO x1 o1 = o1 ++ x2.take k := by unfold tokO; rw [HX1.out, HV1.out, if_neg HODD.out, HREST.out, HDIV.out]; rfl
                have e3 : tokL x1 = k := by unfold tokL; rw [HX1.out, HV1.out, if_neg HODD.out, HDIV.out]
                have e4 : tokC x1 = 0 := by unfold tokC; rw [HX1.out, HV1.out, if_neg HODD.out]
                rw [toks_good (by rw [HX1.out]; omega) hEE, e1, e2, e3, e4, Int.add_zero] at hTv
                have HT2 := Lib.hid hTv
                clear hTv hEE e1 e2 e3 e4 HTT
                have hne1 : ¬ c1 = m1 := by omega
                obtain rfl : some (⟨b1, ad1 + m1, none⟩ : Addr) = a2 := by rw [← ha2]; unfold pk; rw [if_neg hne1]
                have hif2 : ∀ (A B : Option Addr), (if c2 = k then A else B) = pk c2 k A B := fun _ _ => rfl
                have hkc2 : k ≤ c2 := by omega
                have R3 := Lib.hid (rd_pk R2.out k (by omega))
                have hsz := hb.size
                have hlw : IntKind.i64.wrap (l1 + k) = l1 + k := IntWalk.i64_in _ (by omega)
                have hkw : IntKind.i64.wrap (k : Int) = k := IntWalk.i64_in _ (by omega)
                have HLT := Lib.hid (show (x2.take k).length = k by rw [List.length_take, HL2.out]; omega)
                go_wp2_with fail
                refine (rreadvar_any _ _ _ x1 _ (R1.out.below hb)).mono ?_
                rintro e wz ⟨hee, rfl⟩
                rw [HE1.out, HV1.out, HN1.out] at hee
                subst hee
                go_wp2_with (at_builtin; refine app_all u8T u8I (by decide) rfl (.tmp 123) (.tmp 126) rfl _ w.heap.size (.slice av q cv) o1 rfl OWN.out (some ⟨b1, ad1 + m1, none⟩) k c2 (x2.take k) rfl (rd_take (R2.out.below hb) k c2 (by omega) (by omega) (Nat.le_refl _) (by intro h; cases h)) (by rw [HQ.out]; omega) hsz ?_; intro y2 w2 ho2 hg2)
                have hb2 : Below w.heap.size w w2 := hb.trans (hg2.below hsz (fun g hg => (OWN.out.at_base g hg).1))
                go_roundw
                case rel => exact ⟨f, _, _, _, _, _, _, _, rfl, rfl, R3.out, ho2, (by rw [R3.out.len]; have h7 := HX1.out; omega), HT2, by rw [List.length_append, HLT.out, HQ.out]; omega, by omega, hkk, by rw [List.length_append, HLT.out, HQ.out]; omega, hb2⟩
                case measure => show n2 - k < n1; omega
      · have hEE : tokE x1 o1 M = E1 := by unfold tokE; rw [hx1, hE1, if_pos hz1]
        have hz2 : (E1 == 0) = false := beq_eq_false_iff_ne.2 hz1
        have HE1 := Lib.hid hE1
        have hTv := HTT.out
        rw [toks_bad (by omega) hf (by rw [hEE]; exact hz1), hEE] at hTv
        subst hTv
        clear hE1 hEE HTT hx1 hg1 hg2
        go_wp2_with (go_at_call 14; refine (rreadvar_any _ _ _ x1 _ (R1.out.below hb)).mono ?_; rintro e wz ⟨hee, rfl⟩; rw [HE1.out] at hee; subst hee)
        go_ret3
        exact ⟨⟨_, by unfold litT; rw [if_neg hz1]; rfl, by unfold outT; rw [if_neg hz1]; exact Owns.nil _ _ _ _⟩, hb⟩
end Go.Proofs.Ytfoabnoolmeoiaa

