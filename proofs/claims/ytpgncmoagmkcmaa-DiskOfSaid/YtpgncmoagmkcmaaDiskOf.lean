/- disk: any bytes as a disk's. -/
import Derived.Test.YtpgncmoagmkcmaaDkSame
namespace Go.Proofs.Ytpgncmoagmkcmaa
open Go.RowKit
theorem rdLow {kd : IntKind} {w w' : World} {X : Nat} {a : Option Addr} {n c : Nat} {l : List Int} (h : RdAt kd w a n c l) (low : ∀ q, a = some q → 0 < n → q.block < X) (b : Below X w w') : RdAt kd w' a n c l :=
  ⟨h.len, h.cap, h.max, fun i hi => by
    obtain ⟨g, o, e, hc⟩ := h.cell i hi
    exact ⟨g, o, e, by rw [← hc]; exact World.cell?_of_block (a := ⟨g, o + i, none⟩) (b.block g (low _ e (by omega)))⟩, h.wf, h.void⟩
theorem rdLt {kd : IntKind} {w : World} {a : Option Addr} {n c : Nat} {l : List Int} (h : RdAt kd w a n c l) : ∀ q, a = some q → 0 < n → q.block < w.heap.size := fun q hq hn => by
  obtain ⟨b, o, e, hc⟩ := h.cell 0 hn
  rw [hq] at e
  injection e with e
  subst e
  exact block_lt_of_cell hc
set_option linter.unusedSimpArgs false in
set_option linter.unusedVariables false in
set_option maxRecDepth 100000 in
set_option maxHeartbeats 2000000 in
theorem diskOf_walk (a : Option Addr) (n c : Nat) (l : List Int) (z x : Int) (w : World) (hr : RdAt .u8 w a n c l) (hwz : (Lit.int .i64 z).wf = true) (hwx : (Lit.int .i64 x).wf = true) : Calls Try.prog 6 #[.slice a n c, .int .i64 z, .int .i64 x] w fun e w' => e = .returned (.bool true) ∧ Below w.heap.size w w' := by
  have hz : -9223372036854775808 ≤ z ∧ z ≤ 9223372036854775807 := by
    simp [Lit.wf, IntKind.min, IntKind.max, IntKind.signed, IntKind.bits] at hwz; omega
  have hx : -9223372036854775808 ≤ x ∧ x ≤ 9223372036854775807 := by
    simp [Lit.wf, IntKind.min, IntKind.max, IntKind.signed, IntKind.bits] at hwx; omega
  have HX := Lib.hid hx
  clear hwz hwx hx
  by_cases hbig : 32768 < n
  · have d0 : decide ((32768 : Int) < n) = true := decide_eq_true (by omega)
    clear hr
    go_enter Try.func6, Try.ntmps6
    go_wp2_with fail
    refine (known_any _).mono ?_
    rintro e w1 ⟨rfl, hb1⟩
    go_wp2_with fail
    go_ret
    exact ⟨rfl, hb1⟩
  have d0 : decide ((32768 : Int) < n) = false := decide_eq_false (by omega)
  have hn : n ≤ 32768 := by omega
  by_cases hbad : z < 64 ∨ 4096 < z ∨ (n : Int) % z ≠ 0 ∨ n = 0
  · have hof : ∀ w1 : World, RdAt .u8 w1 a n c l → Calls Try.prog 22 #[.slice a n c, .int .i64 z] w1 fun e w' => e = .returned (.tuple #[.pointer none, .int .i64 1]) ∧ Below w1.heap.size w1 w' := by
      intro w1 hr1
      by_cases h1 : z < 1 ∨ (n : Int) % z ≠ 0
      · exact of_no a n c l z w1 hr1 hn hz.1 hz.2 h1
      · obtain ⟨s, rfl⟩ := Int.eq_ofNat_of_zero_le (show 0 ≤ z by omega)
        have hm : n % s = 0 := by
          have : (n : Int) % s = 0 := Classical.byContradiction fun h => h1 (.inr h)
          omega
        refine of_bad a n c l s w1 hr1 hn (by omega) hz.2 hm ?_
        unfold rightB
        rcases hbad with h | h | h | h
        · rw [decide_eq_false (show ¬ (64 : Int) ≤ s by omega)]; simp
        · rw [decide_eq_false (show ¬ (s : Int) ≤ 4096 by omega)]; simp
        · exact absurd (.inr h) h1
        · subst h
          rw [decide_eq_false (show ¬ (1 : Int) ≤ ((0 / s : Nat) : Int) by simp)]; simp
    have HR := Lib.hid hr
    have HOF := Lib.hid hof
    have HBAD := Lib.hid hbad
    clear hr hof hbad
    go_enter Try.func6, Try.ntmps6
    go_wp2_with fail
    refine (known_any _).mono ?_
    rintro e w1 ⟨rfl, hb1⟩
    have B1 := Lib.hid hb1
    clear hb1
    go_wp2_with fail
    refine (HOF.out w1 (HR.out.below B1.out)).mono ?_
    rintro e w2 ⟨rfl, hb2⟩
    have B2 := Lib.hid (Below.call B1.out hb2)
    clear hb2
    go_wp2_with fail
    refine (rof_no a n c l z w2 (HR.out.below B2.out) hn hz.1 hz.2 HBAD.out).mono ?_
    rintro e w3 ⟨rfl, hb3⟩
    have B3 := Lib.hid (Below.call B2.out hb3)
    clear hb3
    go_wp2_with fail
    go_ret
    exact ⟨rfl, B3.out⟩
  obtain ⟨s, rfl⟩ := Int.eq_ofNat_of_zero_le (show 0 ≤ z by omega)
  have hs1 : 64 ≤ s := by omega
  have hs2 : s ≤ 4096 := by omega
  have hm : n % s = 0 := by
    have : (n : Int) % s = 0 := Classical.byContradiction fun h => hbad (.inr (.inr (.inl h)))
    omega
  have hn0 : 0 < n := by omega
  obtain ⟨q, hq⟩ : ∃ q, n / s = q := ⟨_, rfl⟩
  have hnq : n = q * s := by rw [← hq]; exact (Nat.div_mul_cancel (Nat.dvd_of_mod_eq_zero hm)).symm
  have hqn : q ≤ n := by rw [← hq]; exact Nat.div_le_self _ _
  have hq1 : 1 ≤ q := by
    rcases Nat.eq_zero_or_pos q with h | h
    · rw [h] at hnq; omega
    · exact h
  have hrb : rightB ((n / s : Nat) : Int) s = true := by
    unfold rightB
    rw [hq, decide_eq_true (show (1 : Int) ≤ (q : Int) by omega), decide_eq_true (show (q : Int) ≤ 65536 by omega), decide_eq_true (show (64 : Int) ≤ s by omega), decide_eq_true (show (s : Int) ≤ 4096 by omega)]
    rfl
  have HS : Hid (64 ≤ s ∧ s ≤ 4096) := ⟨hs1, hs2⟩
  have hll : l.length = q * s := by rw [hr.len]; exact hnq
  have HL := Lib.hid hll
  have hlen : l.length ≤ 32768 ∧ 0 < l.length := by rw [hr.len]; omega
  have HFL : Hid ((ofK l q s q).flatten = l) := by
    show _ = _
    rw [ofK_flat, ← hll, List.take_length]
  have HR := Lib.hid hr
  have HM := Lib.hid hm
  have HRB := Lib.hid hrb
  have HQ := Lib.hid hq
  clear hr hbad hm hrb hq hll hnq
  go_enter Try.func6, Try.ntmps6
  go_wp2_with fail
  refine (known_any _).mono ?_
  rintro e w4 ⟨rfl, hb1⟩
  have B1 := Lib.hid hb1
  clear hb1
  go_wp2_with fail
  refine (of_any a n c l s w4 (HR.out.below B1.out) hn (by omega) hz.2 HM.out HRB.out).mono ?_
  rintro e w5 ⟨d, Z, rfl, hd5⟩
  rw [HQ.out] at hd5
  have D5 := Lib.hid hd5
  clear hd5
  go_wp2_with fail
  refine (rof_any a n c l s w5 (HR.out.below (Below.call B1.out D5.out.below)) hn hs1 hs2 HM.out hn0).mono ?_
  rintro e w6 ⟨r, rfl, hR6, hb6⟩
  rw [HQ.out] at hR6
  have R6 := Lib.hid hR6
  have D6 := Lib.hid (D5.out.more hb6)
  have B56 := Lib.hid hb6
  clear hR6 hb6
  go_wp2_with fail
  have hsh := shape_any Z d _ w6 D6.out.din
  rw [show (ofS l q s q).kept.length = q from ofK_len l q s q, show (ofS l q s q).size = s from rfl] at hsh
  refine hsh.mono ?_
  rintro e w7 ⟨rfl, hb7⟩
  have R7 := Lib.hid (R6.out.below hb7)
  have D7 := Lib.hid (D6.out.more hb7)
  have B67 := Lib.hid (Below.call B56.out hb7)
  clear hb7 hsh R6 D6
  obtain ⟨X, hXX⟩ : ∃ X, w4.heap.size = X := ⟨_, rfl⟩
  obtain ⟨B, hBB⟩ : ∃ B, w5.heap.size = B := ⟨_, rfl⟩
  have hR8 : RDk w7.drew B r q s l 0 := by
    rw [← hBB]
    exact R7.out.below ⟨rfl, rfl, rfl, Nat.le_refl _, fun _ _ => rfl⟩
  have hd8 : DkIn w7.drew Z d (ofS l q s q) := D7.out.din.same (fun _ _ => rfl) (Nat.le_refl _)
  have hX8 : X ≤ w7.drew.heap.size := by rw [← hXX]; exact D7.out.below.size
  have hr8 : RdAt .u8 w7.drew a n c l := (HR.out.below (Below.call B1.out D7.out.below)).at0 rfl
  have hlow : ∀ y, a = some y → 0 < n → y.block < X := fun y h1 h2 => by
    have := rdLt HR.out y h1 h2
    have := B1.out.size
    omega
  have hZB : ∀ k, Z k → k < B := fun k hk => by rw [← hBB]; exact D5.out.din.1 k hk
  have hX1 : ∀ k, Z k → X ≤ k := fun k hk => by rw [← hXX]; exact D5.out.base k hk
  have hX2 : X ≤ B := by rw [← hXX, ← hBB]; exact D5.out.below.size
  obtain ⟨w3, hw3⟩ : ∃ w3 : World, w3 = w7.drew := ⟨_, rfl⟩
  have hB8 : Below X w3 w7.drew ∧ X ≤ w7.drew.heap.size := ⟨by rw [hw3]; exact Below.refl _ _, hX8⟩
  go_wp2_with fail
  refine' reg_order [eqV _, eqV _, eqV _, eqV _, eqV _, eqV _, eqV _, eqV _, eqV _, eqV _, eqV _, eqV _, eqV _, eqV _, eqV _, eqV _, eqV _, eqV _, eqV _, isBytes (l), eqV _, eqV _, eqV _, eqV _, eqV _, eqV _] [(15, fun w w' => Below X w w' ∧ ((∃ R, DkIn w Z d (ofS1 l q s R)) → ∃ R, DkIn w' Z d (ofS1 l q s R)))] [(4, fun w => RDk w B r q s l 0), (15, fun w => DkIn w Z d (ofS l q s q) ∧ RDk w B r q s l 0 ∧ X ≤ w.heap.size), (19, fun w => ∃ R, DkIn w Z d (ofS1 l q s R)), (22, fun w => RdAt .u8 w a n c l), (26, fun w => Below X w3 w ∧ X ≤ w.heap.size)] [47, 48, 49, 50, 51, 52, 53, 54, 55, 56, 57, 58, 59, 60, 61, 62, 63, 64, 65, 66, 67, 68, 69, 70, 71, 6] [[], [], [1], [2], [3], [0, 4], [5], [6], [6], [6, 7, 8], [6, 9], [10], [11], [11], [11], [11, 12, 13, 14], [11, 15], [16], [17], [17, 18], [17, 19], [17], [17, 21], [17, 20, 22], [17, 23], [24]] [0, 1, 2, 3, 4, 5, 6, 7, 8, 9, 10, 11, 12, 13, 14, 15, 16, 17, 18, 19, 20, 21, 22, 23, 24, 25] 26 (by kernel_rfl) ⟨eqV_stays _, eqV_stays _, eqV_stays _, eqV_stays _, eqV_stays _, eqV_stays _, eqV_stays _, eqV_stays _, eqV_stays _, eqV_stays _, eqV_stays _, eqV_stays _, eqV_stays _, eqV_stays _, eqV_stays _, eqV_stays _, eqV_stays _, eqV_stays _, eqV_stays _, isBytes_stays _, eqV_stays _, eqV_stays _, eqV_stays _, eqV_stays _, eqV_stays _, eqV_stays _, trivial⟩ ⟨⟨.inl (eqV_stays _), .inl (eqV_stays _), .inl (eqV_stays _), .inl (eqV_stays _), .inl (eqV_stays _), .inl (eqV_stays _), .inl (eqV_stays _), .inl (eqV_stays _), .inl (eqV_stays _), .inl (eqV_stays _), .inl (eqV_stays _), .inl (eqV_stays _), .inl (eqV_stays _), .inl (eqV_stays _), .inl (eqV_stays _), .inl (eqV_stays _), .inl (eqV_stays _), .inl (eqV_stays _), .inl (eqV_stays _), .inr (.inl (by kernel_rfl)), .inl (eqV_stays _), .inl (eqV_stays _), .inl (eqV_stays _), .inl (eqV_stays _), .inl (eqV_stays _), .inl (eqV_stays _), trivial⟩, trivial⟩ ⟨fun _ _ p b => RDk.below p b, fun _ _ p b => ⟨DkIn.below p.1 b, RDk.below p.2.1 b, Nat.le_trans p.2.2 b.size⟩, fun _ _ ⟨R, p⟩ b => ⟨R, DkIn.below p b⟩, fun _ _ p b => RdAt.below p b, fun _ _ p b => ⟨p.1.trans (b.mono p.2), Nat.le_trans p.2 b.size⟩, trivial⟩ ⟨⟨.inr (.inl (by kernel_rfl)), .inr (.inr rfl), .inl (fun _ _ p g => g.2 p), .inl (fun _ _ p g => rdLow p hlow g.1), .inl (fun _ _ p g => ⟨p.1.trans g.1, Nat.le_trans p.2 g.1.size⟩), trivial⟩, trivial⟩ ⟨hR8, ⟨hd8, hR8, hX8⟩, ⟨0, hd8⟩, hr8, hB8, trivial⟩ 72 rfl (by kernel_rfl) (by kernel_rfl) rfl rfl 26 rfl ?q1obl ?q1fin
  case q1obl =>
    refine And.intro ?q1o0 (And.intro ?q1o1 (And.intro ?q1o2 (And.intro ?q1o3 (And.intro ?q1o4 (And.intro ?q1o5 (And.intro ?q1o6 (And.intro ?q1o7 (And.intro ?q1o8 (And.intro ?q1o9 (And.intro ?q1o10 (And.intro ?q1o11 (And.intro ?q1o12 (And.intro ?q1o13 (And.intro ?q1o14 (And.intro ?q1o15 (And.intro ?q1o16 (And.intro ?q1o17 (And.intro ?q1o18 (And.intro ?q1o19 (And.intro ?q1o20 (And.intro ?q1o21 (And.intro ?q1o22 (And.intro ?q1o23 (And.intro ?q1o24 (And.intro ?q1o25 (True.intro))))))))))))))))))))))))))
    case q1o0 =>
      intro w1 hI
      refine turn2_on (by rfl) ?_
      intro K hK
      go_simp
      refine hK _ _ ⟨rfl, Kept.refl _, ?_⟩
      show _ = _
      simp only [List.getD_cons_zero, List.getD_cons_succ, Array.getD_eq_getD_getElem?, List.getElem?_toArray, List.getElem?_cons_zero, List.getElem?_cons_succ, Option.getD_some]
      rfl
    case q1o1 =>
      intro w1 hI
      refine turn2_on (by rfl) ?_
      intro K hK
      go_simp
      refine hK _ _ ⟨rfl, Kept.refl _, ?_⟩
      show _ = _
      simp only [List.getD_cons_zero, List.getD_cons_succ, Array.getD_eq_getD_getElem?, List.getElem?_toArray, List.getElem?_cons_zero, List.getElem?_cons_succ, Option.getD_some]
      rfl
    case q1o2 =>
      intro w1 hI
      intro v1 h1
      change _ = _ at h1
      subst v1
      refine turn2_on (by rfl) ?_
      intro K hK
      simp only [List.getD_cons_zero, List.getD_cons_succ, List.setIfInBounds_toArray, List.set_cons_zero, List.set_cons_succ]
      go_simp
      refine hK _ _ ⟨rfl, Kept.refl _, ?_⟩
      show _ = _
      simp only [List.getD_cons_zero, List.getD_cons_succ, Array.getD_eq_getD_getElem?, List.getElem?_toArray, List.getElem?_cons_zero, List.getElem?_cons_succ, Option.getD_some]
      rfl
    case q1o3 =>
      intro w1 hI
      intro v2 h2
      change _ = _ at h2
      subst v2
      refine turn2_on (by rfl) ?_
      intro K hK
      simp only [List.getD_cons_zero, List.getD_cons_succ, List.setIfInBounds_toArray, List.set_cons_zero, List.set_cons_succ]
      go_simp
      refine hK _ _ ⟨rfl, Kept.refl _, ?_⟩
      show _ = _
      simp only [List.getD_cons_zero, List.getD_cons_succ, Array.getD_eq_getD_getElem?, List.getElem?_toArray, List.getElem?_cons_zero, List.getElem?_cons_succ, Option.getD_some]
      rfl
    case q1o4 =>
      intro w1 hI
      replace hI : (fun w => RDk w B r q s l 0) w1 := hI
      intro v3 h3
      change _ = _ at h3
      subst v3
      refine turn2_on (by rfl) ?_
      intro K hK
      simp only [List.getD_cons_zero, List.getD_cons_succ, List.setIfInBounds_toArray, List.set_cons_zero, List.set_cons_succ]
      obtain ⟨bv4, hrow4, _⟩ := hI.ex
      obtain ⟨c0, c1, c2, c3, c4, c5, c6, c7, c8, cf⟩ := cellsD hrow4
      clear hrow4
      go_simp
      refine hK _ _ ⟨rfl, Kept.refl _, ?_⟩
      show _ = _
      simp only [List.getD_cons_zero, List.getD_cons_succ, Array.getD_eq_getD_getElem?, List.getElem?_toArray, List.getElem?_cons_zero, List.getElem?_cons_succ, Option.getD_some]
      rfl
    case q1o5 =>
      intro w1 hI
      intro v0 h0
      change _ = _ at h0
      subst v0
      intro v4 h4
      change _ = _ at h4
      subst v4
      refine turn2_on (by rfl) ?_
      intro K hK
      simp only [List.getD_cons_zero, List.getD_cons_succ, List.setIfInBounds_toArray, List.set_cons_zero, List.set_cons_succ]
      go_simp
      refine hK _ _ ⟨rfl, Kept.refl _, ?_⟩
      show _ = _
      simp only [List.getD_cons_zero, List.getD_cons_succ, Array.getD_eq_getD_getElem?, List.getElem?_toArray, List.getElem?_cons_zero, List.getElem?_cons_succ, Option.getD_some]
      rfl
    case q1o6 =>
      intro w1 hI
      intro v5 h5
      change _ = _ at h5
      subst v5
      refine turn2_on (by rfl) ?_
      intro K hK
      simp only [List.getD_cons_zero, List.getD_cons_succ, List.setIfInBounds_toArray, List.set_cons_zero, List.set_cons_succ]
      go_simp
      refine hK _ _ ⟨rfl, Kept.refl _, ?_⟩
      show _ = _
      simp only [List.getD_cons_zero, List.getD_cons_succ, Array.getD_eq_getD_getElem?, List.getElem?_toArray, List.getElem?_cons_zero, List.getElem?_cons_succ, Option.getD_some]
      rfl
    case q1o7 =>
      intro w1 hI
      intro v6 h6
      change _ = _ at h6
      subst v6
      refine turn2_on (by rfl) ?_
      intro K hK
      simp only [List.getD_cons_zero, List.getD_cons_succ, List.setIfInBounds_toArray, List.set_cons_zero, List.set_cons_succ]
      go_simp
      refine hK _ _ ⟨rfl, Kept.refl _, ?_⟩
      show _ = _
      simp only [List.getD_cons_zero, List.getD_cons_succ, Array.getD_eq_getD_getElem?, List.getElem?_toArray, List.getElem?_cons_zero, List.getElem?_cons_succ, Option.getD_some]
      rfl
    case q1o8 =>
      intro w1 hI
      intro v6 h6
      change _ = _ at h6
      subst v6
      refine turn2_on (by rfl) ?_
      intro K hK
      simp only [List.getD_cons_zero, List.getD_cons_succ, List.setIfInBounds_toArray, List.set_cons_zero, List.set_cons_succ]
      go_simp
      refine hK _ _ ⟨rfl, Kept.refl _, ?_⟩
      show _ = _
      simp only [List.getD_cons_zero, List.getD_cons_succ, Array.getD_eq_getD_getElem?, List.getElem?_toArray, List.getElem?_cons_zero, List.getElem?_cons_succ, Option.getD_some]
      rfl
    case q1o9 =>
      intro w1 hI
      intro v6 h6
      change _ = _ at h6
      subst v6
      intro v7 h7
      change _ = _ at h7
      subst v7
      intro v8 h8
      change _ = _ at h8
      subst v8
      refine turn2_on (by rfl) ?_
      intro K hK
      simp only [List.getD_cons_zero, List.getD_cons_succ, List.setIfInBounds_toArray, List.set_cons_zero, List.set_cons_succ]
      go_simp
      refine hK _ _ ⟨rfl, Kept.refl _, ?_⟩
      show _ = _
      simp only [List.getD_cons_zero, List.getD_cons_succ, Array.getD_eq_getD_getElem?, List.getElem?_toArray, List.getElem?_cons_zero, List.getElem?_cons_succ, Option.getD_some]
      rfl
    case q1o10 =>
      intro w1 hI
      intro v6 h6
      change _ = _ at h6
      subst v6
      intro v9 h9
      change _ = _ at h9
      subst v9
      refine turn2_on (by rfl) ?_
      intro K hK
      simp only [List.getD_cons_zero, List.getD_cons_succ, List.setIfInBounds_toArray, List.set_cons_zero, List.set_cons_succ]
      go_simp
      refine hK _ _ ⟨rfl, Kept.refl _, ?_⟩
      show _ = _
      simp only [List.getD_cons_zero, List.getD_cons_succ, Array.getD_eq_getD_getElem?, List.getElem?_toArray, List.getElem?_cons_zero, List.getElem?_cons_succ, Option.getD_some]
      rfl
    case q1o11 =>
      intro w1 hI
      intro v10 h10
      change _ = _ at h10
      subst v10
      refine turn2_on (by rfl) ?_
      intro K hK
      simp only [List.getD_cons_zero, List.getD_cons_succ, List.setIfInBounds_toArray, List.set_cons_zero, List.set_cons_succ]
      go_simp
      refine hK _ _ ⟨rfl, Kept.refl _, ?_⟩
      show _ = _
      simp only [List.getD_cons_zero, List.getD_cons_succ, Array.getD_eq_getD_getElem?, List.getElem?_toArray, List.getElem?_cons_zero, List.getElem?_cons_succ, Option.getD_some]
      rfl
    case q1o12 =>
      intro w1 hI
      intro v11 h11
      change _ = _ at h11
      subst v11
      refine turn2_on (by rfl) ?_
      intro K hK
      simp only [List.getD_cons_zero, List.getD_cons_succ, List.setIfInBounds_toArray, List.set_cons_zero, List.set_cons_succ]
      go_simp
      refine hK _ _ ⟨rfl, Kept.refl _, ?_⟩
      show _ = _
      simp only [List.getD_cons_zero, List.getD_cons_succ, Array.getD_eq_getD_getElem?, List.getElem?_toArray, List.getElem?_cons_zero, List.getElem?_cons_succ, Option.getD_some]
      rfl
    case q1o13 =>
      intro w1 hI
      intro v11 h11
      change _ = _ at h11
      subst v11
      refine turn2_on (by rfl) ?_
      intro K hK
      simp only [List.getD_cons_zero, List.getD_cons_succ, List.setIfInBounds_toArray, List.set_cons_zero, List.set_cons_succ]
      go_simp
      refine hK _ _ ⟨rfl, Kept.refl _, ?_⟩
      show _ = _
      simp only [List.getD_cons_zero, List.getD_cons_succ, Array.getD_eq_getD_getElem?, List.getElem?_toArray, List.getElem?_cons_zero, List.getElem?_cons_succ, Option.getD_some]
      rfl
    case q1o14 =>
      intro w1 hI
      intro v11 h11
      change _ = _ at h11
      subst v11
      refine turn2_on (by rfl) ?_
      intro K hK
      simp only [List.getD_cons_zero, List.getD_cons_succ, List.setIfInBounds_toArray, List.set_cons_zero, List.set_cons_succ]
      go_simp
      refine hK _ _ ⟨rfl, Kept.refl _, ?_⟩
      show _ = _
      simp only [List.getD_cons_zero, List.getD_cons_succ, Array.getD_eq_getD_getElem?, List.getElem?_toArray, List.getElem?_cons_zero, List.getElem?_cons_succ, Option.getD_some]
      rfl
    case q1o15 =>
      intro w1 hI
      replace hI : (fun w => DkIn w Z d (ofS l q s q) ∧ RDk w B r q s l 0 ∧ X ≤ w.heap.size) w1 := hI
      intro v11 h11
      change _ = _ at h11
      subst v11
      intro v12 h12
      change _ = _ at h12
      subst v12
      intro v13 h13
      change _ = _ at h13
      subst v13
      intro v14 h14
      change _ = _ at h14
      subst v14
      refine turn2_on (by rfl) ?_
      intro K hK
      simp only [List.getD_cons_zero, List.getD_cons_succ, List.setIfInBounds_toArray, List.set_cons_zero, List.set_cons_succ]
      obtain ⟨hI1, hI2, hI3⟩ := hI
      go_simp
      refine Calls.mono (same_any Z d B r q s l x w1 hI1 hI2 hZB HX.out.1 HX.out.2 HS.out.1 HS.out.2 HL.out (by omega) (by omega) (by omega) X hX1 hX2 hI3) ?_
      rintro e w9 ⟨rfl, ⟨R, hd9, _⟩, hb9⟩
      refine hK _ _ ⟨rfl, ⟨hb9, fun _ => ⟨R, hd9⟩⟩, ?_⟩
      show _ = _
      simp only [List.getD_cons_zero, List.getD_cons_succ, Array.getD_eq_getD_getElem?, List.getElem?_toArray, List.getElem?_cons_zero, List.getElem?_cons_succ, Option.getD_some]
      rfl
    case q1o16 =>
      intro w1 hI
      intro v11 h11
      change _ = _ at h11
      subst v11
      intro v15 h15
      change _ = _ at h15
      subst v15
      refine turn2_on (by rfl) ?_
      intro K hK
      simp only [List.getD_cons_zero, List.getD_cons_succ, List.setIfInBounds_toArray, List.set_cons_zero, List.set_cons_succ]
      go_simp
      refine hK _ _ ⟨rfl, Kept.refl _, ?_⟩
      show _ = _
      simp only [List.getD_cons_zero, List.getD_cons_succ, Array.getD_eq_getD_getElem?, List.getElem?_toArray, List.getElem?_cons_zero, List.getElem?_cons_succ, Option.getD_some]
      rfl
    case q1o17 =>
      intro w1 hI
      intro v16 h16
      change _ = _ at h16
      subst v16
      refine turn2_on (by rfl) ?_
      intro K hK
      simp only [List.getD_cons_zero, List.getD_cons_succ, List.setIfInBounds_toArray, List.set_cons_zero, List.set_cons_succ]
      go_simp
      refine hK _ _ ⟨rfl, Kept.refl _, ?_⟩
      show _ = _
      simp only [List.getD_cons_zero, List.getD_cons_succ, Array.getD_eq_getD_getElem?, List.getElem?_toArray, List.getElem?_cons_zero, List.getElem?_cons_succ, Option.getD_some]
      rfl
    case q1o18 =>
      intro w1 hI
      intro v17 h17
      change _ = _ at h17
      subst v17
      refine turn2_on (by rfl) ?_
      intro K hK
      simp only [List.getD_cons_zero, List.getD_cons_succ, List.setIfInBounds_toArray, List.set_cons_zero, List.set_cons_succ]
      go_simp
      refine hK _ _ ⟨rfl, Kept.refl _, ?_⟩
      show _ = _
      simp only [List.getD_cons_zero, List.getD_cons_succ, Array.getD_eq_getD_getElem?, List.getElem?_toArray, List.getElem?_cons_zero, List.getElem?_cons_succ, Option.getD_some]
      rfl
    case q1o19 =>
      intro w1 hI
      replace hI : (fun w => ∃ R, DkIn w Z d (ofS1 l q s R)) w1 := hI
      intro v17 h17
      change _ = _ at h17
      subst v17
      intro v18 h18
      change _ = _ at h18
      subst v18
      refine turn2_on (by rfl) ?_
      intro K hK
      simp only [List.getD_cons_zero, List.getD_cons_succ, List.setIfInBounds_toArray, List.set_cons_zero, List.set_cons_succ]
      obtain ⟨R, hI⟩ := hI
      go_simp
      refine Calls.mono (all_any Z d _ w1 hI) ?_
      rintro e w2 ⟨vv, rfl, hov, hbx⟩
      rw [show (ofS1 l q s R).kept.flatten = l from HFL.out] at hov
      refine hK _ _ ⟨rfl, hbx, ?_⟩
      show isBytes _ _ _
      simp only [List.getD_cons_zero, List.getD_cons_succ, Array.getD_eq_getD_getElem?, List.getElem?_toArray, List.getElem?_cons_zero, List.getElem?_cons_succ, Option.getD_some]
      exact hov.isBytes
    case q1o20 =>
      intro w1 hI
      intro v17 h17
      change _ = _ at h17
      subst v17
      intro v19 h19
      obtain ⟨a19, n19, c19, rfl, h19⟩ := h19
      refine turn2_on (by rfl) ?_
      intro K hK
      simp only [List.getD_cons_zero, List.getD_cons_succ, List.setIfInBounds_toArray, List.set_cons_zero, List.set_cons_succ]
      refine wp_conv 67 rfl u8T s8 su _ rfl rfl (h19) ?_
      refine hK _ _ ⟨rfl, Kept.refl _, ?_⟩
      show _ = _
      simp only [List.getD_cons_zero, List.getD_cons_succ, Array.getD_eq_getD_getElem?, List.getElem?_toArray, List.getElem?_cons_zero, List.getElem?_cons_succ, Option.getD_some]
      rfl
    case q1o21 =>
      intro w1 hI
      intro v17 h17
      change _ = _ at h17
      subst v17
      refine turn2_on (by rfl) ?_
      intro K hK
      simp only [List.getD_cons_zero, List.getD_cons_succ, List.setIfInBounds_toArray, List.set_cons_zero, List.set_cons_succ]
      go_simp
      refine hK _ _ ⟨rfl, Kept.refl _, ?_⟩
      show _ = _
      simp only [List.getD_cons_zero, List.getD_cons_succ, Array.getD_eq_getD_getElem?, List.getElem?_toArray, List.getElem?_cons_zero, List.getElem?_cons_succ, Option.getD_some]
      rfl
    case q1o22 =>
      intro w1 hI
      replace hI : (fun w => RdAt .u8 w a n c l) w1 := hI
      intro v17 h17
      change _ = _ at h17
      subst v17
      intro v21 h21
      change _ = _ at h21
      subst v21
      refine turn2_on (by rfl) ?_
      intro K hK
      simp only [List.getD_cons_zero, List.getD_cons_succ, List.setIfInBounds_toArray, List.set_cons_zero, List.set_cons_succ]
      refine wp_conv 69 rfl u8T s8 su _ rfl rfl (hI) ?_
      refine hK _ _ ⟨rfl, Kept.refl _, ?_⟩
      show _ = _
      simp only [List.getD_cons_zero, List.getD_cons_succ, Array.getD_eq_getD_getElem?, List.getElem?_toArray, List.getElem?_cons_zero, List.getElem?_cons_succ, Option.getD_some]
      rfl
    case q1o23 =>
      intro w1 hI
      intro v17 h17
      change _ = _ at h17
      subst v17
      intro v20 h20
      change _ = _ at h20
      subst v20
      intro v22 h22
      change _ = _ at h22
      subst v22
      refine turn2_on (by rfl) ?_
      intro K hK
      simp only [List.getD_cons_zero, List.getD_cons_succ, List.setIfInBounds_toArray, List.set_cons_zero, List.set_cons_succ]
      go_simp
      refine hK _ _ ⟨rfl, Kept.refl _, ?_⟩
      show _ = _
      simp only [List.getD_cons_zero, List.getD_cons_succ, Array.getD_eq_getD_getElem?, List.getElem?_toArray, List.getElem?_cons_zero, List.getElem?_cons_succ, Option.getD_some]
      rfl
    case q1o24 =>
      intro w1 hI
      intro v17 h17
      change _ = _ at h17
      subst v17
      intro v23 h23
      change _ = _ at h23
      subst v23
      refine turn2_on (by rfl) ?_
      intro K hK
      simp only [List.getD_cons_zero, List.getD_cons_succ, List.setIfInBounds_toArray, List.set_cons_zero, List.set_cons_succ]
      go_simp
      refine hK _ _ ⟨rfl, Kept.refl _, ?_⟩
      show _ = _
      simp only [List.getD_cons_zero, List.getD_cons_succ, Array.getD_eq_getD_getElem?, List.getElem?_toArray, List.getElem?_cons_zero, List.getElem?_cons_succ, Option.getD_some]
      rfl
    case q1o25 =>
      intro w1 hI
      intro v24 h24
      change _ = _ at h24
      subst v24
      refine turn2_on (by rfl) ?_
      intro K hK
      simp only [List.getD_cons_zero, List.getD_cons_succ, List.setIfInBounds_toArray, List.set_cons_zero, List.set_cons_succ]
      go_simp
      refine hK _ _ ⟨rfl, Kept.refl _, ?_⟩
      show _ = _
      simp only [List.getD_cons_zero, List.getD_cons_succ, Array.getD_eq_getD_getElem?, List.getElem?_toArray, List.getElem?_cons_zero, List.getElem?_cons_succ, Option.getD_some]
      rfl
  intro w1 hI
  replace hI : (fun w => Below X w3 w ∧ X ≤ w.heap.size) w1 := hI
  intro v0 h0
  change _ = _ at h0
  subst v0
  intro v1 h1
  change _ = _ at h1
  subst v1
  intro v2 h2
  change _ = _ at h2
  subst v2
  intro v3 h3
  change _ = _ at h3
  subst v3
  intro v4 h4
  change _ = _ at h4
  subst v4
  intro v5 h5
  change _ = _ at h5
  subst v5
  intro v6 h6
  change _ = _ at h6
  subst v6
  intro v7 h7
  change _ = _ at h7
  subst v7
  intro v8 h8
  change _ = _ at h8
  subst v8
  intro v9 h9
  change _ = _ at h9
  subst v9
  intro v10 h10
  change _ = _ at h10
  subst v10
  intro v11 h11
  change _ = _ at h11
  subst v11
  intro v12 h12
  change _ = _ at h12
  subst v12
  intro v13 h13
  change _ = _ at h13
  subst v13
  intro v14 h14
  change _ = _ at h14
  subst v14
  intro v15 h15
  change _ = _ at h15
  subst v15
  intro v16 h16
  change _ = _ at h16
  subst v16
  intro v17 h17
  change _ = _ at h17
  subst v17
  intro v18 h18
  change _ = _ at h18
  subst v18
  intro v19 h19
  obtain ⟨a19, n19, c19, rfl, h19⟩ := h19
  intro v20 h20
  change _ = _ at h20
  subst v20
  intro v21 h21
  change _ = _ at h21
  subst v21
  intro v22 h22
  change _ = _ at h22
  subst v22
  intro v23 h23
  change _ = _ at h23
  subst v23
  intro v24 h24
  change _ = _ at h24
  subst v24
  intro v25 h25
  change _ = _ at h25
  subst v25
  simp only [Given, List.getD_cons_zero, List.getD_cons_succ, List.setIfInBounds_toArray, List.set_cons_zero, List.set_cons_succ]
  have hI1 := hI.1
  have HI1 := Lib.hid hI1
  clear hI hI1
  go_wp2_with fail
  go_ret
  refine ⟨rfl, ?_⟩
  have h1 : Below X w4 w7 := by rw [← hXX]; exact D7.out.below
  have h2 : Below X w7 w1 := by
    have := HI1.out
    rw [hw3] at this
    exact ⟨this.os, this.tape, this.output, this.size, this.block⟩
  exact B1.out.trans ((h1.trans h2).mono (by rw [← hXX]; exact B1.out.size))
end Go.Proofs.Ytpgncmoagmkcmaa
