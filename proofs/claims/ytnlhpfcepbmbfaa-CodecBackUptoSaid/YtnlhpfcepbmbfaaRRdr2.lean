/- The reference's Reader of records: Between, count, Bytes, List. -/
import Derived.Test.YtnlhpfcepbmbfaaRRdr
import Derived.Test.YtnlhpfcepbmbfaaCTry
import Derived.Deep.QuietTactic
import Derived.BigQuiet
namespace Go.Proofs.Ytnlhpfcepbmbfaa
open Go.RowKit
def btw (lo hi : Int) (T : Rd Int) : Rd Int := if T.e ≠ 0 then ⟨T.e, 0, T.l⟩ else if T.v < lo ∨ hi < T.v then ⟨22, 0, T.l⟩ else T
theorem btw_eq (e0 lo hi : Int) (l : List Int) : rdFrom e0 0 l (rdBetween lo hi l) = btw lo hi (rdFrom e0 0 l (rdInt l)) := by
  by_cases h0 : e0 = 0
  · subst h0
    rw [rdFrom_ok, rdFrom_ok]
    rfl
  · rw [rdFrom_bad _ _ _ h0, rdFrom_bad _ _ _ h0]
    unfold btw
    rw [if_pos h0]
set_option linter.unusedSimpArgs false in
set_option linter.unusedVariables false in
set_option maxRecDepth 100000 in
set_option maxHeartbeats 2000000 in
theorem rrBetween_any (h : Nat) (lo hi : Int) (l : List Int) (e0 : Int) (w : World) (r : RRIn w h l e0) :
    Calls Try.prog 27 #[.pointer (some ⟨h, 0, none⟩), .int .i64 lo, .int .i64 hi] w (RREnd isI h (rdFrom e0 0 l (rdBetween lo hi l)) w) := by
  rw [btw_eq]
  have HW : Hid (∀ y ∈ l, (Lit.int .u8 y).wf = true) := r.wf
  have hbd : e0 = 0 → -9223372036854775808 ≤ (rdInt l).v ∧ (rdInt l).v ≤ 9223372036854775807 := fun _ => rdInt_bd r.wf
  obtain ⟨⟨E, V, l1⟩, hT⟩ : ∃ T, rdFrom e0 0 l (rdInt l) = T := ⟨_, rfl⟩
  have hV : -9223372036854775808 ≤ V ∧ V ≤ 9223372036854775807 := by
    by_cases h0 : e0 = 0
    · subst h0
      rw [rdFrom_ok] at hT
      have := rdInt_bd r.wf
      rw [hT] at this
      exact this
    · rw [rdFrom_bad _ _ _ h0] at hT
      injection hT with _ h1 _
      omega
  have hz : E ≠ 0 → V = 0 := fun h1 => by
    by_cases h0 : e0 = 0
    · subst h0
      rw [rdFrom_ok] at hT
      have := rdInt_z (l := l) (by rw [hT]; exact h1)
      rw [hT] at this
      exact this
    · rw [rdFrom_bad _ _ _ h0] at hT
      injection hT with _ h1 _
      exact h1.symm
  rw [hT]
  have HT := Lib.hid hT
  clear hT hbd
  by_cases hE : E = 0
  · subst hE
    by_cases hlo : V < lo
    · have HR : Hid (btw lo hi ⟨0, V, l1⟩ = ⟨22, 0, l1⟩) := by show _ = _; unfold btw; rw [if_neg (by simp), if_pos (.inl hlo)]
      have d1 : decide (V < lo) = true := decide_eq_true hlo
      go_enter Try.func27, Try.ntmps27
      go_wp2_with fail
      refine (rrInt_any h l e0 w r).mono ?_
      rintro e w1 ⟨hg, hr, v, rfl, hv⟩
      rw [HT.out] at hr hv
      replace hv : v = .int .i64 V := hv
      subst hv
      obtain ⟨a1, n1, c1, r1⟩ := hr
      obtain ⟨y0, y1, yf⟩ := r1.cells
      replace y1 : w1.cell? ⟨h, 1, none⟩ = some (.int .i64 0) := y1
      have R1 := Lib.hid r1
      have G1 := Lib.hid hg
      clear r1 hg
      go_wp2_with fail
      refine (fail_ok h l1 22 w1 ⟨_, _, _, R1.out⟩).mono ?_
      rintro e w2 ⟨rfl, hr2, hg2⟩
      have R2 := Lib.hid hr2
      have G2 := Lib.hid hg2
      clear hr2 hg2 y0 y1 yf
      go_wp2_with fail
      go_ret
      rw [HR.out]
      exact ⟨G1.out.trans G2.out, R2.out, _, rfl, rfl⟩
    · have d1 : decide (V < lo) = false := decide_eq_false hlo
      by_cases hhi : hi < V
      · have HR : Hid (btw lo hi ⟨0, V, l1⟩ = ⟨22, 0, l1⟩) := by show _ = _; unfold btw; rw [if_neg (by simp), if_pos (.inr hhi)]
        have d2 : decide (hi < V) = true := decide_eq_true hhi
        go_enter Try.func27, Try.ntmps27
        go_wp2_with fail
        refine (rrInt_any h l e0 w r).mono ?_
        rintro e w1 ⟨hg, hr, v, rfl, hv⟩
        rw [HT.out] at hr hv
        replace hv : v = .int .i64 V := hv
        subst hv
        obtain ⟨a1, n1, c1, r1⟩ := hr
        obtain ⟨y0, y1, yf⟩ := r1.cells
        replace y1 : w1.cell? ⟨h, 1, none⟩ = some (.int .i64 0) := y1
        have R1 := Lib.hid r1
        have G1 := Lib.hid hg
        clear r1 hg
        go_wp2_with fail
        refine (fail_ok h l1 22 w1 ⟨_, _, _, R1.out⟩).mono ?_
        rintro e w2 ⟨rfl, hr2, hg2⟩
        have R2 := Lib.hid hr2
        have G2 := Lib.hid hg2
        clear hr2 hg2 y0 y1 yf
        go_wp2_with fail
        go_ret
        rw [HR.out]
        exact ⟨G1.out.trans G2.out, R2.out, _, rfl, rfl⟩
      · have HR : Hid (btw lo hi ⟨0, V, l1⟩ = ⟨0, V, l1⟩) := by show _ = _; unfold btw; rw [if_neg (by simp), if_neg (by show ¬ (V < lo ∨ hi < V); omega)]
        have d2 : decide (hi < V) = false := decide_eq_false hhi
        go_enter Try.func27, Try.ntmps27
        go_wp2_with fail
        refine (rrInt_any h l e0 w r).mono ?_
        rintro e w1 ⟨hg, hr, v, rfl, hv⟩
        rw [HT.out] at hr hv
        replace hv : v = .int .i64 V := hv
        subst hv
        obtain ⟨a1, n1, c1, r1⟩ := hr
        obtain ⟨y0, y1, yf⟩ := r1.cells
        replace y1 : w1.cell? ⟨h, 1, none⟩ = some (.int .i64 0) := y1
        have R1 := Lib.hid r1
        have G1 := Lib.hid hg
        clear r1 hg
        go_wp2_with fail
        go_ret
        rw [HR.out]
        exact ⟨G1.out, ⟨_, _, _, R1.out⟩, _, rfl, rfl⟩
  · have HR : Hid (btw lo hi ⟨E, V, l1⟩ = ⟨E, 0, l1⟩) := by show _ = _; unfold btw; rw [if_pos hE]
    obtain rfl : V = 0 := hz hE
    have d0 : decide (E = 0) = false := decide_eq_false hE
    have d9 : (E == 0) = false := by simpa using hE
    clear hz
    go_enter Try.func27, Try.ntmps27
    go_wp2_with fail
    refine (rrInt_any h l e0 w r).mono ?_
    rintro e w1 ⟨hg, hr, v, rfl, hv⟩
    rw [HT.out] at hr hv
    replace hv : v = .int .i64 0 := hv
    subst hv
    obtain ⟨a1, n1, c1, r1⟩ := hr
    obtain ⟨y0, y1, yf⟩ := r1.cells
    replace y1 : w1.cell? ⟨h, 1, none⟩ = some (.int .i64 E) := y1
    have R1 := Lib.hid r1
    have G1 := Lib.hid hg
    clear r1 hg
    go_wp2_with fail
    go_ret
    rw [HR.out]
    exact ⟨G1.out, ⟨_, _, _, R1.out⟩, _, rfl, rfl⟩
theorem grown_drewN {w w' : World} {row : Option Nat} (g : w.grownBy w' row) (n : Nat) : w.grownBy (w'.drewN n) row := ⟨g.os, g.tape, g.output, g.size, g.block⟩
theorem RRIn.drewN {w : World} {h : Nat} {l : List Int} {e : Int} (r : RRIn w h l e) (n : Nat) : RRIn (w.drewN n) h l e := r.below ⟨rfl, rfl, rfl, Nat.le_refl _, fun _ _ => rfl⟩
/-- How the count ends. -/
def CPost (h : Nat) (B : Rd Int) (w : World) (e : Ending) (w' : World) : Prop :=
  w.grownBy w' (some h) ∧ RRIn w' h B.l B.e ∧ ∃ V, e = .returned (.tuple #[.int .i64 V, .bool (decide (B.e = 0))]) ∧ (B.e = 0 → V = B.v)
set_option linter.unusedSimpArgs false in
set_option linter.unusedVariables false in
set_option maxRecDepth 100000 in
set_option maxHeartbeats 2000000 in
theorem rrcount_any (h : Nat) (most : Int) (l : List Int) (e0 : Int) (w : World) (r : RRIn w h l e0) :
    Calls Try.prog 59 #[.pointer (some ⟨h, 0, none⟩), .int .i64 most] w (CPost h (rdFrom e0 0 l (rdBetween 0 most l)) w) := by
  rw [btw_eq]
  have HW : Hid (∀ y ∈ l, (Lit.int .u8 y).wf = true) := r.wf
  have hbd : e0 = 0 → -9223372036854775808 ≤ (rdInt l).v ∧ (rdInt l).v ≤ 9223372036854775807 := fun _ => rdInt_bd r.wf
  obtain ⟨⟨E, V, l1⟩, hT⟩ : ∃ T, rdFrom e0 0 l (rdInt l) = T := ⟨_, rfl⟩
  have hV : -9223372036854775808 ≤ V ∧ V ≤ 9223372036854775807 := by
    by_cases h0 : e0 = 0
    · subst h0
      rw [rdFrom_ok] at hT
      have := rdInt_bd r.wf
      rw [hT] at this
      exact this
    · rw [rdFrom_bad _ _ _ h0] at hT
      injection hT with _ h1 _
      omega
  have hz : E ≠ 0 → V = 0 := fun h1 => by
    by_cases h0 : e0 = 0
    · subst h0
      rw [rdFrom_ok] at hT
      have := rdInt_z (l := l) (by rw [hT]; exact h1)
      rw [hT] at this
      exact this
    · rw [rdFrom_bad _ _ _ h0] at hT
      injection hT with _ h1 _
      exact h1.symm
  rw [hT]
  have HT := Lib.hid hT
  clear hT hbd
  by_cases hE : E = 0
  · subst hE
    by_cases hlo : V < 0
    · have HR : Hid (btw 0 most ⟨0, V, l1⟩ = ⟨22, 0, l1⟩) := by show _ = _; unfold btw; rw [if_neg (by simp), if_pos (.inl hlo)]
      have d1 : decide (V < 0) = true := decide_eq_true hlo
      go_enter Try.func59, Try.ntmps59
      go_wp2_with fail
      refine (rrInt_any h l e0 w r).mono ?_
      rintro e w1 ⟨hg, hr, v, rfl, hv⟩
      rw [HT.out] at hr hv
      replace hv : v = .int .i64 V := hv
      subst hv
      obtain ⟨a1, n1, c1, r1⟩ := hr
      obtain ⟨y0, y1, yf⟩ := r1.cells
      replace y1 : w1.cell? ⟨h, 1, none⟩ = some (.int .i64 0) := y1
      have R1 := Lib.hid r1
      have G1 := Lib.hid hg
      clear r1 hg
      go_wp2_with fail
      refine (fail_ok h l1 22 w1 ⟨_, _, _, R1.out⟩).mono ?_
      rintro e w2 ⟨rfl, hr2, hg2⟩
      obtain ⟨a2, n2, c2, r2⟩ := hr2
      obtain ⟨x0, x1, xf⟩ := r2.cells
      have R2 := Lib.hid r2
      have G2 := Lib.hid hg2
      clear r2 hg2 y0 y1 yf
      go_wp2_with fail
      go_quiet (fail)
      go_wp2_with fail
      go_ret2
      rw [HR.out]
      exact ⟨grown_drewN (G1.out.trans G2.out) nq, RRIn.drewN ⟨_, _, _, R2.out⟩ nq, _, rfl, fun h => absurd h (show ¬ (22 : Int) = 0 by decide)⟩
    · have d1 : decide (V < 0) = false := decide_eq_false hlo
      by_cases hhi : most < V
      · have HR : Hid (btw 0 most ⟨0, V, l1⟩ = ⟨22, 0, l1⟩) := by show _ = _; unfold btw; rw [if_neg (by simp), if_pos (.inr hhi)]
        have d2 : decide (most < V) = true := decide_eq_true hhi
        go_enter Try.func59, Try.ntmps59
        go_wp2_with fail
        refine (rrInt_any h l e0 w r).mono ?_
        rintro e w1 ⟨hg, hr, v, rfl, hv⟩
        rw [HT.out] at hr hv
        replace hv : v = .int .i64 V := hv
        subst hv
        obtain ⟨a1, n1, c1, r1⟩ := hr
        obtain ⟨y0, y1, yf⟩ := r1.cells
        replace y1 : w1.cell? ⟨h, 1, none⟩ = some (.int .i64 0) := y1
        have R1 := Lib.hid r1
        have G1 := Lib.hid hg
        clear r1 hg
        go_wp2_with fail
        refine (fail_ok h l1 22 w1 ⟨_, _, _, R1.out⟩).mono ?_
        rintro e w2 ⟨rfl, hr2, hg2⟩
        obtain ⟨a2, n2, c2, r2⟩ := hr2
        obtain ⟨x0, x1, xf⟩ := r2.cells
        have R2 := Lib.hid r2
        have G2 := Lib.hid hg2
        clear r2 hg2 y0 y1 yf
        go_wp2_with fail
        go_quiet (fail)
        go_wp2_with fail
        go_ret2
        rw [HR.out]
        exact ⟨grown_drewN (G1.out.trans G2.out) nq, RRIn.drewN ⟨_, _, _, R2.out⟩ nq, _, rfl, fun h => absurd h (show ¬ (22 : Int) = 0 by decide)⟩
      · have HR : Hid (btw 0 most ⟨0, V, l1⟩ = ⟨0, V, l1⟩) := by show _ = _; unfold btw; rw [if_neg (by simp), if_neg (by show ¬ (V < 0 ∨ most < V); omega)]
        have d2 : decide (most < V) = false := decide_eq_false hhi
        go_enter Try.func59, Try.ntmps59
        go_wp2_with fail
        refine (rrInt_any h l e0 w r).mono ?_
        rintro e w1 ⟨hg, hr, v, rfl, hv⟩
        rw [HT.out] at hr hv
        replace hv : v = .int .i64 V := hv
        subst hv
        obtain ⟨a1, n1, c1, r1⟩ := hr
        obtain ⟨y0, y1, yf⟩ := r1.cells
        replace y1 : w1.cell? ⟨h, 1, none⟩ = some (.int .i64 0) := y1
        have R1 := Lib.hid r1
        have G1 := Lib.hid hg
        clear r1 hg
        go_wp2_with fail
        go_quiet (fail)
        go_wp2_with fail
        go_ret2
        rw [HR.out]
        exact ⟨grown_drewN G1.out nq, RRIn.drewN ⟨_, _, _, R1.out⟩ nq, _, rfl, fun _ => rfl⟩
  · have HR : Hid (btw 0 most ⟨E, V, l1⟩ = ⟨E, 0, l1⟩) := by show _ = _; unfold btw; rw [if_pos hE]
    obtain rfl : V = 0 := hz hE
    have d0 : decide (E = 0) = false := decide_eq_false hE
    have d9 : (E == 0) = false := by simpa using hE
    have hE0 := Lib.hid hE
    clear hz
    go_enter Try.func59, Try.ntmps59
    go_wp2_with fail
    refine (rrInt_any h l e0 w r).mono ?_
    rintro e w1 ⟨hg, hr, v, rfl, hv⟩
    rw [HT.out] at hr hv
    replace hv : v = .int .i64 0 := hv
    subst hv
    obtain ⟨a1, n1, c1, r1⟩ := hr
    obtain ⟨y0, y1, yf⟩ := r1.cells
    replace y1 : w1.cell? ⟨h, 1, none⟩ = some (.int .i64 E) := y1
    have R1 := Lib.hid r1
    have G1 := Lib.hid hg
    clear r1 hg
    go_wp2_with fail
    go_quiet (fail)
    go_wp2_with fail
    go_ret2
    rw [HR.out]
    exact ⟨grown_drewN G1.out nq, RRIn.drewN ⟨_, _, _, R1.out⟩ nq, _, congrArg (fun b => Ending.returned (.tuple #[.int .i64 0, .bool b])) (decide_eq_false hE0.out).symm, fun h => absurd h hE0.out⟩
end Go.Proofs.Ytnlhpfcepbmbfaa
