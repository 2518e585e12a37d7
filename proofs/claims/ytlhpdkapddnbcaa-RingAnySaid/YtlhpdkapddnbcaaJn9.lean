/- ring: state: the newer of the two. -/
import Derived.Test.YtlhpdkapddnbcaaJn8
namespace Go.Proofs.Ytlhpdkapddnbcaa
open Go.RowKit
def stP (a b : Hd) : Option Hd := if a.turn = (b.turn + 1) % 18446744073709551616 then some a else if b.turn = (a.turn + 1) % 18446744073709551616 then some b else none
def stF (n : Nat) (x0 x1 : List Int) : Option Hd := (hdR n x0 0).bind fun a => (hdR n x1 1).bind fun b => stP a b
theorem hdR_wf {n : Nat} {x : List Int} {slot : Nat} {h : Hd} (hx : hdR n x slot = some h) (hb : Bytes x) (hn : n ≤ 65536) : h.Wf := by
  unfold hdR at hx
  split at hx
  · split at hx
    · rename_i h1 h2
      injection hx with hx
      subst hx
      have hbd : ∀ i, 0 ≤ hdV (openL x) i ∧ hdV (openL x) i ≤ 18446744073709551615 := fun i => by
        have h := getK_bd ((openL x).drop (4 + 8 * i)) 8 (fun j _ => by
          by_cases hj : j < ((openL x).drop (4 + 8 * i)).length
          · rw [nth_eq hj]
            have h4 : ∀ y ∈ openL x, y ∈ x := fun y hy => by
              unfold openL at hy
              rw [if_pos h1] at hy
              exact List.mem_of_mem_take hy
            exact hb _ (h4 _ (List.mem_of_mem_drop (List.getElem_mem hj)))
          · rw [nth_out (by omega)]; omega)
        unfold hdV
        have : (2 : Int) ^ (8 * 8) = 18446744073709551616 := by decide
        omega
      have h3 : hdV (openL x) 3 < (n : Int) - 2 := by
        unfold hdK at h2
        simp only [Bool.and_eq_true, decide_eq_true_eq] at h2
        exact h2.2
      have b0 := hbd 0
      have b1 := hbd 1
      have b2 := hbd 2
      have b3 := hbd 3
      exact ⟨b0.1, b0.2, b1.1, b1.2, b2.1, b2.2, b3.1, by show hdV (openL x) 3 ≤ 65536; omega⟩
    · cases hx
  · cases hx
set_option linter.unusedSimpArgs false in
set_option linter.unusedVariables false in
set_option maxRecDepth 100000 in
set_option maxHeartbeats 8000000 in
theorem state_any (Q : Nat → Prop) (r d : Nat) (st : Dk) (J : Jr) (w0 : World) (hR : RiIn w0 Q r d st J) (hoff : st.off = false) (hrd : st.reads + 2 ≤ 4611686018427387904) :
    Calls Try.prog 47 #[.pointer (some ⟨r, 0, none⟩)] w0 fun e w' => e = .returned (.tuple #[((stF J.n (secB st J.lo) (secB st (J.lo + 1))).getD hd0).val, .int .i64 (hdE (stF J.n (secB st J.lo) (secB st (J.lo + 1))))]) ∧ (∃ R, st.reads ≤ R ∧ R ≤ st.reads + 2 ∧ RiIn w' Q r d { st with reads := R } J) ∧ Tnd Q Q w0 w' := by
  obtain ⟨o0, ho0⟩ : ∃ o, hdR J.n (secB st J.lo) 0 = o := ⟨_, rfl⟩
  obtain ⟨o1, ho1⟩ : ∃ o, hdR J.n (secB st (J.lo + 1)) 1 = o := ⟨_, rfl⟩
  have HSF : Hid (stF J.n (secB st J.lo) (secB st (J.lo + 1)) = o0.bind fun a => o1.bind fun b => stP a b) := by show _ = _; unfold stF; rw [ho0, ho1]
  have HR0 : Hid (∀ w, RiIn w Q r d st J → Calls Try.prog 42 #[.pointer (some ⟨r, 0, none⟩), .int .i64 0] w fun e w' => e = .returned (.tuple #[(o0.getD hd0).val, .int .i64 (hdE o0)]) ∧ RiIn w' Q r d { st with reads := st.reads + 1 } J ∧ Tnd Q Q w w') := fun w h => by
    have := rread_any Q r d st J 0 w h hoff (by omega) (by omega)
    rw [Nat.add_zero, ho0] at this
    exact this
  have HR1 : Hid (∀ w, RiIn w Q r d { st with reads := st.reads + 1 } J → Calls Try.prog 42 #[.pointer (some ⟨r, 0, none⟩), .int .i64 1] w fun e w' => e = .returned (.tuple #[(o1.getD hd0).val, .int .i64 (hdE o1)]) ∧ RiIn w' Q r d { st with reads := st.reads + 2 } J ∧ Tnd Q Q w w') := fun w h => by
    have := rread_any Q r d { st with reads := st.reads + 1 } J 1 w h hoff (by omega) (by show st.reads + 1 + 1 ≤ _; omega)
    rw [show secB { st with reads := st.reads + 1 } (J.lo + 1) = secB st (J.lo + 1) from rfl, ho1] at this
    rw [show st.reads + 2 = st.reads + 1 + 1 by omega]
    exact this
  have HF1 : Hid (∀ w', RiIn w' Q r d { st with reads := st.reads + 1 } J → ∃ R, st.reads ≤ R ∧ R ≤ st.reads + 2 ∧ RiIn w' Q r d { st with reads := R } J) := fun w' h => ⟨_, by omega, by omega, h⟩
  have HF2 : Hid (∀ w', RiIn w' Q r d { st with reads := st.reads + 2 } J → ∃ R, st.reads ≤ R ∧ R ≤ st.reads + 2 ∧ RiIn w' Q r d { st with reads := R } J) := fun w' h => ⟨_, by omega, by omega, h⟩
  obtain ⟨S1, hS1⟩ : ∃ S : Dk, { st with reads := st.reads + 1 } = S := ⟨_, rfl⟩
  obtain ⟨S2, hS2⟩ : ∃ S : Dk, { st with reads := st.reads + 2 } = S := ⟨_, rfl⟩
  rw [hS1] at HR0 HR1 HF1
  rw [hS2] at HR1 HF2
  rw [HSF.out]
  have RI := Lib.hid hR
  have HQ := Lib.hid hR.lt
  obtain ⟨hb, hhb⟩ : ∃ hb, w0.heap.size = hb := ⟨_, rfl⟩
  have W0 : ∀ h1 h2, o0 = some h1 → o1 = some h2 → True := fun _ _ _ _ => trivial
  clear hR hoff hrd ho0 ho1 hS1 hS2 HSF W0
  go_enter Try.func47, Try.ntmps47
  have hrow := heap_alloc_new w0 (.cells #[.int .u64 0, .int .u64 0, .int .u64 0, .int .i64 0] 76)
  have hba : Below w0.heap.size w0 (w0.alloc (.cells #[.int .u64 0, .int .u64 0, .int .u64 0, .int .i64 0] 76)) := (Below.refl _ _).alloc (Nat.le_refl _) _
  go_wp2_with fail
  obtain ⟨wa, hwa⟩ : ∃ wa, w0.alloc (.cells #[.int .u64 0, .int .u64 0, .int .u64 0, .int .i64 0] 76) = wa := ⟨_, rfl⟩
  rw [hwa] at hrow hba
  rw [hwa]
  have G0 : Hid (RdW Q r d st J w0 wa hb) := ⟨RI.out.below hba, below_tnd hba Q, by omega, HQ.out, by rw [← hhb]; exact hrow⟩
  clear hwa hrow hba
  refine (HR0.out wa G0.out.ri).mono ?_
  rintro e w1 ⟨rfl, hr1, ht1⟩
  have G1 := Lib.hid (G0.out.turn hr1 ht1)
  clear hr1 ht1 G0
  have hb1 : hb < w1.heap.size := (Array.getElem?_eq_some_iff.1 G1.out.res).1
  obtain ⟨z0, z1, z2, z3⟩ := cells4 G1.out.res
  have zf : ∀ i, w1.frozen? ⟨hb, i, none⟩ = false := fun i => frozen_of_row _ hb i _ _ G1.out.res
  cases o0 with
  | none =>
    simp only [Option.getD_none, hd0, Hd.val, hdE]
    clear z0 z1 z2 z3 zf
    obtain ⟨z0, z1, z2, z3⟩ := cells4 G1.out.res
    have zf : ∀ i, World.frozen? w1 ⟨hb, i, none⟩ = false := fun i => frozen_of_row _ hb i _ _ G1.out.res
    go_wp2_with fail
    change bodyPost _ _ _ _ _ ((setsR w1 hb [(0, .int .u64 0), (1, .int .u64 0), (2, .int .u64 0), (3, .int .i64 0)]).alloc (.cells #[.int .u64 0, .int .u64 0, .int .u64 0, .int .i64 0] 76))
    obtain ⟨hrow, hri, htn⟩ := G1.out.fin [(0, .int .u64 0), (1, .int .u64 0), (2, .int .u64 0), (3, .int .i64 0)]
    generalize setsR w1 hb [(0, .int .u64 0), (1, .int .u64 0), (2, .int .u64 0), (3, .int .i64 0)] = wf at *
    rw [fold4] at hrow
    have hbx : Below wf.heap.size wf (wf.alloc (.cells #[.int .u64 0, .int .u64 0, .int .u64 0, .int .i64 0] 76)) := (Below.refl _ _).alloc (Nat.le_refl _) _
    replace hrow := row_keep hrow hbx
    replace hri := hri.below hbx
    replace htn := htn.below_r hbx
    generalize wf.alloc (.cells #[.int .u64 0, .int .u64 0, .int .u64 0, .int .i64 0] 76) = wg at *
    clear z0 z1 z2 z3 zf
    obtain ⟨z0, z1, z2, z3⟩ := cells4 hrow
    refine bodyPost_ret (v := .tuple #[.agg #[.int .u64 0, .int .u64 0, .int .u64 0, .int .i64 0], .int .i64 20]) (by simp [results, Try.results47, go_sem, z0, z1, z2, z3]) rfl ?_
    exact ⟨rfl, HF1.out _ hri, htn⟩
  | some A =>
    obtain ⟨ta, fa, xa, sa⟩ := A
    simp only [Option.getD_some, Hd.val, hdE]
    go_wp2_with fail
    have hrow2 := heap_alloc_new w1 (.cells #[.int .u64 ta, .int .u64 fa, .int .u64 xa, .int .i64 sa] 76)
    have hba2 : Below w1.heap.size w1 (w1.alloc (.cells #[.int .u64 ta, .int .u64 fa, .int .u64 xa, .int .i64 sa] 76)) := (Below.refl _ _).alloc (Nat.le_refl _) _
    obtain ⟨ha, hha⟩ : ∃ ha, w1.heap.size = ha := ⟨_, rfl⟩
    obtain ⟨w2, hw2⟩ : ∃ w2, w1.alloc (.cells #[.int .u64 ta, .int .u64 fa, .int .u64 xa, .int .i64 sa] 76) = w2 := ⟨_, rfl⟩
    rw [hw2, hha] at hrow2
    rw [hw2] at hba2
    rw [hw2]
    have G2 := Lib.hid (G1.out.below hba2)
    refine (HR1.out w2 G2.out.ri).mono ?_
    rintro e w3 ⟨rfl, hr3, ht3⟩
    have G3 := Lib.hid (G2.out.turn hr3 ht3)
    have hl3 : ha < w3.heap.size := Nat.lt_of_lt_of_le (Array.getElem?_eq_some_iff.1 hrow2).1 ht3.size
    have hbw3 : hb < w3.heap.size := (Array.getElem?_eq_some_iff.1 G3.out.res).1
    have HA3 := Lib.hid ((ht3.block ha (Array.getElem?_eq_some_iff.1 hrow2).1 (fun hq => by have := G1.out.ri.lt ha hq; omega)).trans hrow2)
    have hne : ha ≠ hb := by omega
    clear z0 z1 z2 z3 zf hrow2 hba2 hw2 hr3 ht3 G2 HR1 HR0 G1 HF1
    cases o1 with
    | none =>
      simp only [Option.getD_none, hd0, Hd.val, hdE]
      obtain ⟨z0, z1, z2, z3⟩ := cells4 G3.out.res
      have zf : ∀ i, World.frozen? w3 ⟨hb, i, none⟩ = false := fun i => frozen_of_row _ hb i _ _ G3.out.res
      go_wp2_with fail
      change bodyPost _ _ _ _ _ ((setsR w3 hb [(0, .int .u64 0), (1, .int .u64 0), (2, .int .u64 0), (3, .int .i64 0)]).alloc (.cells #[.int .u64 0, .int .u64 0, .int .u64 0, .int .i64 0] 76))
      obtain ⟨hrow, hri, htn⟩ := G3.out.fin [(0, .int .u64 0), (1, .int .u64 0), (2, .int .u64 0), (3, .int .i64 0)]
      generalize setsR w3 hb [(0, .int .u64 0), (1, .int .u64 0), (2, .int .u64 0), (3, .int .i64 0)] = wf at *
      rw [fold4] at hrow
      have hbx : Below wf.heap.size wf (wf.alloc (.cells #[.int .u64 0, .int .u64 0, .int .u64 0, .int .i64 0] 76)) := (Below.refl _ _).alloc (Nat.le_refl _) _
      replace hrow := row_keep hrow hbx
      replace hri := hri.below hbx
      replace htn := htn.below_r hbx
      generalize wf.alloc (.cells #[.int .u64 0, .int .u64 0, .int .u64 0, .int .i64 0] 76) = wg at *
      clear z0 z1 z2 z3 zf
      obtain ⟨z0, z1, z2, z3⟩ := cells4 hrow
      refine bodyPost_ret (v := .tuple #[.agg #[.int .u64 0, .int .u64 0, .int .u64 0, .int .i64 0], .int .i64 20]) (by simp [results, Try.results47, go_sem, z0, z1, z2, z3]) rfl ?_
      exact ⟨rfl, HF2.out _ hri, htn⟩
    | some B =>
      obtain ⟨tb, fb, xb, sb⟩ := B
      simp only [Option.getD_some, Hd.val, hdE]
      obtain ⟨q0, q1, q2, q3⟩ := cells4 HA3.out
      have HS0 : Hid (((some (⟨ta, fa, xa, sa⟩ : Hd)).bind fun a => (some (⟨tb, fb, xb, sb⟩ : Hd)).bind fun b => stP a b) = stP ⟨ta, fa, xa, sa⟩ ⟨tb, fb, xb, sb⟩) := rfl
      by_cases h1 : ta = IntKind.u64.wrap (tb + 1)
      · have d1 : (ta == IntKind.u64.wrap (tb + 1)) = true := by simpa using h1
        have HS1 : Hid (((some (⟨ta, fa, xa, sa⟩ : Hd)).bind fun a => (some (⟨tb, fb, xb, sb⟩ : Hd)).bind fun b => stP a b) = some ⟨ta, fa, xa, sa⟩) := by show _ = _; rw [HS0.out]; unfold stP; rw [if_pos (by rw [IntKind.wrap_u64] at h1; exact h1)]
        clear h1
        obtain ⟨z0, z1, z2, z3⟩ := cells4 G3.out.res
        have zf : ∀ i, World.frozen? w3 ⟨hb, i, none⟩ = false := fun i => frozen_of_row _ hb i _ _ G3.out.res
        go_wp2_with fail
        change bodyPost _ _ _ _ _ ((setsR w3 hb [(0, .int .u64 ta), (1, .int .u64 fa), (2, .int .u64 xa), (3, .int .i64 sa)]).alloc (.cells #[.int .u64 tb, .int .u64 fb, .int .u64 xb, .int .i64 sb] 76))
        obtain ⟨hrow, hri, htn⟩ := G3.out.fin [(0, .int .u64 ta), (1, .int .u64 fa), (2, .int .u64 xa), (3, .int .i64 sa)]
        generalize setsR w3 hb [(0, .int .u64 ta), (1, .int .u64 fa), (2, .int .u64 xa), (3, .int .i64 sa)] = wf at *
        rw [fold4] at hrow
        have hbx : Below wf.heap.size wf (wf.alloc (.cells #[.int .u64 tb, .int .u64 fb, .int .u64 xb, .int .i64 sb] 76)) := (Below.refl _ _).alloc (Nat.le_refl _) _
        replace hrow := row_keep hrow hbx
        replace hri := hri.below hbx
        replace htn := htn.below_r hbx
        generalize wf.alloc (.cells #[.int .u64 tb, .int .u64 fb, .int .u64 xb, .int .i64 sb] 76) = wg at *
        clear z0 z1 z2 z3 zf
        obtain ⟨z0, z1, z2, z3⟩ := cells4 hrow
        refine bodyPost_ret (v := .tuple #[.agg #[.int .u64 ta, .int .u64 fa, .int .u64 xa, .int .i64 sa], .int .i64 0]) (by simp [results, Try.results47, go_sem, z0, z1, z2, z3]) rfl ?_
        rw [HS1.out]
        exact ⟨rfl, HF2.out _ hri, htn⟩
      · have d1 : (ta == IntKind.u64.wrap (tb + 1)) = false := by simpa using h1
        by_cases h2 : tb = IntKind.u64.wrap (ta + 1)
        · have d2 : (tb == IntKind.u64.wrap (ta + 1)) = true := by simpa using h2
          have HS1 : Hid (((some (⟨ta, fa, xa, sa⟩ : Hd)).bind fun a => (some (⟨tb, fb, xb, sb⟩ : Hd)).bind fun b => stP a b) = some ⟨tb, fb, xb, sb⟩) := by show _ = _; rw [HS0.out]; unfold stP; rw [if_neg (by rw [IntKind.wrap_u64] at h1; exact h1), if_pos (by rw [IntKind.wrap_u64] at h2; exact h2)]
          clear h1 h2
          obtain ⟨z0, z1, z2, z3⟩ := cells4 G3.out.res
          have zf : ∀ i, World.frozen? w3 ⟨hb, i, none⟩ = false := fun i => frozen_of_row _ hb i _ _ G3.out.res
          go_wp2_with fail
          change bodyPost _ _ _ _ _ ((setsR w3 hb [(0, .int .u64 tb), (1, .int .u64 fb), (2, .int .u64 xb), (3, .int .i64 sb)]).alloc (.cells #[.int .u64 tb, .int .u64 fb, .int .u64 xb, .int .i64 sb] 76))
          obtain ⟨hrow, hri, htn⟩ := G3.out.fin [(0, .int .u64 tb), (1, .int .u64 fb), (2, .int .u64 xb), (3, .int .i64 sb)]
          generalize setsR w3 hb [(0, .int .u64 tb), (1, .int .u64 fb), (2, .int .u64 xb), (3, .int .i64 sb)] = wf at *
          rw [fold4] at hrow
          have hbx : Below wf.heap.size wf (wf.alloc (.cells #[.int .u64 tb, .int .u64 fb, .int .u64 xb, .int .i64 sb] 76)) := (Below.refl _ _).alloc (Nat.le_refl _) _
          replace hrow := row_keep hrow hbx
          replace hri := hri.below hbx
          replace htn := htn.below_r hbx
          generalize wf.alloc (.cells #[.int .u64 tb, .int .u64 fb, .int .u64 xb, .int .i64 sb] 76) = wg at *
          clear z0 z1 z2 z3 zf
          obtain ⟨z0, z1, z2, z3⟩ := cells4 hrow
          refine bodyPost_ret (v := .tuple #[.agg #[.int .u64 tb, .int .u64 fb, .int .u64 xb, .int .i64 sb], .int .i64 0]) (by simp [results, Try.results47, go_sem, z0, z1, z2, z3]) rfl ?_
          rw [HS1.out]
          exact ⟨rfl, HF2.out _ hri, htn⟩
        · have d2 : (tb == IntKind.u64.wrap (ta + 1)) = false := by simpa using h2
          have HS1 : Hid (((some (⟨ta, fa, xa, sa⟩ : Hd)).bind fun a => (some (⟨tb, fb, xb, sb⟩ : Hd)).bind fun b => stP a b) = none) := by show _ = _; rw [HS0.out]; unfold stP; rw [if_neg (by rw [IntKind.wrap_u64] at h1; exact h1), if_neg (by rw [IntKind.wrap_u64] at h2; exact h2)]
          clear h1 h2
          obtain ⟨z0, z1, z2, z3⟩ := cells4 G3.out.res
          have zf : ∀ i, World.frozen? w3 ⟨hb, i, none⟩ = false := fun i => frozen_of_row _ hb i _ _ G3.out.res
          go_wp2_with fail
          change bodyPost _ _ _ _ _ ((setsR w3 hb [(0, .int .u64 0), (1, .int .u64 0), (2, .int .u64 0), (3, .int .i64 0)]).alloc (.cells #[.int .u64 tb, .int .u64 fb, .int .u64 xb, .int .i64 sb] 76))
          obtain ⟨hrow, hri, htn⟩ := G3.out.fin [(0, .int .u64 0), (1, .int .u64 0), (2, .int .u64 0), (3, .int .i64 0)]
          generalize setsR w3 hb [(0, .int .u64 0), (1, .int .u64 0), (2, .int .u64 0), (3, .int .i64 0)] = wf at *
          rw [fold4] at hrow
          have hbx : Below wf.heap.size wf (wf.alloc (.cells #[.int .u64 tb, .int .u64 fb, .int .u64 xb, .int .i64 sb] 76)) := (Below.refl _ _).alloc (Nat.le_refl _) _
          replace hrow := row_keep hrow hbx
          replace hri := hri.below hbx
          replace htn := htn.below_r hbx
          generalize wf.alloc (.cells #[.int .u64 tb, .int .u64 fb, .int .u64 xb, .int .i64 sb] 76) = wg at *
          clear z0 z1 z2 z3 zf
          obtain ⟨z0, z1, z2, z3⟩ := cells4 hrow
          refine bodyPost_ret (v := .tuple #[.agg #[.int .u64 0, .int .u64 0, .int .u64 0, .int .i64 0], .int .i64 20]) (by simp [results, Try.results47, go_sem, z0, z1, z2, z3]) rfl ?_
          rw [HS1.out]
          exact ⟨rfl, HF2.out _ hri, htn⟩
end Go.Proofs.Ytlhpdkapddnbcaa
