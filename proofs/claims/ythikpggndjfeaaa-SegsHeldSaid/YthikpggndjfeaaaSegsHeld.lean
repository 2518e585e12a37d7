/- The walk of almanaclaw7.SegsHeld. -/
import Derived.Test.YthikpggndjfeaaaSgHeld
import Derived.Test.YthikpggndjfeaaaOpenSg
import Derived.Deep.Light
namespace Go.Proofs.Ythikpggndjfeaaa
open Go.RowKit
set_option linter.unusedSimpArgs false in
set_option linter.unusedVariables false in
set_option maxRecDepth 100000 in
set_option maxHeartbeats 2000000 in
theorem held_over0 (n k q : Int) (a : Option Addr) (len c : Nat) (w : World) (h0 : 300 < len) :
    Calls Try.prog 3 #[.int .i64 n, .int .i64 k, .int .i64 q, .slice a len c] w fun e w' => e = .returned (.bool true) ∧ Below w.heap.size w w' := by
  have d0 : decide ((300 : Int) < (len : Int)) = true := decide_eq_true (by omega)
  go_enter Try.func3, Try.ntmps3
  go_wp2_with fail
  refine (known7 w).mono ?_
  rintro e w1 ⟨rfl, hb1⟩
  have HB := Lib.hid hb1
  clear hb1
  go_wp2_with fail
  go_ret
  exact ⟨rfl, HB.out⟩
set_option linter.unusedSimpArgs false in
set_option linter.unusedVariables false in
set_option maxRecDepth 100000 in
set_option maxHeartbeats 2000000 in
theorem held_over1 (n k q : Int) (a : Option Addr) (len c : Nat) (w : World) (h0 : ¬ 300 < len) (h1 : n < 1) :
    Calls Try.prog 3 #[.int .i64 n, .int .i64 k, .int .i64 q, .slice a len c] w fun e w' => e = .returned (.bool true) ∧ Below w.heap.size w w' := by
  have d0 : decide ((300 : Int) < (len : Int)) = false := decide_eq_false (by omega)
  have d1 : decide (n < 1) = true := decide_eq_true (by omega)
  go_enter Try.func3, Try.ntmps3
  go_wp2_with fail
  refine (known7 w).mono ?_
  rintro e w1 ⟨rfl, hb1⟩
  have HB := Lib.hid hb1
  clear hb1
  go_wp2_with fail
  go_ret
  exact ⟨rfl, HB.out⟩
set_option linter.unusedSimpArgs false in
set_option linter.unusedVariables false in
set_option maxRecDepth 100000 in
set_option maxHeartbeats 2000000 in
theorem held_over2 (n k q : Int) (a : Option Addr) (len c : Nat) (w : World) (h0 : ¬ 300 < len) (h1 : ¬ n < 1) (h2 : 100 < n) :
    Calls Try.prog 3 #[.int .i64 n, .int .i64 k, .int .i64 q, .slice a len c] w fun e w' => e = .returned (.bool true) ∧ Below w.heap.size w w' := by
  have d0 : decide ((300 : Int) < (len : Int)) = false := decide_eq_false (by omega)
  have d1 : decide (n < 1) = false := decide_eq_false (by omega)
  have d2 : decide ((100 : Int) < n) = true := decide_eq_true (by omega)
  go_enter Try.func3, Try.ntmps3
  go_wp2_with fail
  refine (known7 w).mono ?_
  rintro e w1 ⟨rfl, hb1⟩
  have HB := Lib.hid hb1
  clear hb1
  go_wp2_with fail
  go_ret
  exact ⟨rfl, HB.out⟩
set_option linter.unusedSimpArgs false in
set_option linter.unusedVariables false in
set_option maxRecDepth 100000 in
set_option maxHeartbeats 2000000 in
theorem held_over3 (n k q : Int) (a : Option Addr) (len c : Nat) (w : World) (h0 : ¬ 300 < len) (h1 : ¬ n < 1) (h2 : ¬ 100 < n) (h3 : k < 0) :
    Calls Try.prog 3 #[.int .i64 n, .int .i64 k, .int .i64 q, .slice a len c] w fun e w' => e = .returned (.bool true) ∧ Below w.heap.size w w' := by
  have d0 : decide ((300 : Int) < (len : Int)) = false := decide_eq_false (by omega)
  have d1 : decide (n < 1) = false := decide_eq_false (by omega)
  have d2 : decide ((100 : Int) < n) = false := decide_eq_false (by omega)
  have d3 : decide (k < 0) = true := decide_eq_true (by omega)
  go_enter Try.func3, Try.ntmps3
  go_wp2_with fail
  refine (known7 w).mono ?_
  rintro e w1 ⟨rfl, hb1⟩
  have HB := Lib.hid hb1
  clear hb1
  go_wp2_with fail
  go_ret
  exact ⟨rfl, HB.out⟩
set_option linter.unusedSimpArgs false in
set_option linter.unusedVariables false in
set_option maxRecDepth 100000 in
set_option maxHeartbeats 2000000 in
theorem held_over4 (n k q : Int) (a : Option Addr) (len c : Nat) (w : World) (h0 : ¬ 300 < len) (h1 : ¬ n < 1) (h2 : ¬ 100 < n) (h3 : ¬ k < 0) (h4 : n ≤ k) :
    Calls Try.prog 3 #[.int .i64 n, .int .i64 k, .int .i64 q, .slice a len c] w fun e w' => e = .returned (.bool true) ∧ Below w.heap.size w w' := by
  have d0 : decide ((300 : Int) < (len : Int)) = false := decide_eq_false (by omega)
  have d1 : decide (n < 1) = false := decide_eq_false (by omega)
  have d2 : decide ((100 : Int) < n) = false := decide_eq_false (by omega)
  have d3 : decide (k < 0) = false := decide_eq_false (by omega)
  have d4 : decide (n ≤ k) = true := decide_eq_true (by omega)
  go_enter Try.func3, Try.ntmps3
  go_wp2_with fail
  refine (known7 w).mono ?_
  rintro e w1 ⟨rfl, hb1⟩
  have HB := Lib.hid hb1
  clear hb1
  go_wp2_with fail
  go_ret
  exact ⟨rfl, HB.out⟩
set_option linter.unusedSimpArgs false in
set_option linter.unusedVariables false in
set_option maxRecDepth 100000 in
set_option maxHeartbeats 2000000 in
theorem held_over5 (n k q : Int) (a : Option Addr) (len c : Nat) (w : World) (h0 : ¬ 300 < len) (h1 : ¬ n < 1) (h2 : ¬ 100 < n) (h3 : ¬ k < 0) (h4 : ¬ n ≤ k) (h5 : q < -1099511627776) :
    Calls Try.prog 3 #[.int .i64 n, .int .i64 k, .int .i64 q, .slice a len c] w fun e w' => e = .returned (.bool true) ∧ Below w.heap.size w w' := by
  have d0 : decide ((300 : Int) < (len : Int)) = false := decide_eq_false (by omega)
  have d1 : decide (n < 1) = false := decide_eq_false (by omega)
  have d2 : decide ((100 : Int) < n) = false := decide_eq_false (by omega)
  have d3 : decide (k < 0) = false := decide_eq_false (by omega)
  have d4 : decide (n ≤ k) = false := decide_eq_false (by omega)
  have d5 : decide (q < -1099511627776) = true := decide_eq_true (by omega)
  go_enter Try.func3, Try.ntmps3
  go_wp2_with fail
  refine (known7 w).mono ?_
  rintro e w1 ⟨rfl, hb1⟩
  have HB := Lib.hid hb1
  clear hb1
  go_wp2_with fail
  go_ret
  exact ⟨rfl, HB.out⟩
set_option linter.unusedSimpArgs false in
set_option linter.unusedVariables false in
set_option maxRecDepth 100000 in
set_option maxHeartbeats 2000000 in
theorem held_over6 (n k q : Int) (a : Option Addr) (len c : Nat) (w : World) (h0 : ¬ 300 < len) (h1 : ¬ n < 1) (h2 : ¬ 100 < n) (h3 : ¬ k < 0) (h4 : ¬ n ≤ k) (h5 : ¬ q < -1099511627776) (h6 : 1099511627776 < q) :
    Calls Try.prog 3 #[.int .i64 n, .int .i64 k, .int .i64 q, .slice a len c] w fun e w' => e = .returned (.bool true) ∧ Below w.heap.size w w' := by
  have d0 : decide ((300 : Int) < (len : Int)) = false := decide_eq_false (by omega)
  have d1 : decide (n < 1) = false := decide_eq_false (by omega)
  have d2 : decide ((100 : Int) < n) = false := decide_eq_false (by omega)
  have d3 : decide (k < 0) = false := decide_eq_false (by omega)
  have d4 : decide (n ≤ k) = false := decide_eq_false (by omega)
  have d5 : decide (q < -1099511627776) = false := decide_eq_false (by omega)
  have d6 : decide ((1099511627776 : Int) < q) = true := decide_eq_true (by omega)
  go_enter Try.func3, Try.ntmps3
  go_wp2_with fail
  refine (known7 w).mono ?_
  rintro e w1 ⟨rfl, hb1⟩
  have HB := Lib.hid hb1
  clear hb1
  go_wp2_with fail
  go_ret
  exact ⟨rfl, HB.out⟩
set_option linter.unusedSimpArgs false in
set_option linter.unusedVariables false in
set_option maxRecDepth 100000 in
set_option maxHeartbeats 20000000 in
theorem held_in (n k : Nat) (q : Int) (a : Option Addr) (len c : Nat) (acts : List ActS) (w : World) (hr : RdS ActS.cells 4 w a len c acts) (hwf : ∀ r ∈ acts, r.Wf) (hlen : len ≤ 300) (hn : 1 ≤ n ∧ n ≤ 100) (hk : k < n) (hq : -1099511627776 ≤ q ∧ q ≤ 1099511627776) :
    Calls Try.prog 3 #[.int .i64 n, .int .i64 k, .int .i64 q, .slice a len c] w fun e w' => e = .returned (.bool true) ∧ Below w.heap.size w w' := by
  have d0 : decide ((300 : Int) < (len : Int)) = false := decide_eq_false (by omega)
  have d1 : decide ((n : Int) < 1) = false := decide_eq_false (by omega)
  have d2 : decide ((100 : Int) < (n : Int)) = false := decide_eq_false (by omega)
  have d3 : decide ((k : Int) < 0) = false := decide_eq_false (by omega)
  have d4 : decide ((n : Int) ≤ (k : Int)) = false := decide_eq_false (by omega)
  have d5 : decide (q < -1099511627776) = false := decide_eq_false (by omega)
  have d6 : decide ((1099511627776 : Int) < q) = false := decide_eq_false (by omega)
  have HL := Lib.hid hr
  have HWF := Lib.hid hwf
  clear hr hwf
  go_enter Try.func3, Try.ntmps3
  go_wp2_with fail
  refine (known7 w).mono ?_
  rintro e w1 ⟨rfl, hb1⟩
  have B1 := Lib.hid hb1
  clear hb1
  go_wp2_with fail
  refine (new_any n w1 hn.1 (by omega)).mono ?_
  rintro e w2 ⟨rfl, ht, hb⟩
  have S2 := SgW.made B1.out ht hb
  obtain ⟨d, hd⟩ : ∃ d, w1.heap.size + 1 = d := ⟨_, rfl⟩
  rw [hd] at S2 ⊢
  obtain ⟨mb, hmb⟩ : ∃ mb, w1.heap.size = mb := ⟨_, rfl⟩
  rw [hmb] at S2
  have T2 : Hid (SgW w w2 d mb (LA n 0)) := S2
  clear ht hb S2 hd hmb B1 d0 d1 d2 d3 d4 d5 d6
  go_wp2_with fail
  go_loopw [11] (fun z wr => ∃ j : Nat, j ≤ k + 1 ∧ z = .int .i64 j ∧ Hid (SgW w wr d mb (LA n j))) (fun z _ => k + 1 - (intOf z).toNat)
  case atStart => exact ⟨0, by omega, rfl, T2⟩
  case round =>
    clear T2
    obtain ⟨j, hj, rfl, S⟩ := hrel
    by_cases hjk : j ≤ k
    · have dj : decide ((j : Int) ≤ (k : Int)) = true := decide_eq_true (by omega)
      have djn : decide (j ≤ k) = true := decide_eq_true hjk
      go_wp2_with fail
      refine (take_any d mb _ wr S.out.t).mono ?_
      rintro e w3 ⟨rfl, ht, hg⟩
      rw [takeS_LA (by omega)] at ht
      have S3 := Lib.hid (S.out.step ht hg)
      clear ht hg
      go_wp2_with fail
      go_roundw
      case rel => exact ⟨j + 1, by omega, by go_num, S3⟩
      case measure => simp [intOf] <;> omega
    obtain rfl : j = k + 1 := by omega
    have dj : decide (((k + 1 : Nat) : Int) ≤ (k : Int)) = false := decide_eq_false (by omega)
    have dj2 : decide ((k : Int) + 1 ≤ (k : Int)) = false := decide_eq_false (by omega)
    have djn : decide (k + 1 ≤ k) = false := decide_eq_false (by omega)
    obtain ⟨z1, z2, z3⟩ := held_start (n := n) (k := k) q hk
    have Z1 := Lib.hid z1
    have Z2 := Lib.hid z2
    have Z3 := Lib.hid z3
    clear z1 z2 z3
    go_wp2_with fail
    refine (fill_any d mb _ (k : Int) wr S.out.t).mono ?_
    rintro e w3 ⟨rfl, ht, hg⟩
    rw [Z1.out]
    have S3 := Lib.hid (S.out.step ht hg)
    clear ht hg S
    go_wp2_with fail
    refine (hold_any d mb _ (k : Int) q w3 S3.out.t).mono ?_
    rintro e w4 ⟨rfl, ht, hg⟩
    rw [Z2.out]
    have S4 := Lib.hid (S3.out.step ht hg)
    clear ht hg S3 dj dj2 djn
    go_wp2_with fail
    go_loopw [12] (fun z wr => ∃ i : Nat, i ≤ len ∧ z = .int .i64 i ∧ ∃ L, Hid (SgW w wr d mb L) ∧ Hid (HeldAt n k q L)) (fun z _ => len - (intOf z).toNat)
    case atStart => exact ⟨0, by omega, rfl, _, S4, Z3⟩
    case round =>
      clear S4 Z1 Z2 Z3
      obtain ⟨i, hi, rfl, L, S, HH⟩ := hrel
      by_cases hil : i < len
      · obtain ⟨A, hA⟩ : ∃ A, acts[i]? = some A := ⟨acts[i]'(by rw [HL.out.len]; exact hil), List.getElem?_eq_getElem _⟩
        have HWA := Lib.hid (HWF.out A (List.mem_of_getElem? hA))
        obtain ⟨ab, ao, ea, x0, x1, x2, x3⟩ := (HL.out.below S.out.b).four i A hA
        subst ea
        obtain ⟨op, ky, E, N⟩ := A
        dsimp only at x0 x1 x2 x3
        have HA := Lib.hid hA
        have HWK : Hid ((Lit.int .i64 ky).wf = true) := HWA.out.k
        clear hA
        by_cases o1 : op = 1
        · subst o1
          go_wp2_with fail
          refine (take_any d mb L wr S.out.t).mono ?_
          rintro e w3 ⟨rfl, ht, hg⟩
          have S3 := Lib.hid (S.out.step ht hg)
          have H3 := Lib.hid HH.out.take.1
          have hne := HH.out.take.2
          clear ht hg x0 x1 x2 x3
          obtain ⟨X, hX⟩ : ∃ X, takeX L = X := ⟨_, rfl⟩
          obtain ⟨R, hR⟩ : ∃ R, takeR L = R := ⟨_, rfl⟩
          rw [hX, hR]
          rw [hX, hR] at hne
          clear hX hR
          by_cases h0 : X = 0
          · have hne2 := hne h0
            subst h0
            have dR : (R == (k : Int)) = false := by simpa using hne2
            clear hne hne2
            go_wp2_with fail
            refine (state_any d mb _ (k : Int) w3 S3.out.t).mono ?_
            rintro e w' ⟨rfl, rfl⟩
            rw [H3.out.state hk]
            go_wp2_with fail
            go_roundw
            case rel => exact ⟨i + 1, by omega, by go_num, _, S3, H3⟩
            case measure => simp [intOf] <;> omega
          · have dX : (X == 0) = false := by simpa using h0
            clear hne h0
            go_wp2_with fail
            refine (state_any d mb _ (k : Int) w3 S3.out.t).mono ?_
            rintro e w' ⟨rfl, rfl⟩
            rw [H3.out.state hk]
            go_wp2_with fail
            go_roundw
            case rel => exact ⟨i + 1, by omega, by go_num, _, S3, H3⟩
            case measure => simp [intOf] <;> omega
        have e1 : (op == 1) = false := by simpa using o1
        by_cases o4 : op = 4
        · subst o4
          by_cases hE : q ≤ E
          · have dE : decide (q ≤ E) = true := decide_eq_true hE
            go_wp2_with fail
            go_roundw
            case rel => exact ⟨i + 1, by omega, by go_num, _, S, HH⟩
            case measure => simp [intOf] <;> omega
          have dE : decide (q ≤ E) = false := decide_eq_false hE
          have hlt : E < q := by omega
          clear hE
          go_wp2_with fail
          refine (release_any d mb L E wr S.out.t).mono ?_
          rintro e w3 ⟨v3, rfl, ho, ht, hg⟩
          obtain ⟨f1, f2⟩ := HH.out.rel hlt
          obtain ⟨M, hM⟩ : ∃ M, relL L E = M := ⟨_, rfl⟩
          rw [hM] at ho f2
          obtain ⟨mm, hmm⟩ : ∃ mm, M.length = mm := ⟨_, rfl⟩
          obtain ⟨ra, rc, rfl⟩ := ho.shapeN mm hmm
          have S3 := Lib.hid (S.out.step ht hg)
          have H3 := Lib.hid f1
          have F2 := Lib.hid f2
          have HM := Lib.hid hmm
          have RO := Lib.hid ho.rd
          have hml : mm ≤ 1000000 := by
            have h1 := S3.out.t.ok.n
            rw [← hmm, ← hM]
            unfold relL
            rw [List.length_map]
            have h2 := List.length_filter_le (fun (k : Nat) => goes E (getE L (k : Int))) (List.range L.length)
            rw [List.length_range] at h2
            have h3 : (relS L E).length = L.length := by unfold relS; rw [List.length_map]
            omega
          clear ht hg ho f1 f2 hmm hM x0 x1 x2 x3 dE hlt
          go_wp2_with fail
          go_loopw [16] (fun z wz => ∃ j : Nat, j ≤ mm ∧ z = .int .i64 j ∧ w3 = wz) (fun z _ => mm - (intOf z).toNat)
          case atStart => exact ⟨0, by omega, rfl, rfl⟩
          case round =>
            obtain ⟨j, hj, rfl, rfl⟩ := hrel
            by_cases hjm : j < mm
            · obtain ⟨gb, go, eg, hc⟩ := RO.out.cell j hjm
              subst eg
              obtain ⟨y, hy⟩ : ∃ y, nth M j = y := ⟨_, rfl⟩
              have hyk : y ≠ (k : Int) := by
                rw [← hy, nth_eq (by rw [HM.out]; exact hjm)]
                exact F2.out _ (List.getElem_mem _)
              rw [hy] at hc
              have dy : (y == (k : Int)) = false := by simpa using hyk
              clear hy hyk
              go_wp2_with fail
              go_roundw
              case rel => exact ⟨j + 1, by omega, by go_num, by trivial⟩
              case measure => simp [intOf] <;> omega
            obtain rfl : j = mm := by omega
            go_wp2_with fail
            refine (state_any d mb _ (k : Int) w3 S3.out.t).mono ?_
            rintro e w' ⟨rfl, rfl⟩
            rw [H3.out.state hk]
            go_wp2_with fail
            go_roundw
            case rel => exact ⟨i + 1, by omega, by go_num, _, S3, H3⟩
            case measure => simp [intOf] <;> omega
        have e4 : (op == 4) = false := by simpa using o4
        by_cases o2 : op = 2 ∨ op = 5
        rotate_left
        · have e2 : (op == 2) = false := by rw [beq_eq_false_iff_ne]; omega
          have e5 : (op == 5) = false := by rw [beq_eq_false_iff_ne]; omega
          clear o1 o4 o2 x1 x2 x3
          go_wp2_with fail
          refine (state_any d mb _ (k : Int) wr S.out.t).mono ?_
          rintro e w' ⟨rfl, rfl⟩
          rw [HH.out.state hk]
          go_wp2_with fail
          go_roundw
          case rel => exact ⟨i + 1, by omega, by go_num, _, S, HH⟩
          case measure => simp [intOf] <;> omega
        have FILLS : Hid (∀ wz, SgW w wz d mb L → Calls Try.prog 10 #[.pointer (some ⟨d, 0, none⟩), .int .i64 ky] wz fun e w' => e = .returned (.int .i64 (fillX L ky)) ∧ TbIn w' d mb (fillS L ky) ∧ wz.grownBy w' (some mb)) := fun wz h => fill_any d mb L ky wz h.t
        clear o1 o4
        rcases o2 with rfl | rfl
        · go_wp2_with fail
          refine (FILLS.out wr S.out).mono ?_
          rintro e w3 ⟨rfl, ht, hg⟩
          have S3 := Lib.hid (S.out.step ht hg)
          clear ht hg
          go_wp2_with fail
          have hrd3 : RdS ActS.cells 4 w3.drew (some ⟨ab, ao, none⟩) len c acts := HL.out.below (S3.out.b.trans ⟨rfl, rfl, rfl, Nat.le_refl _, fun _ _ => rfl⟩)
          have htb3 : TbIn w3.drew d mb (fillS L ky) := S3.out.t.at0 rfl
          have hgr3 : World.grownBy w3 w3.drew (some mb) := ⟨rfl, rfl, rfl, Nat.le_refl _, fun _ _ _ => rfl⟩
          clear x0 x1 x2 x3
          refine' reg_order [eqV _, eqV _, eqV _, eqV _, eqV _, eqV _, eqV _, eqV _, eqV _, eqV _, eqV _, eqV _, (fun _ w5 => TbIn w5 d mb (addS (fillS L ky) ky (N.tmod 100)))] [(12, fun w w' => World.grownBy w w' (some mb))] [(5, fun w5 => RdS ActS.cells 4 w5 (some ⟨ab, ao, none⟩) len c acts), (10, fun w5 => RdS ActS.cells 4 w5 (some ⟨ab, ao, none⟩) len c acts), (12, fun w5 => TbIn w5 d mb (fillS L ky)), (13, fun w5 => World.grownBy w3 w5 (some mb))] [141, 142, 143, 144, 145, 146, 147, 148, 149, 150, 151, 152, 153] [[], [], [], [1, 2], [3], [4], [], [], [6, 7], [8], [9], [10], [0, 5, 11]] [0, 1, 2, 3, 4, 5, 6, 7, 8, 9, 10, 11, 12] 13 (by kernel_rfl) ⟨eqV_stays _, eqV_stays _, eqV_stays _, eqV_stays _, eqV_stays _, eqV_stays _, eqV_stays _, eqV_stays _, eqV_stays _, eqV_stays _, eqV_stays _, eqV_stays _, fun _ _ _ p b => TbIn.below p b, trivial⟩ ⟨⟨.inl (eqV_stays _), .inl (eqV_stays _), .inl (eqV_stays _), .inl (eqV_stays _), .inl (eqV_stays _), .inl (eqV_stays _), .inl (eqV_stays _), .inl (eqV_stays _), .inl (eqV_stays _), .inl (eqV_stays _), .inl (eqV_stays _), .inl (eqV_stays _), .inr (.inr rfl), trivial⟩, trivial⟩ ⟨fun _ _ p b => RdS.below p b, fun _ _ p b => RdS.below p b, fun _ _ p b => TbIn.below p b, fun _ _ p b => grownB p b, trivial⟩ ⟨⟨.inr (.inl (by kernel_rfl)), .inr (.inl (by kernel_rfl)), .inr (.inr rfl), .inl (fun _ _ p g => grown_one p g), trivial⟩, trivial⟩ ⟨hrd3, hrd3, htb3, hgr3, trivial⟩ 183 rfl (by kernel_rfl) (by kernel_rfl) rfl rfl 13 rfl ?q1obl ?q1fin
          case q1obl =>
            refine And.intro ?q1o0 (And.intro ?q1o1 (And.intro ?q1o2 (And.intro ?q1o3 (And.intro ?q1o4 (And.intro ?q1o5 (And.intro ?q1o6 (And.intro ?q1o7 (And.intro ?q1o8 (And.intro ?q1o9 (And.intro ?q1o10 (And.intro ?q1o11 (And.intro ?q1o12 (True.intro)))))))))))))
            case q1o0 =>
              intro w1 hI
              go_light
              refine turn2_on (by rfl) ?_
              intro K hK
              go_simp
              refine hK _ _ ⟨rfl, Kept.refl _, ?_⟩
              show _ = _
              simp only [List.getD_cons_zero, List.getD_cons_succ, Array.getD_eq_getD_getElem?, List.getElem?_toArray, List.getElem?_cons_zero, List.getElem?_cons_succ, Option.getD_some]
              rfl
            case q1o1 =>
              intro w1 hI
              go_light
              refine turn2_on (by rfl) ?_
              intro K hK
              go_simp
              refine hK _ _ ⟨rfl, Kept.refl _, ?_⟩
              show _ = _
              simp only [List.getD_cons_zero, List.getD_cons_succ, Array.getD_eq_getD_getElem?, List.getElem?_toArray, List.getElem?_cons_zero, List.getElem?_cons_succ, Option.getD_some]
              rfl
            case q1o2 =>
              intro w1 hI
              go_light
              refine turn2_on (by rfl) ?_
              intro K hK
              go_simp
              refine hK _ _ ⟨rfl, Kept.refl _, ?_⟩
              show _ = _
              simp only [List.getD_cons_zero, List.getD_cons_succ, Array.getD_eq_getD_getElem?, List.getElem?_toArray, List.getElem?_cons_zero, List.getElem?_cons_succ, Option.getD_some]
              rfl
            case q1o3 =>
              intro w1 hI
              go_light
              intro v1 h1
              change _ = _ at h1
              subst v1
              intro v2 h2
              change _ = _ at h2
              subst v2
              refine turn2_on (by rfl) ?_
              intro K hK
              simp only [List.getD_cons_zero, List.getD_cons_succ, List.setIfInBounds_toArray, List.set_cons_zero, List.set_cons_succ]
              go_simp
              refine hK _ _ ⟨rfl, Kept.refl _, ?_⟩
              show _ = _
              simp only [List.getD_cons_zero, List.getD_cons_succ, Array.getD_eq_getD_getElem?, List.getElem?_toArray, List.getElem?_cons_zero, List.getElem?_cons_succ, Option.getD_some]
              rfl
            case q1o4 =>
              intro w1 hI
              go_light
              intro v3 h3
              change _ = _ at h3
              subst v3
              refine turn2_on (by rfl) ?_
              intro K hK
              simp only [List.getD_cons_zero, List.getD_cons_succ, List.setIfInBounds_toArray, List.set_cons_zero, List.set_cons_succ]
              go_simp
              refine hK _ _ ⟨rfl, Kept.refl _, ?_⟩
              show _ = _
              simp only [List.getD_cons_zero, List.getD_cons_succ, Array.getD_eq_getD_getElem?, List.getElem?_toArray, List.getElem?_cons_zero, List.getElem?_cons_succ, Option.getD_some]
              rfl
            case q1o5 =>
              intro w1 hI
              go_light
              replace hI : (fun w5 => RdS ActS.cells 4 w5 (some ⟨ab, ao, none⟩) len c acts) w1 := hI
              intro v4 h4
              change _ = _ at h4
              subst v4
              refine turn2_on (by rfl) ?_
              intro K hK
              simp only [List.getD_cons_zero, List.getD_cons_succ, List.setIfInBounds_toArray, List.set_cons_zero, List.set_cons_succ]
              obtain ⟨gb, go, ge, x0, x1, x2, x3⟩ := RdS.four hI i _ HA.out
              injection ge with ge
              injection ge with g1 g2
              subst g1 g2
              dsimp only at x0 x1 x2 x3
              go_simp
              refine hK _ _ ⟨rfl, Kept.refl _, ?_⟩
              show _ = _
              simp only [List.getD_cons_zero, List.getD_cons_succ, Array.getD_eq_getD_getElem?, List.getElem?_toArray, List.getElem?_cons_zero, List.getElem?_cons_succ, Option.getD_some]
              rfl
            case q1o6 =>
              intro w1 hI
              go_light
              refine turn2_on (by rfl) ?_
              intro K hK
              go_simp
              refine hK _ _ ⟨rfl, Kept.refl _, ?_⟩
              show _ = _
              simp only [List.getD_cons_zero, List.getD_cons_succ, Array.getD_eq_getD_getElem?, List.getElem?_toArray, List.getElem?_cons_zero, List.getElem?_cons_succ, Option.getD_some]
              rfl
            case q1o7 =>
              intro w1 hI
              go_light
              refine turn2_on (by rfl) ?_
              intro K hK
              go_simp
              refine hK _ _ ⟨rfl, Kept.refl _, ?_⟩
              show _ = _
              simp only [List.getD_cons_zero, List.getD_cons_succ, Array.getD_eq_getD_getElem?, List.getElem?_toArray, List.getElem?_cons_zero, List.getElem?_cons_succ, Option.getD_some]
              rfl
            case q1o8 =>
              intro w1 hI
              go_light
              intro v6 h6
              change _ = _ at h6
              subst v6
              intro v7 h7
              change _ = _ at h7
              subst v7
              refine turn2_on (by rfl) ?_
              intro K hK
              simp only [List.getD_cons_zero, List.getD_cons_succ, List.setIfInBounds_toArray, List.set_cons_zero, List.set_cons_succ]
              go_simp
              refine hK _ _ ⟨rfl, Kept.refl _, ?_⟩
              show _ = _
              simp only [List.getD_cons_zero, List.getD_cons_succ, Array.getD_eq_getD_getElem?, List.getElem?_toArray, List.getElem?_cons_zero, List.getElem?_cons_succ, Option.getD_some]
              rfl
            case q1o9 =>
              intro w1 hI
              go_light
              intro v8 h8
              change _ = _ at h8
              subst v8
              refine turn2_on (by rfl) ?_
              intro K hK
              simp only [List.getD_cons_zero, List.getD_cons_succ, List.setIfInBounds_toArray, List.set_cons_zero, List.set_cons_succ]
              go_simp
              refine hK _ _ ⟨rfl, Kept.refl _, ?_⟩
              show _ = _
              simp only [List.getD_cons_zero, List.getD_cons_succ, Array.getD_eq_getD_getElem?, List.getElem?_toArray, List.getElem?_cons_zero, List.getElem?_cons_succ, Option.getD_some]
              rfl
            case q1o10 =>
              intro w1 hI
              go_light
              replace hI : (fun w5 => RdS ActS.cells 4 w5 (some ⟨ab, ao, none⟩) len c acts) w1 := hI
              intro v9 h9
              change _ = _ at h9
              subst v9
              refine turn2_on (by rfl) ?_
              intro K hK
              simp only [List.getD_cons_zero, List.getD_cons_succ, List.setIfInBounds_toArray, List.set_cons_zero, List.set_cons_succ]
              obtain ⟨gb, go, ge, x0, x1, x2, x3⟩ := RdS.four hI i _ HA.out
              injection ge with ge
              injection ge with g1 g2
              subst g1 g2
              dsimp only at x0 x1 x2 x3
              go_simp
              refine hK _ _ ⟨rfl, Kept.refl _, ?_⟩
              show _ = _
              simp only [List.getD_cons_zero, List.getD_cons_succ, Array.getD_eq_getD_getElem?, List.getElem?_toArray, List.getElem?_cons_zero, List.getElem?_cons_succ, Option.getD_some]
              rfl
            case q1o11 =>
              intro w1 hI
              go_light
              intro v10 h10
              change _ = _ at h10
              subst v10
              refine turn2_on (by rfl) ?_
              intro K hK
              simp only [List.getD_cons_zero, List.getD_cons_succ, List.setIfInBounds_toArray, List.set_cons_zero, List.set_cons_succ]
              go_simp
              refine hK _ _ ⟨rfl, Kept.refl _, ?_⟩
              show _ = _
              simp only [List.getD_cons_zero, List.getD_cons_succ, Array.getD_eq_getD_getElem?, List.getElem?_toArray, List.getElem?_cons_zero, List.getElem?_cons_succ, Option.getD_some]
              rfl
            case q1o12 =>
              intro w1 hI
              go_light
              replace hI : (fun w5 => TbIn w5 d mb (fillS L ky)) w1 := hI
              intro v0 h0
              change _ = _ at h0
              subst v0
              intro v5 h5
              change _ = _ at h5
              subst v5
              intro v11 h11
              change _ = _ at h11
              subst v11
              refine turn2_on (by rfl) ?_
              intro K hK
              simp only [List.getD_cons_zero, List.getD_cons_succ, List.setIfInBounds_toArray, List.set_cons_zero, List.set_cons_succ]
              go_simp
              refine Calls.mono (add_any d mb (fillS L ky) ky (N.tmod 100) w1 hI HWK.out) ?_
              rintro e w9 ⟨rfl, ht9, hg9⟩
              refine hK _ _ ⟨rfl, hg9, ?_⟩
              exact ht9
          intro w4 hI
          replace hI : (fun w5 => World.grownBy w3 w5 (some mb)) w4 := hI
          intro v0 h0
          change _ = _ at h0
          subst v0
          intro v1 h1
          change _ = _ at h1
          subst v1
          intro v2 h2
          change _ = _ at h2
          subst v2
          intro v3 h3
          change _ = _ at h3
          subst v3
          intro v4 h4
          change _ = _ at h4
          subst v4
          intro v5 h5
          change _ = _ at h5
          subst v5
          intro v6 h6
          change _ = _ at h6
          subst v6
          intro v7 h7
          change _ = _ at h7
          subst v7
          intro v8 h8
          change _ = _ at h8
          subst v8
          intro v9 h9
          change _ = _ at h9
          subst v9
          intro v10 h10
          change _ = _ at h10
          subst v10
          intro v11 h11
          change _ = _ at h11
          subst v11
          intro v12 h12
          simp only [Given, List.getD_cons_zero, List.getD_cons_succ, List.setIfInBounds_toArray, List.set_cons_zero, List.set_cons_succ]
          have S4 := Lib.hid (S3.out.step h12 hI)
          have H4 := Lib.hid ((HH.out.fill ky).add ky (N.tmod 100))
          clear h12 hI hrd3 htb3 hgr3 S3
          go_wp2_with fail
          refine (state_any d mb _ (k : Int) w4 S4.out.t).mono ?_
          rintro e w' ⟨rfl, rfl⟩
          rw [H4.out.state hk]
          go_wp2_with fail
          go_roundw
          case rel => exact ⟨i + 1, by omega, by go_num, _, S4, H4⟩
          case measure => simp [intOf] <;> omega
        · go_wp2_with fail
          refine (FILLS.out wr S.out).mono ?_
          rintro e w3 ⟨rfl, ht, hg⟩
          have S3 := Lib.hid (S.out.step ht hg)
          clear ht hg
          go_wp2_with fail
          have hrd3 : RdS ActS.cells 4 w3.drew (some ⟨ab, ao, none⟩) len c acts := HL.out.below (S3.out.b.trans ⟨rfl, rfl, rfl, Nat.le_refl _, fun _ _ => rfl⟩)
          have htb3 : TbIn w3.drew d mb (fillS L ky) := S3.out.t.at0 rfl
          have hgr3 : World.grownBy w3 w3.drew (some mb) := ⟨rfl, rfl, rfl, Nat.le_refl _, fun _ _ _ => rfl⟩
          clear x0 x1 x2 x3
          refine' reg_order [eqV _, eqV _, eqV _, eqV _, eqV _, eqV _, eqV _, eqV _, eqV _, eqV _, eqV _, eqV _, (fun _ w5 => TbIn w5 d mb (addS (fillS L ky) ky (N.tmod 100)))] [(12, fun w w' => World.grownBy w w' (some mb))] [(5, fun w5 => RdS ActS.cells 4 w5 (some ⟨ab, ao, none⟩) len c acts), (10, fun w5 => RdS ActS.cells 4 w5 (some ⟨ab, ao, none⟩) len c acts), (12, fun w5 => TbIn w5 d mb (fillS L ky)), (13, fun w5 => World.grownBy w3 w5 (some mb))] [141, 142, 143, 144, 145, 146, 147, 148, 149, 150, 151, 152, 153] [[], [], [], [1, 2], [3], [4], [], [], [6, 7], [8], [9], [10], [0, 5, 11]] [0, 1, 2, 3, 4, 5, 6, 7, 8, 9, 10, 11, 12] 13 (by kernel_rfl) ⟨eqV_stays _, eqV_stays _, eqV_stays _, eqV_stays _, eqV_stays _, eqV_stays _, eqV_stays _, eqV_stays _, eqV_stays _, eqV_stays _, eqV_stays _, eqV_stays _, fun _ _ _ p b => TbIn.below p b, trivial⟩ ⟨⟨.inl (eqV_stays _), .inl (eqV_stays _), .inl (eqV_stays _), .inl (eqV_stays _), .inl (eqV_stays _), .inl (eqV_stays _), .inl (eqV_stays _), .inl (eqV_stays _), .inl (eqV_stays _), .inl (eqV_stays _), .inl (eqV_stays _), .inl (eqV_stays _), .inr (.inr rfl), trivial⟩, trivial⟩ ⟨fun _ _ p b => RdS.below p b, fun _ _ p b => RdS.below p b, fun _ _ p b => TbIn.below p b, fun _ _ p b => grownB p b, trivial⟩ ⟨⟨.inr (.inl (by kernel_rfl)), .inr (.inl (by kernel_rfl)), .inr (.inr rfl), .inl (fun _ _ p g => grown_one p g), trivial⟩, trivial⟩ ⟨hrd3, hrd3, htb3, hgr3, trivial⟩ 183 rfl (by kernel_rfl) (by kernel_rfl) rfl rfl 13 rfl ?p1obl ?p1fin
          case p1obl =>
            refine And.intro ?p1o0 (And.intro ?p1o1 (And.intro ?p1o2 (And.intro ?p1o3 (And.intro ?p1o4 (And.intro ?p1o5 (And.intro ?p1o6 (And.intro ?p1o7 (And.intro ?p1o8 (And.intro ?p1o9 (And.intro ?p1o10 (And.intro ?p1o11 (And.intro ?p1o12 (True.intro)))))))))))))
            case p1o0 =>
              intro w1 hI
              go_light
              refine turn2_on (by rfl) ?_
              intro K hK
              go_simp
              refine hK _ _ ⟨rfl, Kept.refl _, ?_⟩
              show _ = _
              simp only [List.getD_cons_zero, List.getD_cons_succ, Array.getD_eq_getD_getElem?, List.getElem?_toArray, List.getElem?_cons_zero, List.getElem?_cons_succ, Option.getD_some]
              rfl
            case p1o1 =>
              intro w1 hI
              go_light
              refine turn2_on (by rfl) ?_
              intro K hK
              go_simp
              refine hK _ _ ⟨rfl, Kept.refl _, ?_⟩
              show _ = _
              simp only [List.getD_cons_zero, List.getD_cons_succ, Array.getD_eq_getD_getElem?, List.getElem?_toArray, List.getElem?_cons_zero, List.getElem?_cons_succ, Option.getD_some]
              rfl
            case p1o2 =>
              intro w1 hI
              go_light
              refine turn2_on (by rfl) ?_
              intro K hK
              go_simp
              refine hK _ _ ⟨rfl, Kept.refl _, ?_⟩
              show _ = _
              simp only [List.getD_cons_zero, List.getD_cons_succ, Array.getD_eq_getD_getElem?, List.getElem?_toArray, List.getElem?_cons_zero, List.getElem?_cons_succ, Option.getD_some]
              rfl
            case p1o3 =>
              intro w1 hI
              go_light
              intro v1 h1
              change _ = _ at h1
              subst v1
              intro v2 h2
              change _ = _ at h2
              subst v2
              refine turn2_on (by rfl) ?_
              intro K hK
              simp only [List.getD_cons_zero, List.getD_cons_succ, List.setIfInBounds_toArray, List.set_cons_zero, List.set_cons_succ]
              go_simp
              refine hK _ _ ⟨rfl, Kept.refl _, ?_⟩
              show _ = _
              simp only [List.getD_cons_zero, List.getD_cons_succ, Array.getD_eq_getD_getElem?, List.getElem?_toArray, List.getElem?_cons_zero, List.getElem?_cons_succ, Option.getD_some]
              rfl
            case p1o4 =>
              intro w1 hI
              go_light
              intro v3 h3
              change _ = _ at h3
              subst v3
              refine turn2_on (by rfl) ?_
              intro K hK
              simp only [List.getD_cons_zero, List.getD_cons_succ, List.setIfInBounds_toArray, List.set_cons_zero, List.set_cons_succ]
              go_simp
              refine hK _ _ ⟨rfl, Kept.refl _, ?_⟩
              show _ = _
              simp only [List.getD_cons_zero, List.getD_cons_succ, Array.getD_eq_getD_getElem?, List.getElem?_toArray, List.getElem?_cons_zero, List.getElem?_cons_succ, Option.getD_some]
              rfl
            case p1o5 =>
              intro w1 hI
              go_light
              replace hI : (fun w5 => RdS ActS.cells 4 w5 (some ⟨ab, ao, none⟩) len c acts) w1 := hI
              intro v4 h4
              change _ = _ at h4
              subst v4
              refine turn2_on (by rfl) ?_
              intro K hK
              simp only [List.getD_cons_zero, List.getD_cons_succ, List.setIfInBounds_toArray, List.set_cons_zero, List.set_cons_succ]
              obtain ⟨gb, go, ge, x0, x1, x2, x3⟩ := RdS.four hI i _ HA.out
              injection ge with ge
              injection ge with g1 g2
              subst g1 g2
              dsimp only at x0 x1 x2 x3
              go_simp
              refine hK _ _ ⟨rfl, Kept.refl _, ?_⟩
              show _ = _
              simp only [List.getD_cons_zero, List.getD_cons_succ, Array.getD_eq_getD_getElem?, List.getElem?_toArray, List.getElem?_cons_zero, List.getElem?_cons_succ, Option.getD_some]
              rfl
            case p1o6 =>
              intro w1 hI
              go_light
              refine turn2_on (by rfl) ?_
              intro K hK
              go_simp
              refine hK _ _ ⟨rfl, Kept.refl _, ?_⟩
              show _ = _
              simp only [List.getD_cons_zero, List.getD_cons_succ, Array.getD_eq_getD_getElem?, List.getElem?_toArray, List.getElem?_cons_zero, List.getElem?_cons_succ, Option.getD_some]
              rfl
            case p1o7 =>
              intro w1 hI
              go_light
              refine turn2_on (by rfl) ?_
              intro K hK
              go_simp
              refine hK _ _ ⟨rfl, Kept.refl _, ?_⟩
              show _ = _
              simp only [List.getD_cons_zero, List.getD_cons_succ, Array.getD_eq_getD_getElem?, List.getElem?_toArray, List.getElem?_cons_zero, List.getElem?_cons_succ, Option.getD_some]
              rfl
            case p1o8 =>
              intro w1 hI
              go_light
              intro v6 h6
              change _ = _ at h6
              subst v6
              intro v7 h7
              change _ = _ at h7
              subst v7
              refine turn2_on (by rfl) ?_
              intro K hK
              simp only [List.getD_cons_zero, List.getD_cons_succ, List.setIfInBounds_toArray, List.set_cons_zero, List.set_cons_succ]
              go_simp
              refine hK _ _ ⟨rfl, Kept.refl _, ?_⟩
              show _ = _
              simp only [List.getD_cons_zero, List.getD_cons_succ, Array.getD_eq_getD_getElem?, List.getElem?_toArray, List.getElem?_cons_zero, List.getElem?_cons_succ, Option.getD_some]
              rfl
            case p1o9 =>
              intro w1 hI
              go_light
              intro v8 h8
              change _ = _ at h8
              subst v8
              refine turn2_on (by rfl) ?_
              intro K hK
              simp only [List.getD_cons_zero, List.getD_cons_succ, List.setIfInBounds_toArray, List.set_cons_zero, List.set_cons_succ]
              go_simp
              refine hK _ _ ⟨rfl, Kept.refl _, ?_⟩
              show _ = _
              simp only [List.getD_cons_zero, List.getD_cons_succ, Array.getD_eq_getD_getElem?, List.getElem?_toArray, List.getElem?_cons_zero, List.getElem?_cons_succ, Option.getD_some]
              rfl
            case p1o10 =>
              intro w1 hI
              go_light
              replace hI : (fun w5 => RdS ActS.cells 4 w5 (some ⟨ab, ao, none⟩) len c acts) w1 := hI
              intro v9 h9
              change _ = _ at h9
              subst v9
              refine turn2_on (by rfl) ?_
              intro K hK
              simp only [List.getD_cons_zero, List.getD_cons_succ, List.setIfInBounds_toArray, List.set_cons_zero, List.set_cons_succ]
              obtain ⟨gb, go, ge, x0, x1, x2, x3⟩ := RdS.four hI i _ HA.out
              injection ge with ge
              injection ge with g1 g2
              subst g1 g2
              dsimp only at x0 x1 x2 x3
              go_simp
              refine hK _ _ ⟨rfl, Kept.refl _, ?_⟩
              show _ = _
              simp only [List.getD_cons_zero, List.getD_cons_succ, Array.getD_eq_getD_getElem?, List.getElem?_toArray, List.getElem?_cons_zero, List.getElem?_cons_succ, Option.getD_some]
              rfl
            case p1o11 =>
              intro w1 hI
              go_light
              intro v10 h10
              change _ = _ at h10
              subst v10
              refine turn2_on (by rfl) ?_
              intro K hK
              simp only [List.getD_cons_zero, List.getD_cons_succ, List.setIfInBounds_toArray, List.set_cons_zero, List.set_cons_succ]
              go_simp
              refine hK _ _ ⟨rfl, Kept.refl _, ?_⟩
              show _ = _
              simp only [List.getD_cons_zero, List.getD_cons_succ, Array.getD_eq_getD_getElem?, List.getElem?_toArray, List.getElem?_cons_zero, List.getElem?_cons_succ, Option.getD_some]
              rfl
            case p1o12 =>
              intro w1 hI
              go_light
              replace hI : (fun w5 => TbIn w5 d mb (fillS L ky)) w1 := hI
              intro v0 h0
              change _ = _ at h0
              subst v0
              intro v5 h5
              change _ = _ at h5
              subst v5
              intro v11 h11
              change _ = _ at h11
              subst v11
              refine turn2_on (by rfl) ?_
              intro K hK
              simp only [List.getD_cons_zero, List.getD_cons_succ, List.setIfInBounds_toArray, List.set_cons_zero, List.set_cons_succ]
              go_simp
              refine Calls.mono (add_any d mb (fillS L ky) ky (N.tmod 100) w1 hI HWK.out) ?_
              rintro e w9 ⟨rfl, ht9, hg9⟩
              refine hK _ _ ⟨rfl, hg9, ?_⟩
              exact ht9
          intro w4 hI
          replace hI : (fun w5 => World.grownBy w3 w5 (some mb)) w4 := hI
          intro v0 h0
          change _ = _ at h0
          subst v0
          intro v1 h1
          change _ = _ at h1
          subst v1
          intro v2 h2
          change _ = _ at h2
          subst v2
          intro v3 h3
          change _ = _ at h3
          subst v3
          intro v4 h4
          change _ = _ at h4
          subst v4
          intro v5 h5
          change _ = _ at h5
          subst v5
          intro v6 h6
          change _ = _ at h6
          subst v6
          intro v7 h7
          change _ = _ at h7
          subst v7
          intro v8 h8
          change _ = _ at h8
          subst v8
          intro v9 h9
          change _ = _ at h9
          subst v9
          intro v10 h10
          change _ = _ at h10
          subst v10
          intro v11 h11
          change _ = _ at h11
          subst v11
          intro v12 h12
          simp only [Given, List.getD_cons_zero, List.getD_cons_succ, List.setIfInBounds_toArray, List.set_cons_zero, List.set_cons_succ]
          have S4 := Lib.hid (S3.out.step h12 hI)
          have H4 := Lib.hid ((HH.out.fill ky).add ky (N.tmod 100))
          clear h12 hI hrd3 htb3 hgr3 S3
          go_wp2_with fail
          refine (state_any d mb _ (k : Int) w4 S4.out.t).mono ?_
          rintro e w' ⟨rfl, rfl⟩
          rw [H4.out.state hk]
          go_wp2_with fail
          go_roundw
          case rel => exact ⟨i + 1, by omega, by go_num, _, S4, H4⟩
          case measure => simp [intOf] <;> omega
      · obtain rfl : i = len := by omega
        have F0 := Lib.hid HH.out.fin
        go_wp2_with fail
        refine (release_any d mb L q wr S.out.t).mono ?_
        rintro e w3 ⟨v3, rfl, ho, ht, hg⟩
        obtain ⟨M, hM⟩ : ∃ M, relL L q = M := ⟨_, rfl⟩
        obtain ⟨mm, hmm⟩ : ∃ mm, M.length = mm := ⟨_, rfl⟩
        have hin : (k : Int) ∈ M := by rw [← hM]; exact F0.out.1
        rw [hM] at ho
        obtain ⟨ra, rc, rfl⟩ := ho.shapeN mm hmm
        have S3 := Lib.hid (S.out.step ht hg)
        have HM := Lib.hid hmm
        have HIN := Lib.hid hin
        have RO := Lib.hid ho.rd
        have hst : stE (relS L q) k = 0 := by unfold stE; rw [if_pos F0.out.2.2, F0.out.2.1]; rfl
        have hus : (getE (relS L q) k).us = 0 := by rw [F0.out.2.1]; rfl
        have HST := Lib.hid hst
        have HUS := Lib.hid hus
        have hml : mm ≤ 1000000 := by
          have h1 := S3.out.t.ok.n
          rw [← hmm, ← hM]
          unfold relL
          rw [List.length_map]
          have h2 := List.length_filter_le (fun (k : Nat) => goes q (getE L (k : Int))) (List.range L.length)
          rw [List.length_range] at h2
          have h3 : (relS L q).length = L.length := by unfold relS; rw [List.length_map]
          omega
        clear ht hg ho hmm hM hin hst hus
        go_wp2_with fail
        go_loopw [18] (fun z wz => ∃ j : Nat, j ≤ mm ∧ z = .int .i64 j ∧ w3 = wz ∧ Hid (∀ t, t < j → nth M t ≠ (k : Int))) (fun z _ => mm - (intOf z).toNat)
        case atStart => exact ⟨0, by omega, rfl, rfl, fun t ht => by omega⟩
        case round =>
          obtain ⟨j, hj, rfl, rfl, HN⟩ := hrel
          by_cases hjm : j < mm
          · obtain ⟨gb, go, eg, hc⟩ := RO.out.cell j hjm
            subst eg
            obtain ⟨y, hy⟩ : ∃ y, nth M j = y := ⟨_, rfl⟩
            rw [hy] at hc
            have HY := Lib.hid hy
            clear hy
            by_cases hyk : y = (k : Int)
            · subst hyk
              go_wp2_with fail
              refine (state_any d mb _ (k : Int) w3 S3.out.t).mono ?_
              rintro e w' ⟨rfl, rfl⟩
              rw [HST.out]
              go_wp2_with fail
              refine (used_any d mb _ (k : Int) w3 S3.out.t (WalkArith.wf_i64 ⟨by omega, by omega⟩)).mono ?_
              rintro e w' ⟨rfl, rfl⟩
              rw [HUS.out]
              go_wp2_with fail
              go_ret
              exact ⟨rfl, S3.out.b⟩
            · have dy : (y == (k : Int)) = false := by simpa using hyk
              have HN2 : Hid (∀ t, t < j + 1 → nth M t ≠ (k : Int)) := fun t ht => by
                by_cases e : t = j
                · subst e; rw [HY.out]; exact hyk
                · exact HN.out t (by omega)
              clear hyk
              go_wp2_with fail
              go_roundw
              case rel => exact ⟨j + 1, by omega, by go_num, by trivial, HN2⟩
              case measure => simp [intOf] <;> omega
          obtain rfl : j = mm := by omega
          obtain ⟨t, ht, e⟩ := List.getElem_of_mem HIN.out
          exact (HN.out t (by rw [← HM.out]; exact ht) (by rw [nth_eq ht]; exact e)).elim
set_option maxRecDepth 100000 in
theorem segsHeld_walk (n k q : Int) (a : Option Addr) (len c : Nat) (acts : List ActS) (w : World) (_ : (Lit.int .i64 n).wf = true) (_ : (Lit.int .i64 k).wf = true) (_ : (Lit.int .i64 q).wf = true) (hr : RdS ActS.cells 4 w a len c acts ∧ ∀ r ∈ acts, r.Wf) :
    Calls Try.prog 3 #[.int .i64 n, .int .i64 k, .int .i64 q, .slice a len c] w fun e w' => e = .returned (.bool true) ∧ Below w.heap.size w w' := by
  by_cases h0 : 300 < len
  · exact held_over0 n k q a len c w h0
  by_cases h1 : n < 1
  · exact held_over1 n k q a len c w h0 h1
  by_cases h2 : 100 < n
  · exact held_over2 n k q a len c w h0 h1 h2
  by_cases h3 : k < 0
  · exact held_over3 n k q a len c w h0 h1 h2 h3
  by_cases h4 : n ≤ k
  · exact held_over4 n k q a len c w h0 h1 h2 h3 h4
  by_cases h5 : q < -1099511627776
  · exact held_over5 n k q a len c w h0 h1 h2 h3 h4 h5
  by_cases h6 : 1099511627776 < q
  · exact held_over6 n k q a len c w h0 h1 h2 h3 h4 h5 h6
  obtain ⟨m, rfl⟩ := Int.eq_ofNat_of_zero_le (show 0 ≤ n by omega)
  obtain ⟨x, rfl⟩ := Int.eq_ofNat_of_zero_le (show 0 ≤ k by omega)
  exact held_in m x q a len c acts w hr.1 hr.2 (by omega) ⟨by omega, by omega⟩ (by omega) ⟨by omega, by omega⟩
end Go.Proofs.Ythikpggndjfeaaa
