/- The walk of almanaclaw7.SegsPlays. -/
import Derived.Test.YthikpggndjfeaaaSgLooks
import Derived.Test.YthikpggndjfeaaaSgFulls
import Derived.Deep.DeepCutAuto
namespace Go.Proofs.Ythikpggndjfeaaa
open Go.RowKit
theorem Tw.base {b mb g : Nat} {w0 w w' : World} (h : Below b w0 w) (t : Tw mb g w w') (h1 : b ≤ mb) (h2 : b ≤ g) (h3 : b ≤ w.heap.size) : Below b w0 w' :=
  ⟨t.os.trans h.os, t.tape.trans h.tape, t.output.trans h.output, Nat.le_trans h.size t.size, fun k hk => (t.block k (by omega) (by omega) (by omega)).trans (h.block k hk)⟩
set_option linter.unusedSimpArgs false in
set_option linter.unusedVariables false in
set_option maxRecDepth 100000 in
set_option maxHeartbeats 2000000 in
theorem plays_over0 (n : Int) (fa : Option Addr) (fn fc : Nat) (loaded : Bool) (a : Option Addr) (len c : Nat) (w : World) (h : 300 < len) :
    Calls Try.prog 6 #[.int .i64 n, .slice fa fn fc, .bool loaded, .slice a len c] w fun e w' => e = .returned (.bool true) ∧ Below w.heap.size w w' := by
  have d0 : decide ((300 : Int) < (len : Int)) = true := decide_eq_true (by omega)
  go_enter Try.func6, Try.ntmps6
  go_wp2_with fail
  refine (known7 w).mono ?_
  rintro e w1 ⟨rfl, hb1⟩
  have HB := Lib.hid hb1
  clear hb1
  go_wp2_with fail
  go_ret
  exact ⟨rfl, HB.out⟩
set_option linter.unusedSimpArgs false in
set_option linter.unusedVariables false in
set_option maxRecDepth 100000 in
set_option maxHeartbeats 2000000 in
theorem plays_over1 (n : Int) (fa : Option Addr) (fn fc : Nat) (loaded : Bool) (a : Option Addr) (len c : Nat) (w : World) (h : len ≤ 300 ∧ 200 < fn) :
    Calls Try.prog 6 #[.int .i64 n, .slice fa fn fc, .bool loaded, .slice a len c] w fun e w' => e = .returned (.bool true) ∧ Below w.heap.size w w' := by
  have d0 : decide ((300 : Int) < (len : Int)) = false := decide_eq_false (by omega)
  have d1 : decide ((200 : Int) < (fn : Int)) = true := decide_eq_true (by omega)
  go_enter Try.func6, Try.ntmps6
  go_wp2_with fail
  refine (known7 w).mono ?_
  rintro e w1 ⟨rfl, hb1⟩
  have HB := Lib.hid hb1
  clear hb1
  go_wp2_with fail
  go_ret
  exact ⟨rfl, HB.out⟩
set_option linter.unusedSimpArgs false in
set_option linter.unusedVariables false in
set_option maxRecDepth 100000 in
set_option maxHeartbeats 2000000 in
theorem plays_over2 (n : Int) (fa : Option Addr) (fn fc : Nat) (loaded : Bool) (a : Option Addr) (len c : Nat) (w : World) (h : len ≤ 300 ∧ fn ≤ 200 ∧ 200 < n ∧ n ≤ 65536) :
    Calls Try.prog 6 #[.int .i64 n, .slice fa fn fc, .bool loaded, .slice a len c] w fun e w' => e = .returned (.bool true) ∧ Below w.heap.size w w' := by
  have d0 : decide ((300 : Int) < (len : Int)) = false := decide_eq_false (by omega)
  have d1 : decide ((200 : Int) < (fn : Int)) = false := decide_eq_false (by omega)
  have d2 : decide (200 < n) = true := decide_eq_true (by omega)
  have d3 : decide (n ≤ 65536) = true := decide_eq_true (by omega)
  go_enter Try.func6, Try.ntmps6
  go_wp2_with fail
  refine (known7 w).mono ?_
  rintro e w1 ⟨rfl, hb1⟩
  have HB := Lib.hid hb1
  clear hb1
  go_wp2_with fail
  go_ret
  exact ⟨rfl, HB.out⟩
set_option linter.unusedSimpArgs false in
set_option linter.unusedVariables false in
set_option maxRecDepth 100000 in
set_option maxHeartbeats 6000000 in
theorem plays_in (n : Int) (fa : Option Addr) (fn fc : Nat) (loaded : Bool) (a : Option Addr) (len c : Nat) (w : World) (fl : List Bool) (acts : List ActS) (hF : RdB w fa fn fc fl) (hr : RdS ActS.cells 4 w a len c acts) (hwf : ∀ r ∈ acts, r.Wf) (h1 : len ≤ 300) (h2 : fn ≤ 200) (h3 : n ≤ 200 ∨ 65536 < n) :
    Calls Try.prog 6 #[.int .i64 n, .slice fa fn fc, .bool loaded, .slice a len c] w fun e w' => e = .returned (.bool true) ∧ Below w.heap.size w w' := by
  have HL := Lib.hid hr
  have HWF := Lib.hid hwf
  have HFL := Lib.hid hF
  have d1 : decide ((300 : Int) < (len : Int)) = false := decide_eq_false (by omega)
  have d2 : decide ((200 : Int) < (fn : Int)) = false := decide_eq_false (by omega)
  have hN : Hid ((∃ m : Nat, n = m ∧ 1 ≤ m ∧ m ≤ 200) ∨ (n < 1 ∨ 65536 < n)) := by
    show _ ∨ _
    by_cases h : n < 1 ∨ 65536 < n
    · exact .inr h
    · exact .inl ⟨n.toNat, by omega, by omega, by omega⟩
  clear hr hwf hF
  have GO : Hid (∃ g1 : Bool, decide (200 < n) = g1 ∧ (g1 = true → decide (n ≤ 65536) = false)) := Lib.hid ⟨_, rfl, fun h => by have := of_decide_eq_true h; exact decide_eq_false (by omega)⟩
  obtain ⟨g1, hg1, hg2⟩ := GO.out
  clear GO h3
  go_enter Try.func6, Try.ntmps6
  go_wp2_with fail
  refine (known7 w).mono ?_
  rintro e w1 ⟨rfl, hb1⟩
  have B1 := Lib.hid hb1
  clear hb1
  have key : Hid (∀ (u : World) (pn pr : Value) (en : Int), True) := fun _ _ _ _ => trivial
  clear key
  cases g1 with
  | true =>
    have dn := hg2 rfl
    have hbad : n < 1 ∨ 65536 < n := by have := of_decide_eq_true hg1; have := of_decide_eq_false dn; omega
    clear hg2
    go_wp2_with fail
    refine (new_no n w1 hbad).mono ?_
    rintro e w' ⟨rfl, rfl⟩
    go_wp2_with fail
    refine (refnew_no n w1 hbad).mono ?_
    rintro e w3 ⟨rfl, rfl⟩
    have B3 := B1
    go_upto_if 44 with fail
    go_cut [9, 10, 11, 12] (fun z1 z2 z3 z4 wc => (z1 = .pointer none ∧ z2 = .int .i64 1 ∧ z3 = .pointer none ∧ z4 = .int .i64 1 ∧ Hid (Below w.heap.size w wc)) ∨ (∃ d mb rd g L, z1 = .pointer (some ⟨d, 0, none⟩) ∧ z2 = .int .i64 0 ∧ z3 = .pointer (some ⟨rd, 0, none⟩) ∧ z4 = .int .i64 0 ∧ Hid (SgW w wc d mb L) ∧ Hid (RtW w wc rd g L)))
    case first =>
      cases loaded with
      | true =>
        by_cases h0 : fn < 1
        · go_wp2_with fail
          refine (load_no fa fn fc w1 (.inl h0)).mono ?_
          rintro e w4 ⟨rfl, hb⟩
          have B4 := Lib.hid (Below.call B3.out hb)
          clear hb
          go_wp2_with fail
          refine (refload_no fa fn fc w4 (.inl h0)).mono ?_
          rintro e w5 ⟨rfl, hb⟩
          have B5 := Lib.hid (Below.call B4.out hb)
          clear hb
          go_wp2_with fail
          go_meet
          case rel => exact .inl ⟨rfl, rfl, rfl, rfl, B5⟩
        · go_wp2_with fail
          refine (load_any fa fn fc fl w1 (HFL.out.below B3.out) (by omega) (by omega)).mono ?_
          rintro e w4 ⟨dd, mm, rfl, hs⟩
          have S4 : Hid (SgW w w4 dd mm (loadL fl)) := Lib.hid ⟨hs.t, Below.call B3.out hs.b, Nat.le_trans B3.out.size hs.d0, Nat.le_trans B3.out.size hs.m0⟩
          clear hs
          go_wp2_with fail
          refine (refload_any fa fn fc fl w4 (HFL.out.below S4.out.b) (by omega) (by omega)).mono ?_
          rintro e w5 ⟨rr, gg, rfl, hs⟩
          have S5 := Lib.hid (S4.out.more hs.b)
          have R5 : Hid (RtW w w5 rr gg (loadL fl)) := Lib.hid ⟨hs.t, Below.call S4.out.b hs.b, Nat.le_trans S4.out.b.size hs.d0, Nat.le_trans S4.out.b.size hs.g0⟩
          clear hs
          go_wp2_with fail
          go_meet
          case rel => exact .inr ⟨_, _, _, _, _, rfl, rfl, rfl, rfl, S5, R5⟩
      | false =>
        go_wp2_with fail
        go_meet
        case rel => exact .inl ⟨rfl, rfl, rfl, rfl, B3⟩
    case rest =>
    clear B3 B1
    rcases hcut with ⟨rfl, rfl, rfl, rfl, B⟩ | ⟨d, mb, rd, g, L0, rfl, rfl, rfl, rfl, S0, R0⟩
    · go_wp2_with fail
      go_ret
      exact ⟨rfl, B.out⟩
    go_wp2_with fail
    go_loopw [13] (fun z wr => ∃ i : Nat, i ≤ len ∧ z = .int .i64 i ∧ ∃ L, Hid (SgW w wr d mb L) ∧ Hid (RtW w wr rd g L)) (fun z _ => len - (intOf z).toNat)
    case atStart => exact ⟨0, by omega, rfl, _, S0, R0⟩
    case round =>
      clear S0 R0
      obtain ⟨i, hi, rfl, L, S, R⟩ := hrel
      by_cases hil : i < len
      · obtain ⟨A, hA⟩ : ∃ A, acts[i]? = some A := ⟨acts[i]'(by rw [HL.out.len]; exact hil), List.getElem?_eq_getElem _⟩
        have HWA := Lib.hid (HWF.out A (List.mem_of_getElem? hA))
        obtain ⟨ab, ao, ea, x0, x1, x2, x3⟩ := (HL.out.below S.out.b).four i A hA
        subst ea
        have HST := Lib.hid (step_any d mb rd g L A wr S.out.t R.out.t HWA.out)
        have HA := Lib.hid hA
        obtain ⟨op, ky, E, N⟩ := A
        dsimp only at x0 x1 x2 x3 HST
        clear hA
        go_wp2_with fail
        refine HST.out.mono ?_
        rintro e w6 ⟨rfl, ht, hr, hw⟩
        have hb6 := Tw.base S.out.b hw S.out.m0 R.out.g0 S.out.b.size
        have S6 := Lib.hid (SgW.mk ht hb6 S.out.d0 S.out.m0)
        have R6 := Lib.hid (RtW.mk hr hb6 R.out.d0 R.out.g0)
        clear ht hr hw hb6 x0 x1 x2 x3
        obtain ⟨gb, go, eg, x0, x1, x2, x3⟩ := (HL.out.below S6.out.b).four i _ HA.out
        injection eg with eg
        injection eg with eg1 eg2
        subst eg1 eg2
        dsimp only at x0 x1 x2 x3
        go_wp2_with fail
        refine (looks_any d mb rd g _ ky w6 S6.out.t R6.out.t HWA.out.k).mono ?_
        rintro e w7 ⟨rfl, hb⟩
        have S7 := Lib.hid (S6.out.more hb)
        have R7 := Lib.hid (R6.out.more hb)
        clear hb x0 x1 x2 x3
        go_wp2_with fail
        go_roundw
        case rel => exact ⟨i + 1, by omega, by go_num, _, S7, R7⟩
        case measure => simp [intOf] <;> omega
      obtain rfl : i = len := by omega
      go_wp2_with fail
      refine (fulls_any d mb L wr S.out.t).mono ?_
      rintro e w8 ⟨v8, rfl, ho, hb⟩
      have S8 := Lib.hid (S.out.more hb)
      have R8 := Lib.hid (R.out.more hb)
      obtain ⟨mm, hmm⟩ : ∃ mm, L.length = mm := ⟨_, rfl⟩
      obtain ⟨va, vc, rfl⟩ := ho.shapeN mm (by rw [List.length_map, hmm])
      have hmx := S.out.t.ok.n
      rw [hmm] at hmx
      have HO := Lib.hid (ho.rd bcC)
      have HM := Lib.hid hmm
      have c0 := R8.out.t.c0
      rw [hmm] at c0
      clear ho hb hmm
      go_wp2_with fail
      go_loopw [15] (fun z wz => ∃ j : Nat, j ≤ mm ∧ z = .int .i64 j ∧ ∃ nq, w8.drewN nq = wz) (fun z _ => mm - (intOf z).toNat)
      case atStart => exact ⟨0, by omega, rfl, 0, rfl⟩
      case round =>
        obtain ⟨j, hj, rfl, nz, rfl⟩ := hrel
        by_cases hjm : j < mm
        · have hjl : j < L.length := by rw [HM.out]; exact hjm
          obtain ⟨y0, y1, y2⟩ := R8.out.t.get j hjl
          obtain ⟨sx, hsx⟩ : ∃ sx, (getE L j).st = sx := ⟨_, rfl⟩
          rw [hsx] at y0
          have hmp : (L.map fun e : Ent => e.st != 0)[j]? = some (sx != 0) := by
            rw [List.getElem?_map, List.getElem?_eq_getElem hjl, ← hsx, getE_nat, List.getElem?_eq_getElem hjl]
            rfl
          obtain ⟨gx, ox, ex, hc⟩ := HO.out.cell j _ hmp
          subst ex
          have hcx : w8.cell? ⟨gx, ox + j, none⟩ = some (.bool (sx != 0)) := by
            have := hc 0 _ rfl
            simpa using this
          have c0' : (w8.drewN nz).cell? ⟨rd, 0, none⟩ = some (.slice (some ⟨g, 0, none⟩) mm mm) := c0
          have y0' : (w8.drewN nz).cell? ⟨g, j * 3, none⟩ = some (.int .i64 sx) := y0
          have hcx' : (w8.drewN nz).cell? ⟨gx, ox + j, none⟩ = some (.bool (sx != 0)) := hcx
          clear hsx hmp hc y1 y2 hjl
          go_wp2
          go_quiet (fail)
          go_wp2
          go_roundw
          case rel => exact ⟨j + 1, by omega, by go_num, nz + nq, rfl⟩
          case measure => simp [intOf] <;> omega
        · obtain rfl : j = mm := by omega
          have hb : Below w8.heap.size w8 (w8.drewN nz) := ⟨rfl, rfl, rfl, Nat.le_refl _, fun _ _ => rfl⟩
          have HB := Lib.hid (S8.out.more hb)
          clear hb
          go_wp2
          go_ret
          exact ⟨rfl, HB.out.b⟩
  | false =>
    clear hg2
    rcases hN.out with ⟨m, rfl, hm1, hm2⟩ | hbad
    · clear hN
      go_wp2_with fail
      refine (new_any m w1 hm1 (by omega)).mono ?_
      rintro e w2 ⟨rfl, ht, hb⟩
      have S2 := SgW.made B1.out ht hb
      obtain ⟨d, hd⟩ : ∃ d, w1.heap.size + 1 = d := ⟨_, rfl⟩
      rw [hd] at S2 ⊢
      obtain ⟨mb, hmb⟩ : ∃ mb, w1.heap.size = mb := ⟨_, rfl⟩
      rw [hmb] at S2
      have T2 := Lib.hid S2
      clear ht hb S2 hd hmb
      go_wp2_with fail
      refine (refnew_any m w2 hm1 (by omega)).mono ?_
      rintro e w3 ⟨rfl, hr, hb⟩
      have T3 := Lib.hid (T2.out.more hb)
      have R3 : RtW w w3 (w2.heap.size + 1) w2.heap.size (List.replicate m ent0) := ⟨hr, Below.call T2.out.b hb, by have := T2.out.b.size; omega, T2.out.b.size⟩
      obtain ⟨rd, hd⟩ : ∃ d, w2.heap.size + 1 = d := ⟨_, rfl⟩
      rw [hd] at R3 ⊢
      obtain ⟨g, hmb⟩ : ∃ mb, w2.heap.size = mb := ⟨_, rfl⟩
      rw [hmb] at R3
      have R3 := Lib.hid R3
      have B3 := Lib.hid (T3.out.b)
      clear hr hb hd hmb T2 B1
      go_upto_if 44 with fail
      go_cut [9, 10, 11, 12] (fun z1 z2 z3 z4 wc => (z1 = .pointer none ∧ z2 = .int .i64 1 ∧ z3 = .pointer none ∧ z4 = .int .i64 1 ∧ Hid (Below w.heap.size w wc)) ∨ (∃ d mb rd g L, z1 = .pointer (some ⟨d, 0, none⟩) ∧ z2 = .int .i64 0 ∧ z3 = .pointer (some ⟨rd, 0, none⟩) ∧ z4 = .int .i64 0 ∧ Hid (SgW w wc d mb L) ∧ Hid (RtW w wc rd g L)))
      case first =>
        cases loaded with
        | true =>
          by_cases h0 : fn < 1
          · go_wp2_with fail
            refine (load_no fa fn fc w3 (.inl h0)).mono ?_
            rintro e w4 ⟨rfl, hb⟩
            have B4 := Lib.hid (Below.call B3.out hb)
            clear hb
            go_wp2_with fail
            refine (refload_no fa fn fc w4 (.inl h0)).mono ?_
            rintro e w5 ⟨rfl, hb⟩
            have B5 := Lib.hid (Below.call B4.out hb)
            clear hb
            go_wp2_with fail
            go_meet
            case rel => exact .inl ⟨rfl, rfl, rfl, rfl, B5⟩
          · go_wp2_with fail
            refine (load_any fa fn fc fl w3 (HFL.out.below B3.out) (by omega) (by omega)).mono ?_
            rintro e w4 ⟨dd, mm, rfl, hs⟩
            have S4 : Hid (SgW w w4 dd mm (loadL fl)) := Lib.hid ⟨hs.t, Below.call B3.out hs.b, Nat.le_trans B3.out.size hs.d0, Nat.le_trans B3.out.size hs.m0⟩
            clear hs
            go_wp2_with fail
            refine (refload_any fa fn fc fl w4 (HFL.out.below S4.out.b) (by omega) (by omega)).mono ?_
            rintro e w5 ⟨rr, gg, rfl, hs⟩
            have S5 := Lib.hid (S4.out.more hs.b)
            have R5 : Hid (RtW w w5 rr gg (loadL fl)) := Lib.hid ⟨hs.t, Below.call S4.out.b hs.b, Nat.le_trans S4.out.b.size hs.d0, Nat.le_trans S4.out.b.size hs.g0⟩
            clear hs
            go_wp2_with fail
            go_meet
            case rel => exact .inr ⟨_, _, _, _, _, rfl, rfl, rfl, rfl, S5, R5⟩
        | false =>
          go_wp2_with fail
          go_meet
          case rel => exact .inr ⟨_, _, _, _, _, rfl, rfl, rfl, rfl, T3, R3⟩
      case rest =>
      clear T3 R3 B3
      rcases hcut with ⟨rfl, rfl, rfl, rfl, B⟩ | ⟨d, mb, rd, g, L0, rfl, rfl, rfl, rfl, S0, R0⟩
      · go_wp2_with fail
        go_ret
        exact ⟨rfl, B.out⟩
      go_wp2_with fail
      go_loopw [13] (fun z wr => ∃ i : Nat, i ≤ len ∧ z = .int .i64 i ∧ ∃ L, Hid (SgW w wr d mb L) ∧ Hid (RtW w wr rd g L)) (fun z _ => len - (intOf z).toNat)
      case atStart => exact ⟨0, by omega, rfl, _, S0, R0⟩
      case round =>
        clear S0 R0
        obtain ⟨i, hi, rfl, L, S, R⟩ := hrel
        by_cases hil : i < len
        · obtain ⟨A, hA⟩ : ∃ A, acts[i]? = some A := ⟨acts[i]'(by rw [HL.out.len]; exact hil), List.getElem?_eq_getElem _⟩
          have HWA := Lib.hid (HWF.out A (List.mem_of_getElem? hA))
          obtain ⟨ab, ao, ea, x0, x1, x2, x3⟩ := (HL.out.below S.out.b).four i A hA
          subst ea
          have HST := Lib.hid (step_any d mb rd g L A wr S.out.t R.out.t HWA.out)
          have HA := Lib.hid hA
          obtain ⟨op, ky, E, N⟩ := A
          dsimp only at x0 x1 x2 x3 HST
          clear hA
          go_wp2_with fail
          refine HST.out.mono ?_
          rintro e w6 ⟨rfl, ht, hr, hw⟩
          have hb6 := Tw.base S.out.b hw S.out.m0 R.out.g0 S.out.b.size
          have S6 := Lib.hid (SgW.mk ht hb6 S.out.d0 S.out.m0)
          have R6 := Lib.hid (RtW.mk hr hb6 R.out.d0 R.out.g0)
          clear ht hr hw hb6 x0 x1 x2 x3
          obtain ⟨gb, go, eg, x0, x1, x2, x3⟩ := (HL.out.below S6.out.b).four i _ HA.out
          injection eg with eg
          injection eg with eg1 eg2
          subst eg1 eg2
          dsimp only at x0 x1 x2 x3
          go_wp2_with fail
          refine (looks_any d mb rd g _ ky w6 S6.out.t R6.out.t HWA.out.k).mono ?_
          rintro e w7 ⟨rfl, hb⟩
          have S7 := Lib.hid (S6.out.more hb)
          have R7 := Lib.hid (R6.out.more hb)
          clear hb x0 x1 x2 x3
          go_wp2_with fail
          go_roundw
          case rel => exact ⟨i + 1, by omega, by go_num, _, S7, R7⟩
          case measure => simp [intOf] <;> omega
        obtain rfl : i = len := by omega
        go_wp2_with fail
        refine (fulls_any d mb L wr S.out.t).mono ?_
        rintro e w8 ⟨v8, rfl, ho, hb⟩
        have S8 := Lib.hid (S.out.more hb)
        have R8 := Lib.hid (R.out.more hb)
        obtain ⟨mm, hmm⟩ : ∃ mm, L.length = mm := ⟨_, rfl⟩
        obtain ⟨va, vc, rfl⟩ := ho.shapeN mm (by rw [List.length_map, hmm])
        have hmx := S.out.t.ok.n
        rw [hmm] at hmx
        have HO := Lib.hid (ho.rd bcC)
        have HM := Lib.hid hmm
        have c0 := R8.out.t.c0
        rw [hmm] at c0
        clear ho hb hmm
        go_wp2_with fail
        go_loopw [15] (fun z wz => ∃ j : Nat, j ≤ mm ∧ z = .int .i64 j ∧ ∃ nq, w8.drewN nq = wz) (fun z _ => mm - (intOf z).toNat)
        case atStart => exact ⟨0, by omega, rfl, 0, rfl⟩
        case round =>
          obtain ⟨j, hj, rfl, nz, rfl⟩ := hrel
          by_cases hjm : j < mm
          · have hjl : j < L.length := by rw [HM.out]; exact hjm
            obtain ⟨y0, y1, y2⟩ := R8.out.t.get j hjl
            obtain ⟨sx, hsx⟩ : ∃ sx, (getE L j).st = sx := ⟨_, rfl⟩
            rw [hsx] at y0
            have hmp : (L.map fun e : Ent => e.st != 0)[j]? = some (sx != 0) := by
              rw [List.getElem?_map, List.getElem?_eq_getElem hjl, ← hsx, getE_nat, List.getElem?_eq_getElem hjl]
              rfl
            obtain ⟨gx, ox, ex, hc⟩ := HO.out.cell j _ hmp
            subst ex
            have hcx : w8.cell? ⟨gx, ox + j, none⟩ = some (.bool (sx != 0)) := by
              have := hc 0 _ rfl
              simpa using this
            have c0' : (w8.drewN nz).cell? ⟨rd, 0, none⟩ = some (.slice (some ⟨g, 0, none⟩) mm mm) := c0
            have y0' : (w8.drewN nz).cell? ⟨g, j * 3, none⟩ = some (.int .i64 sx) := y0
            have hcx' : (w8.drewN nz).cell? ⟨gx, ox + j, none⟩ = some (.bool (sx != 0)) := hcx
            clear hsx hmp hc y1 y2 hjl
            go_wp2
            go_quiet (fail)
            go_wp2
            go_roundw
            case rel => exact ⟨j + 1, by omega, by go_num, nz + nq, rfl⟩
            case measure => simp [intOf] <;> omega
          · obtain rfl : j = mm := by omega
            have hb : Below w8.heap.size w8 (w8.drewN nz) := ⟨rfl, rfl, rfl, Nat.le_refl _, fun _ _ => rfl⟩
            have HB := Lib.hid (S8.out.more hb)
            clear hb
            go_wp2
            go_ret
            exact ⟨rfl, HB.out.b⟩
    · go_wp2_with fail
      refine (new_no n w1 hbad).mono ?_
      rintro e w' ⟨rfl, rfl⟩
      go_wp2_with fail
      refine (refnew_no n w1 hbad).mono ?_
      rintro e w3 ⟨rfl, rfl⟩
      have B3 := B1
      go_upto_if 44 with fail
      go_cut [9, 10, 11, 12] (fun z1 z2 z3 z4 wc => (z1 = .pointer none ∧ z2 = .int .i64 1 ∧ z3 = .pointer none ∧ z4 = .int .i64 1 ∧ Hid (Below w.heap.size w wc)) ∨ (∃ d mb rd g L, z1 = .pointer (some ⟨d, 0, none⟩) ∧ z2 = .int .i64 0 ∧ z3 = .pointer (some ⟨rd, 0, none⟩) ∧ z4 = .int .i64 0 ∧ Hid (SgW w wc d mb L) ∧ Hid (RtW w wc rd g L)))
      case first =>
        cases loaded with
        | true =>
          by_cases h0 : fn < 1
          · go_wp2_with fail
            refine (load_no fa fn fc w1 (.inl h0)).mono ?_
            rintro e w4 ⟨rfl, hb⟩
            have B4 := Lib.hid (Below.call B3.out hb)
            clear hb
            go_wp2_with fail
            refine (refload_no fa fn fc w4 (.inl h0)).mono ?_
            rintro e w5 ⟨rfl, hb⟩
            have B5 := Lib.hid (Below.call B4.out hb)
            clear hb
            go_wp2_with fail
            go_meet
            case rel => exact .inl ⟨rfl, rfl, rfl, rfl, B5⟩
          · go_wp2_with fail
            refine (load_any fa fn fc fl w1 (HFL.out.below B3.out) (by omega) (by omega)).mono ?_
            rintro e w4 ⟨dd, mm, rfl, hs⟩
            have S4 : Hid (SgW w w4 dd mm (loadL fl)) := Lib.hid ⟨hs.t, Below.call B3.out hs.b, Nat.le_trans B3.out.size hs.d0, Nat.le_trans B3.out.size hs.m0⟩
            clear hs
            go_wp2_with fail
            refine (refload_any fa fn fc fl w4 (HFL.out.below S4.out.b) (by omega) (by omega)).mono ?_
            rintro e w5 ⟨rr, gg, rfl, hs⟩
            have S5 := Lib.hid (S4.out.more hs.b)
            have R5 : Hid (RtW w w5 rr gg (loadL fl)) := Lib.hid ⟨hs.t, Below.call S4.out.b hs.b, Nat.le_trans S4.out.b.size hs.d0, Nat.le_trans S4.out.b.size hs.g0⟩
            clear hs
            go_wp2_with fail
            go_meet
            case rel => exact .inr ⟨_, _, _, _, _, rfl, rfl, rfl, rfl, S5, R5⟩
        | false =>
          go_wp2_with fail
          go_meet
          case rel => exact .inl ⟨rfl, rfl, rfl, rfl, B3⟩
      case rest =>
      clear B3 B1
      rcases hcut with ⟨rfl, rfl, rfl, rfl, B⟩ | ⟨d, mb, rd, g, L0, rfl, rfl, rfl, rfl, S0, R0⟩
      · go_wp2_with fail
        go_ret
        exact ⟨rfl, B.out⟩
      go_wp2_with fail
      go_loopw [13] (fun z wr => ∃ i : Nat, i ≤ len ∧ z = .int .i64 i ∧ ∃ L, Hid (SgW w wr d mb L) ∧ Hid (RtW w wr rd g L)) (fun z _ => len - (intOf z).toNat)
      case atStart => exact ⟨0, by omega, rfl, _, S0, R0⟩
      case round =>
        clear S0 R0
        obtain ⟨i, hi, rfl, L, S, R⟩ := hrel
        by_cases hil : i < len
        · obtain ⟨A, hA⟩ : ∃ A, acts[i]? = some A := ⟨acts[i]'(by rw [HL.out.len]; exact hil), List.getElem?_eq_getElem _⟩
          have HWA := Lib.hid (HWF.out A (List.mem_of_getElem? hA))
          obtain ⟨ab, ao, ea, x0, x1, x2, x3⟩ := (HL.out.below S.out.b).four i A hA
          subst ea
          have HST := Lib.hid (step_any d mb rd g L A wr S.out.t R.out.t HWA.out)
          have HA := Lib.hid hA
          obtain ⟨op, ky, E, N⟩ := A
          dsimp only at x0 x1 x2 x3 HST
          clear hA
          go_wp2_with fail
          refine HST.out.mono ?_
          rintro e w6 ⟨rfl, ht, hr, hw⟩
          have hb6 := Tw.base S.out.b hw S.out.m0 R.out.g0 S.out.b.size
          have S6 := Lib.hid (SgW.mk ht hb6 S.out.d0 S.out.m0)
          have R6 := Lib.hid (RtW.mk hr hb6 R.out.d0 R.out.g0)
          clear ht hr hw hb6 x0 x1 x2 x3
          obtain ⟨gb, go, eg, x0, x1, x2, x3⟩ := (HL.out.below S6.out.b).four i _ HA.out
          injection eg with eg
          injection eg with eg1 eg2
          subst eg1 eg2
          dsimp only at x0 x1 x2 x3
          go_wp2_with fail
          refine (looks_any d mb rd g _ ky w6 S6.out.t R6.out.t HWA.out.k).mono ?_
          rintro e w7 ⟨rfl, hb⟩
          have S7 := Lib.hid (S6.out.more hb)
          have R7 := Lib.hid (R6.out.more hb)
          clear hb x0 x1 x2 x3
          go_wp2_with fail
          go_roundw
          case rel => exact ⟨i + 1, by omega, by go_num, _, S7, R7⟩
          case measure => simp [intOf] <;> omega
        obtain rfl : i = len := by omega
        go_wp2_with fail
        refine (fulls_any d mb L wr S.out.t).mono ?_
        rintro e w8 ⟨v8, rfl, ho, hb⟩
        have S8 := Lib.hid (S.out.more hb)
        have R8 := Lib.hid (R.out.more hb)
        obtain ⟨mm, hmm⟩ : ∃ mm, L.length = mm := ⟨_, rfl⟩
        obtain ⟨va, vc, rfl⟩ := ho.shapeN mm (by rw [List.length_map, hmm])
        have hmx := S.out.t.ok.n
        rw [hmm] at hmx
        have HO := Lib.hid (ho.rd bcC)
        have HM := Lib.hid hmm
        have c0 := R8.out.t.c0
        rw [hmm] at c0
        clear ho hb hmm
        go_wp2_with fail
        go_loopw [15] (fun z wz => ∃ j : Nat, j ≤ mm ∧ z = .int .i64 j ∧ ∃ nq, w8.drewN nq = wz) (fun z _ => mm - (intOf z).toNat)
        case atStart => exact ⟨0, by omega, rfl, 0, rfl⟩
        case round =>
          obtain ⟨j, hj, rfl, nz, rfl⟩ := hrel
          by_cases hjm : j < mm
          · have hjl : j < L.length := by rw [HM.out]; exact hjm
            obtain ⟨y0, y1, y2⟩ := R8.out.t.get j hjl
            obtain ⟨sx, hsx⟩ : ∃ sx, (getE L j).st = sx := ⟨_, rfl⟩
            rw [hsx] at y0
            have hmp : (L.map fun e : Ent => e.st != 0)[j]? = some (sx != 0) := by
              rw [List.getElem?_map, List.getElem?_eq_getElem hjl, ← hsx, getE_nat, List.getElem?_eq_getElem hjl]
              rfl
            obtain ⟨gx, ox, ex, hc⟩ := HO.out.cell j _ hmp
            subst ex
            have hcx : w8.cell? ⟨gx, ox + j, none⟩ = some (.bool (sx != 0)) := by
              have := hc 0 _ rfl
              simpa using this
            have c0' : (w8.drewN nz).cell? ⟨rd, 0, none⟩ = some (.slice (some ⟨g, 0, none⟩) mm mm) := c0
            have y0' : (w8.drewN nz).cell? ⟨g, j * 3, none⟩ = some (.int .i64 sx) := y0
            have hcx' : (w8.drewN nz).cell? ⟨gx, ox + j, none⟩ = some (.bool (sx != 0)) := hcx
            clear hsx hmp hc y1 y2 hjl
            go_wp2
            go_quiet (fail)
            go_wp2
            go_roundw
            case rel => exact ⟨j + 1, by omega, by go_num, nz + nq, rfl⟩
            case measure => simp [intOf] <;> omega
          · obtain rfl : j = mm := by omega
            have hb : Below w8.heap.size w8 (w8.drewN nz) := ⟨rfl, rfl, rfl, Nat.le_refl _, fun _ _ => rfl⟩
            have HB := Lib.hid (S8.out.more hb)
            clear hb
            go_wp2
            go_ret
            exact ⟨rfl, HB.out.b⟩
set_option maxRecDepth 100000 in
theorem segsPlays_walk (n : Int) (fa : Option Addr) (fn fc : Nat) (fl : List Bool) (loaded : Bool) (a : Option Addr) (len c : Nat) (acts : List ActS) (w : World) (_ : (Lit.int .i64 n).wf = true) (hF : RdB w fa fn fc fl) (hr : RdS ActS.cells 4 w a len c acts ∧ ∀ r ∈ acts, r.Wf) :
    Calls Try.prog 6 #[.int .i64 n, .slice fa fn fc, .bool loaded, .slice a len c] w fun e w' => e = .returned (.bool true) ∧ Below w.heap.size w w' := by
  by_cases h1 : 300 < len
  · exact plays_over0 n fa fn fc loaded a len c w h1
  by_cases h2 : 200 < fn
  · exact plays_over1 n fa fn fc loaded a len c w ⟨by omega, h2⟩
  by_cases h3 : 200 < n ∧ n ≤ 65536
  · exact plays_over2 n fa fn fc loaded a len c w ⟨by omega, by omega, h3.1, h3.2⟩
  exact plays_in n fa fn fc loaded a len c w fl acts hF hr.1 hr.2 (by omega) (by omega) (by omega)
end Go.Proofs.Ythikpggndjfeaaa
