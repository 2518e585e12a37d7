/- The walk of almanaclaw7.SegsTakes. -/
import Derived.Test.YthikpggndjfeaaaSgLoad
import Derived.Test.YthikpggndjfeaaaSgCount
namespace Go.Proofs.Ythikpggndjfeaaa
open Go.RowKit
theorem freeI_eq {L : List Ent} {i : Nat} (hi : i < L.length) (h0 : ((L[i]?).getD ent0).st = 0) (hl : ∀ j, j < i → ((L[j]?).getD ent0).st ≠ 0) : freeI L = i := by
  rcases Nat.lt_trichotomy (freeI L) i with h | h | h
  · exact absurd (freeI_at L (by omega)) (hl _ h)
  · exact h
  · exact absurd h0 (freeI_lt L i h)
/-- The first i segments are taken, or were full; the others are as they came. -/
structure TakeInv (l : List Bool) (i : Nat) (L : List Ent) : Prop where
  len : L.length = l.length
  low : ∀ j, j < i → ((L[j]?).getD ent0).st ≠ 0 ∨ L.length ≤ j
  high : ∀ j, i ≤ j → L[j]? = (l[j]?).map loadE
theorem TakeInv.start (l : List Bool) : TakeInv l 0 (loadL l) := ⟨by unfold loadL; rw [List.length_map], fun j h => by omega, fun j _ => by unfold loadL; rw [List.getElem?_map]⟩
section
variable {l : List Bool} {i : Nat} {L : List Ent}
theorem TakeInv.low' (h : TakeInv l i L) (hi : i ≤ L.length) : ∀ j, j < i → ((L[j]?).getD ent0).st ≠ 0 := fun j hj => by
  rcases h.low j hj with h1 | h1
  · exact h1
  · omega
theorem TakeInv.skip (h : TakeInv l i L) (hi : i < l.length) (hv : l.getD i false = true) : TakeInv l (i + 1) L := by
  refine ⟨h.len, fun j hj => ?_, fun j hj => h.high j (by omega)⟩
  by_cases e : j = i
  · subst e
    have e1 := h.high j (Nat.le_refl _)
    rw [List.getElem?_eq_getElem hi, show l[j] = true by simpa [hi] using hv] at e1
    left
    rw [e1]
    decide
  · exact h.low j (by omega)
theorem TakeInv.take (h : TakeInv l i L) (hi : i < l.length) (hv : l.getD i false = false) : takeR L = i ∧ takeX L = 0 ∧ TakeInv l (i + 1) (takeS L) ∧ stE (takeS L) i = 1 := by
  have e1 := h.high i (Nat.le_refl _)
  rw [List.getElem?_eq_getElem hi, show l[i] = false by simpa [hi] using hv] at e1
  have hil : i < L.length := by rw [h.len]; exact hi
  have hf : freeI L = i := freeI_eq hil (by rw [e1]; decide) (h.low' (Nat.le_of_lt hil))
  have hin : inE L i = true := inE_of ⟨by omega, by omega⟩
  have hS : takeS L = setE L i ⟨1, 0, 0⟩ := by unfold takeS; rw [hf, if_pos hil]
  refine ⟨by unfold takeR; rw [hf, if_pos hil], by unfold takeX; rw [hf, if_pos hil], ?_, ?_⟩
  · rw [hS]
    refine ⟨by rw [set_len, h.len], fun j hj => ?_, fun j hj => ?_⟩
    · rw [set_len]
      have hg := get_set hin ⟨1, 0, 0⟩ j
      rw [getE_nat, getE_nat] at hg
      rw [hg]
      by_cases e : (j : Int) = i
      · rw [if_pos e]
        left
        decide
      · rw [if_neg e]
        exact h.low j (by omega)
    · unfold setE
      rw [Int.toNat_natCast, List.getElem?_set_ne (by omega)]
      exact h.high j (by omega)
  · rw [hS]
    unfold stE
    rw [if_pos (inE_of ⟨by omega, by rw [set_len]; omega⟩), get_set hin, if_pos rfl]
theorem TakeInv.fin (h : TakeInv l l.length L) : takeX L = 10 ∧ takeS L = L ∧ cntL L 0 = 0 := by
  have hlow := h.low' (by rw [h.len]; exact Nat.le_refl _)
  have hf : ¬ freeI L < L.length := fun hf => absurd (freeI_at L hf) (hlow _ (by rw [← h.len]; exact hf))
  refine ⟨by unfold takeX; rw [if_neg hf], by unfold takeS; rw [if_neg hf], ?_⟩
  unfold cntL
  rw [List.length_eq_zero_iff, List.filter_eq_nil_iff]
  intro e he
  obtain ⟨j, hj⟩ := List.getElem?_of_mem he
  have hjl := (List.getElem?_eq_some_iff.1 hj).1
  have := hlow j (by rw [← h.len]; exact hjl)
  rw [hj] at this
  simpa using this
end
set_option linter.unusedSimpArgs false in
set_option linter.unusedVariables false in
set_option maxRecDepth 100000 in
set_option maxHeartbeats 2000000 in
theorem takes_over (a : Option Addr) (n c : Nat) (w : World) (h : n < 1 ∨ 200 < n) :
    Calls Try.prog 4 #[.slice a n c] w fun e w' => e = .returned (.bool true) ∧ Below w.heap.size w w' := by
  by_cases h1 : n < 1
  · obtain rfl : n = 0 := by omega
    go_enter Try.func4, Try.ntmps4
    go_wp2_with fail
    refine (known7 w).mono ?_
    rintro e w1 ⟨rfl, hb1⟩
    have HB := Lib.hid hb1
    clear hb1
    go_wp2_with fail
    go_ret
    exact ⟨rfl, HB.out⟩
  · have d1 : decide ((n : Int) < 1) = false := decide_eq_false (by omega)
    have d2 : decide ((200 : Int) < (n : Int)) = true := decide_eq_true (by omega)
    go_enter Try.func4, Try.ntmps4
    go_wp2_with fail
    refine (known7 w).mono ?_
    rintro e w1 ⟨rfl, hb1⟩
    have HB := Lib.hid hb1
    clear hb1
    go_wp2_with fail
    go_ret
    exact ⟨rfl, HB.out⟩
set_option linter.unusedSimpArgs false in
set_option linter.unusedVariables false in
set_option maxRecDepth 100000 in
set_option maxHeartbeats 4000000 in
theorem takes_in (a : Option Addr) (n c : Nat) (l : List Bool) (w : World) (h : RdB w a n c l) (h1 : 1 ≤ n) (h2 : n ≤ 200) :
    Calls Try.prog 4 #[.slice a n c] w fun e w' => e = .returned (.bool true) ∧ Below w.heap.size w w' := by
  have HL := Lib.hid h
  have d1 : decide ((n : Int) < 1) = false := decide_eq_false (by omega)
  have d2 : decide ((200 : Int) < (n : Int)) = false := decide_eq_false (by omega)
  clear h
  go_enter Try.func4, Try.ntmps4
  go_wp2_with fail
  refine (known7 w).mono ?_
  rintro e w1 ⟨rfl, hb1⟩
  have B1 := Lib.hid hb1
  clear hb1
  go_wp2_with fail
  refine (load_any a n c l w1 (HL.out.below B1.out) h1 (by omega)).mono ?_
  rintro e w2 ⟨d, mb, rfl, hs⟩
  have S2 : Hid (SgW w w2 d mb (loadL l)) := Lib.hid ⟨hs.t, Below.call B1.out hs.b, Nat.le_trans B1.out.size hs.d0, Nat.le_trans B1.out.size hs.m0⟩
  have I2 := Lib.hid (TakeInv.start l)
  clear hs B1 d1 d2
  go_wp2_with fail
  go_loopw [5] (fun z wr => ∃ i : Nat, i ≤ n ∧ z = .int .i64 i ∧ ∃ L, Hid (SgW w wr d mb L) ∧ Hid (TakeInv l i L)) (fun z _ => n - (intOf z).toNat)
  case atStart => exact ⟨0, by omega, rfl, _, S2, I2⟩
  case round =>
    clear S2 I2
    obtain ⟨i, hi, rfl, L, S, I⟩ := hrel
    by_cases hin : i < n
    · obtain ⟨g, o, ea, hc⟩ := (HL.out.below S.out.b).cell i hin
      subst ea
      have hil : i < l.length := by rw [HL.out.len]; exact hin
      cases hv : l.getD i false with
      | true =>
        rw [hv] at hc
        have I3 := Lib.hid (I.out.skip hil hv)
        clear hv hil
        go_wp2_with fail
        go_roundw
        case rel => exact ⟨i + 1, by omega, by go_num, _, S, I3⟩
        case measure => simp [intOf] <;> omega
      | false =>
        rw [hv] at hc
        obtain ⟨t1, t2, t3, t4⟩ := I.out.take hil hv
        have T1 := Lib.hid t1
        have T2 := Lib.hid t2
        have I3 := Lib.hid t3
        have T4 := Lib.hid t4
        clear hv hil t1 t2 t3 t4
        go_wp2_with fail
        refine (take_any d mb L wr S.out.t).mono ?_
        rintro e w3 ⟨rfl, ht, hg⟩
        rw [T1.out, T2.out]
        have S3 := Lib.hid (S.out.step ht hg)
        clear ht hg hc
        go_wp2_with fail
        refine (state_any d mb _ (i : Int) w3 S3.out.t).mono ?_
        rintro e w' ⟨rfl, rfl⟩
        rw [T4.out]
        go_wp2_with fail
        go_roundw
        case rel => exact ⟨i + 1, by omega, by go_num, _, S3, I3⟩
        case measure => simp [intOf] <;> omega
    · obtain rfl : i = n := by omega
      have hfin := I.out
      rw [← HL.out.len] at hfin
      obtain ⟨t1, t2, t3⟩ := hfin.fin
      have T1 := Lib.hid t1
      have T2 := Lib.hid t2
      have T3 := Lib.hid t3
      clear hfin t1 t2 t3
      go_wp2_with fail
      refine (take_any d mb L wr S.out.t).mono ?_
      rintro e w3 ⟨rfl, ht, hg⟩
      rw [T1.out]
      rw [T2.out] at ht
      have S3 := Lib.hid (S.out.step ht hg)
      clear ht hg
      go_wp2_with fail
      refine (count_any d mb L 0 w3 S3.out.t).mono ?_
      rintro e w4 ⟨rfl, hb⟩
      rw [T3.out]
      have S4 := Lib.hid (S3.out.more hb)
      clear hb
      go_wp2_with fail
      go_ret
      exact ⟨rfl, S4.out.b⟩
set_option maxRecDepth 100000 in
theorem segsTakes_walk (a : Option Addr) (n c : Nat) (l : List Bool) (w : World) (h : RdB w a n c l) :
    Calls Try.prog 4 #[.slice a n c] w fun e w' => e = .returned (.bool true) ∧ Below w.heap.size w w' := by
  by_cases h1 : n < 1 ∨ 200 < n
  · exact takes_over a n c w h1
  · exact takes_in a n c l w h (by omega) (by omega)
end Go.Proofs.Ythikpggndjfeaaa
