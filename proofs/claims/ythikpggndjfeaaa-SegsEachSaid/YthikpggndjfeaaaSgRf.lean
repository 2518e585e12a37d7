/- segs: the document's functions. -/
import Derived.Test.YthikpggndjfeaaaSgRef
import Derived.Test.YthikpggndjfeaaaSgSort
namespace Go.Proofs.Ythikpggndjfeaaa
open Go.RowKit
set_option linter.unusedSimpArgs false in
set_option linter.unusedVariables false in
set_option maxRecDepth 100000 in
set_option maxHeartbeats 2000000 in
theorem is_any (d g : Nat) (L : List Ent) (k : Int) (w : World) (h : RtIn w d g L) : Calls Try.prog 38 #[.pointer (some ⟨d, 0, none⟩), .int .i64 k] w fun e w' => e = .returned (.bool (inE L k)) ∧ w = w' := by
  have c0 := h.c0
  by_cases h1 : 0 ≤ k
  · have d1 : decide (0 ≤ k) = true := decide_eq_true h1
    obtain ⟨B, hB⟩ : ∃ B : Bool, decide (k < (L.length : Int)) = B := ⟨_, rfl⟩
    have e : inE L k = B := by unfold inE; rw [d1, hB]; rfl
    rw [e]
    clear e
    go_enter Try.func38, Try.ntmps38
    go_wp2
    go_ret
    exact ⟨rfl, rfl⟩
  · have d1 : decide (0 ≤ k) = false := decide_eq_false h1
    have e : inE L k = false := by unfold inE; rw [d1]; rfl
    rw [e]
    clear e
    go_enter Try.func38, Try.ntmps38
    go_wp2
    go_ret
    exact ⟨rfl, rfl⟩
set_option linter.unusedSimpArgs false in
set_option linter.unusedVariables false in
set_option maxRecDepth 100000 in
set_option maxHeartbeats 2000000 in
theorem refstate_any (d g : Nat) (L : List Ent) (k : Int) (w : World) (h : RtIn w d g L) : Calls Try.prog 22 #[.pointer (some ⟨d, 0, none⟩), .int .i64 k] w fun e w' => e = .returned (.int .i64 (stE L k)) ∧ w = w' := by
  have c0 := h.c0
  have HI := Lib.hid (is_any d g L k w h)
  cases hi : inE L k with
  | true =>
    obtain ⟨i1, i2⟩ := inE_yes hi
    obtain ⟨m, rfl⟩ := Int.eq_ofNat_of_zero_le i1
    have hm : m < L.length := by omega
    obtain ⟨x0, x1, x2⟩ := h.get m hm
    rw [hi] at HI
    have e : stE L (m : Int) = (getE L m).st := by unfold stE; rw [if_pos hi]
    rw [e]
    obtain ⟨E, hE⟩ : ∃ E, getE L m = E := ⟨_, rfl⟩
    rw [hE] at x0 x1 x2 ⊢
    obtain ⟨st, us, ep⟩ := E
    dsimp only at x0 x1 x2 ⊢
    obtain ⟨n, hn⟩ : ∃ n, L.length = n := ⟨_, rfl⟩
    rw [hn] at c0 hm
    clear e hE hi i1 i2 hn h
    go_enter Try.func22, Try.ntmps22
    go_wp2_with fail
    refine HI.out.mono ?_
    rintro e w' ⟨rfl, rfl⟩
    go_wp2
    go_ret
    exact ⟨rfl, rfl⟩
  | false =>
    rw [hi] at HI
    have e : stE L k = -1 := by unfold stE; rw [hi]; rfl
    rw [e]
    clear e hi h
    go_enter Try.func22, Try.ntmps22
    go_wp2_with fail
    refine HI.out.mono ?_
    rintro e w' ⟨rfl, rfl⟩
    go_wp2
    go_ret
    exact ⟨rfl, rfl⟩
set_option linter.unusedSimpArgs false in
set_option linter.unusedVariables false in
set_option maxRecDepth 100000 in
set_option maxHeartbeats 2000000 in
theorem refused_any (d g : Nat) (L : List Ent) (k : Int) (w : World) (h : RtIn w d g L) : Calls Try.prog 23 #[.pointer (some ⟨d, 0, none⟩), .int .i64 k] w fun e w' => e = .returned (.int .i64 ((getE L k).us)) ∧ w = w' := by
  have c0 := h.c0
  have HI := Lib.hid (is_any d g L k w h)
  cases hi : inE L k with
  | true =>
    obtain ⟨i1, i2⟩ := inE_yes hi
    obtain ⟨m, rfl⟩ := Int.eq_ofNat_of_zero_le i1
    have hm : m < L.length := by omega
    obtain ⟨x0, x1, x2⟩ := h.get m hm
    rw [hi] at HI
    have e : (getE L (m : Int)).us = (getE L m).us := rfl
    rw [e]
    obtain ⟨E, hE⟩ : ∃ E, getE L m = E := ⟨_, rfl⟩
    rw [hE] at x0 x1 x2 ⊢
    obtain ⟨st, us, ep⟩ := E
    dsimp only at x0 x1 x2 ⊢
    obtain ⟨n, hn⟩ : ∃ n, L.length = n := ⟨_, rfl⟩
    rw [hn] at c0 hm
    clear e hE hi i1 i2 hn h
    go_enter Try.func23, Try.ntmps23
    go_wp2_with fail
    refine HI.out.mono ?_
    rintro e w' ⟨rfl, rfl⟩
    go_wp2
    go_ret
    exact ⟨rfl, rfl⟩
  | false =>
    rw [hi] at HI
    have e : (getE L k).us = 0 := by rw [getE_out hi]; rfl
    rw [e]
    clear e hi h
    go_enter Try.func23, Try.ntmps23
    go_wp2_with fail
    refine HI.out.mono ?_
    rintro e w' ⟨rfl, rfl⟩
    go_wp2
    go_ret
    exact ⟨rfl, rfl⟩
set_option linter.unusedSimpArgs false in
set_option linter.unusedVariables false in
set_option maxRecDepth 100000 in
set_option maxHeartbeats 2000000 in
theorem reffill_any (d g : Nat) (L : List Ent) (k : Int) (w : World) (h : RtIn w d g L) : Calls Try.prog 34 #[.pointer (some ⟨d, 0, none⟩), .int .i64 k] w fun e w' => e = .returned (.int .i64 (fillX L k)) ∧ RtIn w' d g (fillS L k) ∧ w.grownBy w' (some g) := by
  have HI := Lib.hid (is_any d g L k w h)
  cases hi : inE L k with
  | false =>
    have E1 := Lib.hid (show fillX L k = 2 by unfold fillX; rw [hi]; rfl)
    have E3 := Lib.hid (show fillS L k = L by unfold fillS; rw [hi]; rfl)
    rw [hi] at HI
    have H := Lib.hid h
    clear hi h
    go_enter Try.func34, Try.ntmps34
    go_wp2_with fail
    refine HI.out.mono ?_
    rintro e w' ⟨rfl, rfl⟩
    go_wp2
    go_ret
    exact ⟨by rw [E1.out]; rfl, by rw [E3.out]; exact H.out, World.grownBy.refl _ _⟩
  | true =>
    obtain ⟨i1, i2⟩ := inE_yes hi
    obtain ⟨m, rfl⟩ := Int.eq_ofNat_of_zero_le i1
    have hm : m < L.length := by omega
    have c0 := h.c0
    have H := Lib.hid h
    rw [hi] at HI
    obtain ⟨x0, x1, x2⟩ := h.get m hm
    have hf := h.frz
    have hok := getE_ok h.ok (m : Int)
    have hX : fillX L (m : Int) = if (getE L m).st = 1 then 0 else 9 := by unfold fillX; rw [if_pos hi]
    have hS : fillS L (m : Int) = if (getE L m).st = 1 then setE L m ⟨2, (getE L m).us, (getE L m).ep⟩ else L := by unfold fillS; rw [if_pos hi]
    by_cases hs : (getE L m).st = 1
    · rw [if_pos hs] at hX hS
      obtain ⟨r1, r2⟩ := h.set m 0 ⟨2, (getE L m).us, (getE L m).ep⟩ (.int .i64 2) hm (by omega) rfl (set_ok h.ok m ⟨fun q => absurd q (show (2 : Int) ≠ 0 by decide), hok.us⟩)
      rw [← hS] at r1
      have E1 := Lib.hid hX
      obtain ⟨n, hn⟩ : ∃ n, L.length = n := ⟨_, rfl⟩
      rw [hn] at c0 hm
      rw [hs] at x0
      have R1 := Lib.hid r1
      have R2 := Lib.hid r2
      clear hX hS r1 r2 hok hs i1 i2 hi hn h
      go_enter Try.func34, Try.ntmps34
      go_wp2_with fail
      refine HI.out.mono ?_
      rintro e w' ⟨rfl, rfl⟩
      go_wp2
      go_ret
      exact ⟨by rw [E1.out]; rfl, R1.out, R2.out⟩
    · rw [if_neg hs] at hX hS
      have E1 := Lib.hid hX
      have E3 := Lib.hid hS
      obtain ⟨n, hn⟩ : ∃ n, L.length = n := ⟨_, rfl⟩
      rw [hn] at c0 hm
      have d1 : ((getE L m).st != 1) = true := by simpa using hs
      clear hX hS hok hs i1 i2 hi hn h
      go_enter Try.func34, Try.ntmps34
      go_wp2_with fail
      refine HI.out.mono ?_
      rintro e w' ⟨rfl, rfl⟩
      go_wp2
      go_ret
      exact ⟨by rw [E1.out]; rfl, by rw [E3.out]; exact H.out, World.grownBy.refl _ _⟩
set_option linter.unusedSimpArgs false in
set_option linter.unusedVariables false in
set_option maxRecDepth 100000 in
set_option maxHeartbeats 2000000 in
theorem refhold_any (d g : Nat) (L : List Ent) (k : Int) (q : Int) (w : World) (h : RtIn w d g L) : Calls Try.prog 35 #[.pointer (some ⟨d, 0, none⟩), .int .i64 k, .int .i64 q] w fun e w' => e = .returned (.int .i64 (holdX L k)) ∧ RtIn w' d g (holdS L k q) ∧ w.grownBy w' (some g) := by
  have HI := Lib.hid (is_any d g L k w h)
  cases hi : inE L k with
  | false =>
    have E1 := Lib.hid (show holdX L k = 2 by unfold holdX; rw [hi]; rfl)
    have E3 := Lib.hid (show holdS L k q = L by unfold holdS; rw [hi]; rfl)
    rw [hi] at HI
    have H := Lib.hid h
    clear hi h
    go_enter Try.func35, Try.ntmps35
    go_wp2_with fail
    refine HI.out.mono ?_
    rintro e w' ⟨rfl, rfl⟩
    go_wp2
    go_ret
    exact ⟨by rw [E1.out]; rfl, by rw [E3.out]; exact H.out, World.grownBy.refl _ _⟩
  | true =>
    obtain ⟨i1, i2⟩ := inE_yes hi
    obtain ⟨m, rfl⟩ := Int.eq_ofNat_of_zero_le i1
    have hm : m < L.length := by omega
    have c0 := h.c0
    have H := Lib.hid h
    rw [hi] at HI
    obtain ⟨x0, x1, x2⟩ := h.get m hm
    have hf := h.frz
    have hok := getE_ok h.ok (m : Int)
    have hX : holdX L (m : Int) = if (getE L m).st = 2 then 0 else 9 := by unfold holdX; rw [if_pos hi]
    have hS : holdS L (m : Int) q = if (getE L m).st = 2 then setE L m ⟨3, (getE L m).us, q⟩ else L := by unfold holdS; rw [if_pos hi]
    by_cases hs : (getE L m).st = 2
    · rw [if_pos hs] at hX hS
      have ok1 : LOk (setE L m ⟨3, (getE L m).us, (getE L m).ep⟩) := set_ok h.ok m ⟨fun q => absurd q (show (3 : Int) ≠ 0 by decide), hok.us⟩
      have ok2 : LOk (setE L m ⟨3, (getE L m).us, q⟩) := set_ok h.ok m ⟨fun q => absurd q (show (3 : Int) ≠ 0 by decide), hok.us⟩
      obtain ⟨r1, r2⟩ := h.set m 0 ⟨3, (getE L m).us, (getE L m).ep⟩ (.int .i64 3) hm (by omega) rfl ok1
      replace r1 : RtIn (w.setCell ⟨g, m * 3, none⟩ (.int .i64 3)) d g (setE L m ⟨3, (getE L m).us, (getE L m).ep⟩) := r1
      obtain ⟨y0, y1, y2⟩ := r1.get m (by rw [set_len]; exact hm)
      have hg1 : getE (setE L m ⟨3, (getE L m).us, (getE L m).ep⟩) m = ⟨3, (getE L m).us, (getE L m).ep⟩ := by rw [get_set hi, if_pos rfl]
      have hss : setE (setE L m ⟨3, (getE L m).us, (getE L m).ep⟩) m ⟨3, (getE L m).us, q⟩ = setE L m ⟨3, (getE L m).us, q⟩ := by unfold setE; rw [List.set_set]
      obtain ⟨r3, r4⟩ := r1.set m 1 ⟨3, (getE L m).us, q⟩ (.int .i64 q) (by rw [set_len]; exact hm) (by omega) (by rw [hg1]; rfl) (by rw [hss]; exact ok2)
      rw [hss, ← hS] at r3
      have cc0 := r1.c0
      rw [set_len] at cc0
      have ff := r1.frz
      have E1 := Lib.hid hX
      obtain ⟨n, hn⟩ : ∃ n, L.length = n := ⟨_, rfl⟩
      rw [hn] at c0 hm cc0
      rw [hs] at x0
      have R1 := Lib.hid r3
      have R2 := Lib.hid (grown_one r2 r4)
      clear hX hS r1 r2 r3 r4 hok hs i1 i2 hi hn h hg1 hss ok1 ok2
      go_enter Try.func35, Try.ntmps35
      go_wp2_with fail
      refine HI.out.mono ?_
      rintro e w' ⟨rfl, rfl⟩
      go_wp2
      go_ret
      exact ⟨by rw [E1.out]; rfl, R1.out, R2.out⟩
    · rw [if_neg hs] at hX hS
      have E1 := Lib.hid hX
      have E3 := Lib.hid hS
      obtain ⟨n, hn⟩ : ∃ n, L.length = n := ⟨_, rfl⟩
      rw [hn] at c0 hm
      have d1 : ((getE L m).st != 2) = true := by simpa using hs
      clear hX hS hok hs i1 i2 hi hn h
      go_enter Try.func35, Try.ntmps35
      go_wp2_with fail
      refine HI.out.mono ?_
      rintro e w' ⟨rfl, rfl⟩
      go_wp2
      go_ret
      exact ⟨by rw [E1.out]; rfl, by rw [E3.out]; exact H.out, World.grownBy.refl _ _⟩
end Go.Proofs.Ythikpggndjfeaaa
