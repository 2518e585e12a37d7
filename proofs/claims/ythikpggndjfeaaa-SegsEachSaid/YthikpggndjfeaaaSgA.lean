/- segs: New, there, State, Used, Take. -/
import Derived.Test.YthikpggndjfeaaaSgLaw
namespace Go.Proofs.Ythikpggndjfeaaa
open Go.RowKit
set_option maxRecDepth 100000 in
theorem fld_st (s u p : Int) (w : World) : (Instr.field 61 (.agg #[.int .i64 s, .int .i64 u, .int .i64 p]) 0).run Try.prog w = .ok (.int .i64 s) w := by kernel_rfl
set_option maxRecDepth 100000 in
theorem fld_us (s u p : Int) (w : World) : (Instr.field 61 (.agg #[.int .i64 s, .int .i64 u, .int .i64 p]) 1).run Try.prog w = .ok (.int .i64 u) w := by kernel_rfl
set_option maxRecDepth 100000 in
theorem new_no (n : Int) (w : World) (h : n < 1 ∨ 65536 < n) : Calls Try.prog 8 #[.int .i64 n] w fun e w' => e = .returned (.tuple #[.pointer none, .int .i64 1]) ∧ w = w' := by
  by_cases h1 : n < 1
  · have d1 : decide (n < 1) = true := decide_eq_true h1
    go_enter Try.func8, Try.ntmps8
    go_wp2
    go_ret2
    exact ⟨rfl, rfl⟩
  · have d1 : decide (n < 1) = false := decide_eq_false h1
    have d2 : decide (65536 < n) = true := decide_eq_true (by omega)
    go_enter Try.func8, Try.ntmps8
    go_wp2
    go_ret2
    exact ⟨rfl, rfl⟩
set_option maxRecDepth 100000 in
theorem new_any (n : Nat) (w : World) (h1 : 1 ≤ n) (h2 : n ≤ 65536) :
    Calls Try.prog 8 #[.int .i64 n] w fun e w' => e = .returned (.tuple #[.pointer (some ⟨w.heap.size + 1, 0, none⟩), .int .i64 0]) ∧ TbIn w' (w.heap.size + 1) w.heap.size (List.replicate n ent0) ∧ Below w.heap.size w w' := by
  have d1 : decide ((n : Int) < 1) = false := decide_eq_false (by omega)
  have d2 : decide ((65536 : Int) < n) = false := decide_eq_false (by omega)
  have hmm := @run_makeMap Try.prog
  go_enter Try.func8, Try.ntmps8
  go_wp2
  go_ret2
  have hm := me_made w
  have hb : Below w.heap.size w (w.alloc (.map #[] 0)) := (Below.refl _ _).alloc (Nat.le_refl _) _
  refine ⟨by simp, ⟨?_, (hm.grown (World.grownBy_alloc _ _ none) (by simp)).congr (fun s => ?_), rep_ok h1 h2⟩, hb.alloc (by simp) _⟩
  · have := heap_alloc_new (w.alloc (.map #[] 0)) (.cells #[.int .i64 n, .map (some w.heap.size)] 59)
    simpa using this
  · unfold fL
    rw [getE_rep, if_pos (show ent0.st = 0 from rfl)]
section
variable (d mb : Nat) (L : List Ent) (k : Int) (w : World)
set_option maxRecDepth 100000 in
theorem there_any (h : TbIn w d mb L) : Calls Try.prog 31 #[.pointer (some ⟨d, 0, none⟩), .int .i64 k] w fun e w' => e = .returned (.bool (inE L k)) ∧ w = w' := by
  have c0 := h.c0
  by_cases h1 : 0 ≤ k
  · have d1 : decide (0 ≤ k) = true := decide_eq_true h1
    obtain ⟨B, hB⟩ : ∃ B : Bool, decide (k < (L.length : Int)) = B := ⟨_, rfl⟩
    have e : inE L k = B := by unfold inE; rw [d1, hB]; rfl
    rw [e]
    clear e
    go_enter Try.func31, Try.ntmps31
    go_wp2
    go_ret
    exact ⟨rfl, rfl⟩
  · have d1 : decide (0 ≤ k) = false := decide_eq_false h1
    have e : inE L k = false := by unfold inE; rw [d1]; rfl
    rw [e]
    clear e
    go_enter Try.func31, Try.ntmps31
    go_wp2
    go_ret
    exact ⟨rfl, rfl⟩
set_option maxRecDepth 100000 in
theorem state_any (h : TbIn w d mb L) : Calls Try.prog 14 #[.pointer (some ⟨d, 0, none⟩), .int .i64 k] w fun e w' => e = .returned (.int .i64 (stE L k)) ∧ w = w' := by
  have c1 := h.c1
  have hf := fld_st
  have HT := Lib.hid (there_any d mb L k w h)
  cases hi : inE L k with
  | true =>
    obtain ⟨h1, h2⟩ := inE_yes hi
    have hn := h.ok.n
    have hlk := h.look k (WalkArith.wf_i64 ⟨by omega, by omega⟩)
    have e : stE L k = (getE L k).st := by unfold stE; rw [if_pos hi]
    rw [e]
    rw [hi] at HT
    obtain ⟨E, hE⟩ : ∃ x, getE L k = x := ⟨_, rfl⟩
    rw [hE] at hlk ⊢
    obtain ⟨s, u, p⟩ := E
    dsimp only at hlk ⊢
    clear e hi h1 h2 hn h hE
    go_enter Try.func14, Try.ntmps14
    go_wp2_with fail
    refine HT.out.mono ?_
    rintro e w' ⟨rfl, rfl⟩
    go_wp2
    go_ret
    exact ⟨rfl, rfl⟩
  | false =>
    have e : stE L k = -1 := by unfold stE; rw [hi]; rfl
    rw [e]
    rw [hi] at HT
    clear e hi h
    go_enter Try.func14, Try.ntmps14
    go_wp2_with fail
    refine HT.out.mono ?_
    rintro e w' ⟨rfl, rfl⟩
    go_wp2
    go_ret
    exact ⟨rfl, rfl⟩
set_option maxRecDepth 100000 in
theorem used_any (h : TbIn w d mb L) (hk : (Lit.int .i64 k).wf = true) : Calls Try.prog 15 #[.pointer (some ⟨d, 0, none⟩), .int .i64 k] w fun e w' => e = .returned (.int .i64 (getE L k).us) ∧ w = w' := by
  have c1 := h.c1
  have hf := fld_us
  have hlk := h.look k hk
  obtain ⟨E, hE⟩ : ∃ x, getE L k = x := ⟨_, rfl⟩
  rw [hE] at hlk ⊢
  obtain ⟨s, u, p⟩ := E
  dsimp only at hlk ⊢
  clear h hE
  go_enter Try.func15, Try.ntmps15
  go_wp2
  go_ret
  exact ⟨rfl, rfl⟩
end
set_option linter.unusedSimpArgs false in
set_option linter.unusedVariables false in
set_option maxRecDepth 100000 in
set_option maxHeartbeats 2000000 in
theorem take_any (d mb : Nat) (L : List Ent) (w : World) (h : TbIn w d mb L) :
    Calls Try.prog 9 #[.pointer (some ⟨d, 0, none⟩)] w fun e w' => e = .returned (.tuple #[.int .i64 (takeR L), .int .i64 (takeX L)]) ∧ TbIn w' d mb (takeS L) ∧ w.grownBy w' (some mb) := by
  have H := Lib.hid h
  have c0 := h.c0
  obtain ⟨n, hn⟩ : ∃ n, L.length = n := ⟨_, rfl⟩
  have hn2 := h.ok.n
  rw [hn] at c0 hn2
  obtain ⟨q, hq⟩ : ∃ q, freeI L = q := ⟨_, rfl⟩
  have hqn : q ≤ n := by rw [← hq, ← hn]; exact freeI_le L
  have HQ := Lib.hid hq
  have HN := Lib.hid hn
  clear h hn hq
  go_enter Try.func9, Try.ntmps9
  go_wp2_with fail
  go_loopw [4, 9] (fun a i wr => ∃ k : Nat, k ≤ q ∧ i = .int .i64 k ∧ w = wr) (fun _ i _ => n - (intOf i).toNat)
  case atStart => exact ⟨0, by omega, rfl, rfl⟩
  case round =>
    obtain ⟨k, hk, rfl, rfl⟩ := hrel
    have c1 := H.out.c1
    by_cases hkn : k < n
    · have hin : inE L k = true := inE_of ⟨by omega, by rw [HN.out]; omega⟩
      have HIN := Lib.hid hin
      have HS : Hid (Calls Try.prog 14 #[.pointer (some ⟨d, 0, none⟩), .int .i64 k] w fun e w' => e = .returned (.int .i64 (getE L k).st) ∧ w = w') := by
        have := state_any d mb L k w H.out
        rw [show stE L k = (getE L k).st by unfold stE; rw [if_pos hin]] at this
        exact this
      obtain ⟨w2, hput, htb, hgr⟩ := H.out.put k ⟨1, 0, 0⟩ hin (by decide) ⟨fun q => absurd q (by decide), by decide⟩
      dsimp only at hput
      have HTB := Lib.hid htb
      have HGR := Lib.hid hgr
      clear hin htb hgr
      by_cases hkq : k = q
      · subst hkq
        have h0 : (getE L k).st = 0 := by
          have := freeI_at L (by rw [HQ.out, HN.out]; omega)
          rw [HQ.out] at this
          rw [getE_nat]
          exact this
        rw [h0] at HS
        have e1 : takeR L = k := by unfold takeR; rw [HQ.out, HN.out, if_pos (by omega)]
        have e2 : takeX L = 0 := by unfold takeX; rw [HQ.out, HN.out, if_pos (by omega)]
        have e3 : takeS L = setE L k ⟨1, 0, 0⟩ := by unfold takeS; rw [HQ.out, HN.out, if_pos (by omega)]
        have E1 := Lib.hid e1
        have E2 := Lib.hid e2
        have E3 := Lib.hid e3
        clear h0 e1 e2 e3
        go_wp2_with fail
        refine HS.out.mono ?_
        rintro e w' ⟨rfl, rfl⟩
        go_wp2
        go_ret2
        exact ⟨by rw [E1.out, E2.out]; rfl, by rw [E3.out]; exact HTB.out, HGR.out⟩
      · have h0 : (getE L k).st ≠ 0 := by
          rw [getE_nat]
          exact freeI_lt L k (by rw [HQ.out]; omega)
        obtain ⟨S, hS⟩ : ∃ S, (getE L k).st = S := ⟨_, rfl⟩
        rw [hS] at HS h0
        have d0 : (S == 0) = false := by simpa using h0
        clear h0 hS
        go_wp2_with fail
        refine HS.out.mono ?_
        rintro e w' ⟨rfl, rfl⟩
        go_wp2
        go_roundw
        case rel => exact ⟨k + 1, by omega, by go_num, by trivial⟩
        case measure => simp [intOf] <;> omega
    · have e1 : takeR L = 0 := by unfold takeR; rw [HQ.out, HN.out, if_neg (by omega)]
      have e2 : takeX L = 10 := by unfold takeX; rw [HQ.out, HN.out, if_neg (by omega)]
      have e3 : takeS L = L := by unfold takeS; rw [HQ.out, HN.out, if_neg (by omega)]
      have E1 := Lib.hid e1
      have E2 := Lib.hid e2
      have E3 := Lib.hid e3
      clear e1 e2 e3
      go_wp2
      go_ret2
      exact ⟨by rw [E1.out, E2.out]; rfl, by rw [E3.out]; exact H.out, World.grownBy.refl _ _⟩
end Go.Proofs.Ythikpggndjfeaaa
