/- region: prot, right, Find, Clone. -/
import Derived.Test.YtoampbdipmecmaaRgMem
import Derived.Deep.QuietTactic
import Derived.BigQuiet
import Derived.WalkSpells
namespace Go.Proofs.Ytoampbdipmecmaa
open Go.RowKit
def protB (p : Int) : Bool := decide (0 ≤ p) && decide (p ≤ 3)
def rightB (lo hi p : Int) : Bool := decide (0 ≤ lo) && (decide (lo < hi) && protB p)
set_option maxRecDepth 100000 in
theorem prot_any (p : Int) (w : World) : Calls Try.prog 35 #[.int .i64 p] w fun e w' => e = .returned (.bool (protB p)) ∧ w = w' := by
  unfold protB
  by_cases h1 : 0 ≤ p
  · by_cases h2 : p ≤ 3
    · rw [decide_eq_true h1, decide_eq_true h2]
      go_enter Try.func35, Try.ntmps35
      go_wp2
      go_ret
      exact ⟨rfl, rfl⟩
    · rw [decide_eq_true h1, decide_eq_false h2]
      go_enter Try.func35, Try.ntmps35
      go_wp2
      go_ret
      exact ⟨rfl, rfl⟩
  · rw [decide_eq_false h1]
    go_enter Try.func35, Try.ntmps35
    go_wp2
    go_ret
    exact ⟨rfl, rfl⟩
set_option maxRecDepth 100000 in
theorem right_any (lo hi p : Int) (w : World) : Calls Try.prog 28 #[.int .i64 lo, .int .i64 hi, .int .i64 p] w fun e w' => e = .returned (.bool (rightB lo hi p)) ∧ w = w' := by
  obtain ⟨PB, hPB⟩ : ∃ x, protB p = x := ⟨_, rfl⟩
  have hc := prot_any p w
  rw [hPB] at hc
  have HC := Lib.hid hc
  unfold rightB
  rw [hPB]
  clear hc hPB
  by_cases h1 : 0 ≤ lo
  · by_cases h2 : lo < hi
    · rw [decide_eq_true h1, decide_eq_true h2]
      go_enter Try.func28, Try.ntmps28
      go_wp2_with (go_at_call 35; refine HC.out.mono ?_; rintro e w' ⟨rfl, rfl⟩)
      go_ret
      exact ⟨rfl, rfl⟩
    · rw [decide_eq_true h1, decide_eq_false h2]
      go_enter Try.func28, Try.ntmps28
      go_wp2
      go_ret
      exact ⟨rfl, rfl⟩
  · rw [decide_eq_false h1]
    go_enter Try.func28, Try.ntmps28
    go_wp2
    go_ret
    exact ⟨rfl, rfl⟩
def findR (L : List Rg) (x : Int) : Rg := (L.find? (fun r => r.has x)).getD ⟨0, 0, 0⟩
def findB (L : List Rg) (x : Int) : Bool := (L.find? (fun r => r.has x)).isSome
def Rg.val (r : Rg) : Value := .agg #[.int .i64 r.lo, .int .i64 r.hi, .int .i64 r.p]
theorem drop_at {α : Type} {L : List α} {k : Nat} {r : α} (h : L[k]? = some r) : L.drop k = r :: L.drop (k + 1) := by
  obtain ⟨h1, h2⟩ := List.getElem?_eq_some_iff.1 h
  rw [List.drop_eq_getElem_cons h1, h2]
set_option maxRecDepth 100000 in
set_option linter.unusedSimpArgs false in
set_option linter.unusedVariables false in
set_option maxHeartbeats 1000000 in
theorem find_any (a : Option Addr) (n c : Nat) (L : List Rg) (x : Int) (w : World) (h : RdS Rg.cells 3 w a n c L) (hn : n ≤ 1000) :
    Calls Try.prog 23 #[.slice a n c, .int .i64 x] w fun e w' => e = .returned (.tuple #[(findR L x).val, .bool (findB L x)]) ∧ Below w.heap.size w w' := by
  have H := Lib.hid h
  clear h
  have hba := (Below.refl w.heap.size w).alloc (Nat.le_refl _) (.cells #[.int .i64 0, .int .i64 0, .int .i64 0] 29)
  have hrow := heap_alloc_new w (.cells #[.int .i64 0, .int .i64 0, .int .i64 0] 29)
  obtain ⟨wa, hwa⟩ : ∃ wa, w.alloc (.cells #[.int .i64 0, .int .i64 0, .int .i64 0] 29) = wa := ⟨_, rfl⟩
  obtain ⟨rb, hrb⟩ : ∃ rb, w.heap.size = rb := ⟨_, rfl⟩
  rw [hwa] at hba hrow
  rw [hrb] at hrow
  have BA := Lib.hid hba
  have RA := Lib.hid hrow
  have HWA := Lib.hid hwa
  have HRB := Lib.hid hrb
  clear hba hrow hwa hrb
  go_enter Try.func23, Try.ntmps23
  go_wp2_with (rw [HWA.out, HRB.out])
  go_loopw [10] (fun i wr => ∃ k : Nat, k ≤ n ∧ i = .int .i64 k ∧ Hid (Below w.heap.size w wr ∧ wr.heap[rb]? = some (.cells #[.int .i64 0, .int .i64 0, .int .i64 0] 29 (0, 0)) ∧ L.find? (fun r => r.has x) = (L.drop k).find? (fun r => r.has x))) (fun i _ => n - (intOf i).toNat)
  case atStart => exact ⟨0, by omega, rfl, BA.out, RA.out, rfl⟩
  case round =>
    clear BA RA
    obtain ⟨k, hk, rfl, hh⟩ := hrel
    obtain ⟨h1, h2, h3⟩ := hh.out
    have B := Lib.hid h1
    have R := Lib.hid h2
    have F := Lib.hid h3
    clear hh h1 h2 h3
    by_cases hkn : k < n
    · have hl := H.out.len
      obtain ⟨r, hr⟩ : ∃ r, L[k]? = some r := ⟨L[k], List.getElem?_eq_getElem (by omega)⟩
      obtain ⟨b, o, ha, c0, c1, c2⟩ := (H.out.below B.out).three k r hr
      subst ha
      have hd := drop_at hr
      have hal := (Below.refl wr.heap.size wr).alloc (Nat.le_refl _) (.cells #[.int .i64 r.lo, .int .i64 r.hi, .int .i64 r.p] 29)
      have hrow := row_keep R.out hal
      have hbox := heap_alloc_new wr (.cells #[.int .i64 r.lo, .int .i64 r.hi, .int .i64 r.p] 29)
      have hb2 := Below.call B.out hal
      have HD := Lib.hid hd
      obtain ⟨w4, hw4⟩ : ∃ w4, wr.alloc (.cells #[.int .i64 r.lo, .int .i64 r.hi, .int .i64 r.p] 29) = w4 := ⟨_, rfl⟩
      obtain ⟨xb, hxb⟩ : ∃ xb, wr.heap.size = xb := ⟨_, rfl⟩
      rw [hw4] at hrow hbox hb2
      rw [hxb] at hbox
      have B2 := Lib.hid hb2
      have R2 := Lib.hid hrow
      have X2 := Lib.hid hbox
      clear hr hl hd hb2 hrow hbox hal
      by_cases hx : r.lo ≤ x ∧ x < r.hi
      · obtain ⟨x1, x2⟩ := hx
        have HF : Hid (findR L x = r ∧ findB L x = true) := by
          show _ ∧ _
          unfold findR findB
          rw [F.out, HD.out, List.find?_cons_of_pos (by exact Rg.has_iff.2 ⟨x1, x2⟩)]
          exact ⟨rfl, rfl⟩
        obtain ⟨lo, hi, p⟩ := r
        replace x1 : lo ≤ x := x1
        replace x2 : x < hi := x2
        obtain ⟨p0, p1, p2⟩ := cells3 X2.out
        obtain ⟨q0, q1, q2⟩ := cells3 R2.out
        have hfz : ∀ i, w4.frozen? ⟨rb, i, none⟩ = false := fun i => frozen_of_row w4 rb i _ _ R2.out
        go_wp2_with (rw [hw4])
        have hg := sets_grown (b := rb) [(0, .int .i64 lo), (1, .int .i64 hi), (2, .int .i64 p)] w4
        have hr := sets_row [(0, .int .i64 lo), (1, .int .i64 hi), (2, .int .i64 p)] R2.out
        change bodyPost _ _ _ _ _ (sets w4 rb [(0, .int .i64 lo), (1, .int .i64 hi), (2, .int .i64 p)])
        obtain ⟨w5, hw5⟩ : ∃ w5, sets w4 rb [(0, .int .i64 lo), (1, .int .i64 hi), (2, .int .i64 p)] = w5 := ⟨_, rfl⟩
        rw [hw5] at hg hr ⊢
        obtain ⟨r0, r1, r2⟩ := cells3 (show w5.heap[rb]? = some (.cells #[.int .i64 lo, .int .i64 hi, .int .i64 p] 29 (0, 0)) from hr)
        refine bodyPost_ret (v := .tuple #[.agg #[.int .i64 lo, .int .i64 hi, .int .i64 p], .bool true]) (by simp [results, Try.results23, go_sem, r0, r1, r2]) rfl ?_
        rw [HF.out.1, HF.out.2]
        exact ⟨rfl, Below.grown B2.out hg B2.out.size (fun k e => by injection e with e; have := HRB.out; omega)⟩
      · have HF : Hid ((r :: L.drop (k + 1)).find? (fun r => r.has x) = (L.drop (k + 1)).find? (fun r => r.has x)) := by
          show _ = _
          exact List.find?_cons_of_neg (fun e => hx (Rg.has_iff.1 e))
        obtain ⟨lo, hi, p⟩ := r
        obtain ⟨p0, p1, p2⟩ := cells3 X2.out
        by_cases x1 : lo ≤ x
        · have x2 : ¬ x < hi := fun e => hx ⟨x1, e⟩
          clear hx
          go_wp2_with (rw [hw4])
          go_roundw
          case rel => exact ⟨k + 1, by omega, by go_num, B2.out, R2.out, by rw [F.out, HD.out, HF.out]⟩
          case measure => simp [intOf] <;> omega
        · clear hx
          go_wp2_with (rw [hw4])
          go_roundw
          case rel => exact ⟨k + 1, by omega, by go_num, B2.out, R2.out, by rw [F.out, HD.out, HF.out]⟩
          case measure => simp [intOf] <;> omega
    · obtain rfl : k = n := by omega
      have hl := H.out.len
      have HF : Hid (findR L x = ⟨0, 0, 0⟩ ∧ findB L x = false) := by
        show _ ∧ _
        unfold findR findB
        rw [F.out, List.drop_of_length_le (by omega)]
        exact ⟨rfl, rfl⟩
      obtain ⟨q0, q1, q2⟩ := cells3 R.out
      have hfz : ∀ i, wr.frozen? ⟨rb, i, none⟩ = false := fun i => frozen_of_row wr rb i _ _ R.out
      clear hl
      go_wp2
      have hg := sets_grown (b := rb) [(0, .int .i64 0), (1, .int .i64 0), (2, .int .i64 0)] wr
      have hr := sets_row [(0, .int .i64 0), (1, .int .i64 0), (2, .int .i64 0)] R.out
      change bodyPost _ _ _ _ _ (sets wr rb [(0, .int .i64 0), (1, .int .i64 0), (2, .int .i64 0)])
      obtain ⟨w5, hw5⟩ : ∃ w5, sets wr rb [(0, .int .i64 0), (1, .int .i64 0), (2, .int .i64 0)] = w5 := ⟨_, rfl⟩
      rw [hw5] at hg hr ⊢
      obtain ⟨r0, r1, r2⟩ := cells3 (show w5.heap[rb]? = some (.cells #[.int .i64 0, .int .i64 0, .int .i64 0] 29 (0, 0)) from hr)
      refine bodyPost_ret (v := .tuple #[.agg #[.int .i64 0, .int .i64 0, .int .i64 0], .bool false]) (by simp [results, Try.results23, go_sem, r0, r1, r2]) rfl ?_
      rw [HF.out.1, HF.out.2]
      exact ⟨rfl, Below.grown B.out hg B.out.size (fun k e => by injection e with e; have := HRB.out; omega)⟩
end Go.Proofs.Ytoampbdipmecmaa
