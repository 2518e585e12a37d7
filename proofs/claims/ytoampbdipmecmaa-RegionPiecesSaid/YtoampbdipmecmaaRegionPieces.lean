/- The walk of almanaclaw15.RegionPieces. -/
import Derived.Test.YtoampbdipmecmaaRgPcs
import Derived.Test.YtoampbdipmecmaaFree
import Derived.Test.YtoampbdipmecmaaOrder
import Derived.Test.YtoampbdipmecmaaKill
import Derived.IntWalk
namespace Go.Proofs.Ytoampbdipmecmaa
open Go.RowKit Go.Shelf Go.Proofs
attribute [local go_sem] Oper.semAt_some
set_option linter.unusedSimpArgs false in
set_option linter.unusedVariables false in
set_option maxRecDepth 100000 in
set_option maxHeartbeats 4000000 in
theorem pcs_over0 (a0 : Option Addr) (n c0 : Nat) (lo hi : Int) (w : World) (n60 : 60 < n) :
    Calls Try.prog 7 #[.slice a0 n c0, .int .i64 lo, .int .i64 hi] w fun e w' => e = .returned (.bool true) ∧ Below w.heap.size w w' := by
  have hba := below_a2 w (.cells #[.int .i64 hi] 3) (.cells #[.bool false] 4)
  have hrow5 := (Boxed.new w 3 (.int .i64 hi)).alloc (.cells #[.bool false] 4)
  have hrow := Boxed.new (w.alloc (.cells #[.int .i64 hi] 3)) 4 (.bool false)
  rw [World.size_alloc] at hrow
  obtain ⟨wa, hwa⟩ : ∃ wa, (w.alloc (.cells #[.int .i64 hi] 3)).alloc (.cells #[.bool false] 4) = wa := ⟨_, rfl⟩
  obtain ⟨hb, hhb⟩ : ∃ hb, w.heap.size = hb := ⟨_, rfl⟩
  rw [hwa] at hba hrow hrow5
  rw [hhb] at hrow hrow5
  have hlt : hb + 1 < wa.heap.size := hrow.lt
  have BA := Lib.hid hba
  have R5 := Lib.hid hrow5
  have RA := Lib.hid hrow
  have HLT := Lib.hid hlt
  have HWA := Lib.hid hwa
  have HRB := Lib.hid hhb
  clear hba hrow hrow5 hwa hhb hlt
  have dn : decide ((60 : Int) < (n : Int)) = true := decide_eq_true (by omega)
  go_enter Try.func7, Try.ntmps7
  go_wp2_with (first | (rw [HWA.out, HRB.out]) | fail)
  refine (known_any wa).mono ?_
  rintro e w1 ⟨rfl, hb1⟩
  have hrw := boxed_below RA.out hb1 HLT.out
  have hrw5 := boxed_below R5.out hb1 (by have := HLT.out; omega)
  have hc := hrw.cell
  have hf := hrw.frozen
  have hc5 := hrw5.cell
  go_wp2
  have hx := hrw.set (.bool true)
  refine bodyPost_ret (v := .bool true) (by simp [results, Try.results7, go_sem, hx.cell]) rfl ?_
  refine ⟨rfl, ?_⟩
  have hbf := Below.call BA.out hb1
  exact hbf.setCell (p := ⟨hb + 1, 0, none⟩) (by show w.heap.size ≤ hb + 1; rw [HRB.out]; omega) _
set_option linter.unusedSimpArgs false in
set_option linter.unusedVariables false in
set_option maxRecDepth 100000 in
set_option maxHeartbeats 4000000 in
theorem pcs_over1 (a0 : Option Addr) (n c0 : Nat) (lo hi : Int) (w : World) (n60 : ¬ 60 < n) (h1 : lo < 0) :
    Calls Try.prog 7 #[.slice a0 n c0, .int .i64 lo, .int .i64 hi] w fun e w' => e = .returned (.bool true) ∧ Below w.heap.size w w' := by
  have hba := below_a2 w (.cells #[.int .i64 hi] 3) (.cells #[.bool false] 4)
  have hrow5 := (Boxed.new w 3 (.int .i64 hi)).alloc (.cells #[.bool false] 4)
  have hrow := Boxed.new (w.alloc (.cells #[.int .i64 hi] 3)) 4 (.bool false)
  rw [World.size_alloc] at hrow
  obtain ⟨wa, hwa⟩ : ∃ wa, (w.alloc (.cells #[.int .i64 hi] 3)).alloc (.cells #[.bool false] 4) = wa := ⟨_, rfl⟩
  obtain ⟨hb, hhb⟩ : ∃ hb, w.heap.size = hb := ⟨_, rfl⟩
  rw [hwa] at hba hrow hrow5
  rw [hhb] at hrow hrow5
  have hlt : hb + 1 < wa.heap.size := hrow.lt
  have BA := Lib.hid hba
  have R5 := Lib.hid hrow5
  have RA := Lib.hid hrow
  have HLT := Lib.hid hlt
  have HWA := Lib.hid hwa
  have HRB := Lib.hid hhb
  clear hba hrow hrow5 hwa hhb hlt
  have dn : decide ((60 : Int) < (n : Int)) = false := decide_eq_false (by omega)
  have d1 : decide (lo < 0) = true := decide_eq_true (by omega)
  go_enter Try.func7, Try.ntmps7
  go_wp2_with (first | (rw [HWA.out, HRB.out]) | fail)
  refine (known_any wa).mono ?_
  rintro e w1 ⟨rfl, hb1⟩
  have hrw := boxed_below RA.out hb1 HLT.out
  have hrw5 := boxed_below R5.out hb1 (by have := HLT.out; omega)
  have hc := hrw.cell
  have hf := hrw.frozen
  have hc5 := hrw5.cell
  go_wp2
  have hx := hrw.set (.bool true)
  refine bodyPost_ret (v := .bool true) (by simp [results, Try.results7, go_sem, hx.cell]) rfl ?_
  refine ⟨rfl, ?_⟩
  have hbf := Below.call BA.out hb1
  exact hbf.setCell (p := ⟨hb + 1, 0, none⟩) (by show w.heap.size ≤ hb + 1; rw [HRB.out]; omega) _
set_option linter.unusedSimpArgs false in
set_option linter.unusedVariables false in
set_option maxRecDepth 100000 in
set_option maxHeartbeats 4000000 in
theorem pcs_over2 (a0 : Option Addr) (n c0 : Nat) (lo hi : Int) (w : World) (n60 : ¬ 60 < n) (h1 : ¬ lo < 0) (h2 : hi < lo) :
    Calls Try.prog 7 #[.slice a0 n c0, .int .i64 lo, .int .i64 hi] w fun e w' => e = .returned (.bool true) ∧ Below w.heap.size w w' := by
  have hba := below_a2 w (.cells #[.int .i64 hi] 3) (.cells #[.bool false] 4)
  have hrow5 := (Boxed.new w 3 (.int .i64 hi)).alloc (.cells #[.bool false] 4)
  have hrow := Boxed.new (w.alloc (.cells #[.int .i64 hi] 3)) 4 (.bool false)
  rw [World.size_alloc] at hrow
  obtain ⟨wa, hwa⟩ : ∃ wa, (w.alloc (.cells #[.int .i64 hi] 3)).alloc (.cells #[.bool false] 4) = wa := ⟨_, rfl⟩
  obtain ⟨hb, hhb⟩ : ∃ hb, w.heap.size = hb := ⟨_, rfl⟩
  rw [hwa] at hba hrow hrow5
  rw [hhb] at hrow hrow5
  have hlt : hb + 1 < wa.heap.size := hrow.lt
  have BA := Lib.hid hba
  have R5 := Lib.hid hrow5
  have RA := Lib.hid hrow
  have HLT := Lib.hid hlt
  have HWA := Lib.hid hwa
  have HRB := Lib.hid hhb
  clear hba hrow hrow5 hwa hhb hlt
  have dn : decide ((60 : Int) < (n : Int)) = false := decide_eq_false (by omega)
  have d1 : decide (lo < 0) = false := decide_eq_false (by omega)
  have d2 : decide (hi < lo) = true := decide_eq_true (by omega)
  go_enter Try.func7, Try.ntmps7
  go_wp2_with (first | (rw [HWA.out, HRB.out]) | fail)
  refine (known_any wa).mono ?_
  rintro e w1 ⟨rfl, hb1⟩
  have hrw := boxed_below RA.out hb1 HLT.out
  have hrw5 := boxed_below R5.out hb1 (by have := HLT.out; omega)
  have hc := hrw.cell
  have hf := hrw.frozen
  have hc5 := hrw5.cell
  go_wp2
  have hx := hrw.set (.bool true)
  refine bodyPost_ret (v := .bool true) (by simp [results, Try.results7, go_sem, hx.cell]) rfl ?_
  refine ⟨rfl, ?_⟩
  have hbf := Below.call BA.out hb1
  exact hbf.setCell (p := ⟨hb + 1, 0, none⟩) (by show w.heap.size ≤ hb + 1; rw [HRB.out]; omega) _
set_option linter.unusedSimpArgs false in
set_option linter.unusedVariables false in
set_option maxRecDepth 100000 in
set_option maxHeartbeats 4000000 in
theorem pcs_over3 (a0 : Option Addr) (n c0 : Nat) (lo hi : Int) (w : World) (n60 : ¬ 60 < n) (h1 : ¬ lo < 0) (h2 : ¬ hi < lo) (h3 : 1073741824 < hi) :
    Calls Try.prog 7 #[.slice a0 n c0, .int .i64 lo, .int .i64 hi] w fun e w' => e = .returned (.bool true) ∧ Below w.heap.size w w' := by
  have hba := below_a2 w (.cells #[.int .i64 hi] 3) (.cells #[.bool false] 4)
  have hrow5 := (Boxed.new w 3 (.int .i64 hi)).alloc (.cells #[.bool false] 4)
  have hrow := Boxed.new (w.alloc (.cells #[.int .i64 hi] 3)) 4 (.bool false)
  rw [World.size_alloc] at hrow
  obtain ⟨wa, hwa⟩ : ∃ wa, (w.alloc (.cells #[.int .i64 hi] 3)).alloc (.cells #[.bool false] 4) = wa := ⟨_, rfl⟩
  obtain ⟨hb, hhb⟩ : ∃ hb, w.heap.size = hb := ⟨_, rfl⟩
  rw [hwa] at hba hrow hrow5
  rw [hhb] at hrow hrow5
  have hlt : hb + 1 < wa.heap.size := hrow.lt
  have BA := Lib.hid hba
  have R5 := Lib.hid hrow5
  have RA := Lib.hid hrow
  have HLT := Lib.hid hlt
  have HWA := Lib.hid hwa
  have HRB := Lib.hid hhb
  clear hba hrow hrow5 hwa hhb hlt
  have dn : decide ((60 : Int) < (n : Int)) = false := decide_eq_false (by omega)
  have d1 : decide (lo < 0) = false := decide_eq_false (by omega)
  have d2 : decide (hi < lo) = false := decide_eq_false (by omega)
  have d3 : decide ((1073741824 : Int) < hi) = true := decide_eq_true (by omega)
  go_enter Try.func7, Try.ntmps7
  go_wp2_with (first | (rw [HWA.out, HRB.out]) | fail)
  refine (known_any wa).mono ?_
  rintro e w1 ⟨rfl, hb1⟩
  have hrw := boxed_below RA.out hb1 HLT.out
  have hrw5 := boxed_below R5.out hb1 (by have := HLT.out; omega)
  have hc := hrw.cell
  have hf := hrw.frozen
  have hc5 := hrw5.cell
  go_wp2
  have hx := hrw.set (.bool true)
  refine bodyPost_ret (v := .bool true) (by simp [results, Try.results7, go_sem, hx.cell]) rfl ?_
  refine ⟨rfl, ?_⟩
  have hbf := Below.call BA.out hb1
  exact hbf.setCell (p := ⟨hb + 1, 0, none⟩) (by show w.heap.size ≤ hb + 1; rw [HRB.out]; omega) _
/-- What RegionPieces' own cells hold between two rounds. -/
structure PcsI (C : List Rg) (lo hi : Int) (w2 W0 : World) (hb : Nat) (cv : Value) (pre : List (Pc C lo hi)) (W : World) : Prop where
  at_ : ∃ x, goA C lo (pre.map (·.1)) = some x ∧ Boxed W (w2.heap.size + 1) 3 (.int .i64 x)
  sum : Boxed W (w2.heap.size + 1 + 1) 3 (.int .i64 (pagesN (pre.map (·.1))))
  c : Boxed W w2.heap.size 22 cv
  hi5 : Boxed W hb 3 (.int .i64 hi)
  res : Boxed W (hb + 1) 4 (.bool false)
  size : W0.heap.size ≤ W.heap.size
theorem pcsI_own (C : List Rg) (lo hi : Int) (w2 W0 : World) (hb : Nat) (cv : Value) : Own (fun pre W => PcsI C lo hi w2 W0 hb cv pre W) := fun _ _ _ _ hs hg hr => by
  obtain ⟨⟨x, h1, h2⟩, h3, h4, h5, h6, h7⟩ := hs
  exact ⟨⟨x, h1, row_own h2 hg hr⟩, row_own h3 hg hr, row_own h4 hg hr, row_own h5 hg hr, row_own h6 hg hr, Nat.le_trans h7 hg.size⟩
theorem keeps_belowP {W W' : World} (h : Below W.heap.size W W') : KeepsOthers W W' := ⟨h.size, fun k _ hk _ => (h.block k (Array.getElem?_eq_some_iff.1 hk).1).trans hk⟩
theorem piece_sm {m : Nat} {C : List Rg} {lo hi : Int} (h : Cn m C) {pre : List (Pc C lo hi)} : ∀ r ∈ pre.map (·.1), r.Sm := fun r hr => by
  obtain ⟨x, _, e⟩ := List.mem_map.1 hr
  obtain ⟨p1, p2, p3, _, _, p6, _⟩ := piece_at h x.2
  subst e
  exact ⟨by omega, by omega, p6⟩
theorem pagesN_snoc (l : List Rg) (r : Rg) : pagesN (l ++ [r]) = pagesN l + r.hi - r.lo := by
  rw [pagesN_append]
  simp [pagesN]
  omega
/-- The region that a piece is of. -/
theorem piece_find {m : Nat} {C : List Rg} {lo hi : Int} (h : Cn m C) {r : Rg} (hr : r ∈ piecesL C lo hi) : ∃ sl sh, findR C r.lo = ⟨sl, sh, r.p⟩ ∧ r.hi ≤ sh ∧ findB C r.lo = true := by
  obtain ⟨s, hs, e, h2⟩ := piece_iff.1 hr
  subst e
  obtain ⟨h3, h4⟩ := find_it h.parted hs (x := (clipR lo hi s).lo) (by unfold clipR at h2 ⊢; simp only at h2 ⊢; omega)
  exact ⟨s.lo, s.hi, h3, by unfold clipR; simp only; omega, h4⟩

set_option linter.unusedSimpArgs false in
set_option linter.unusedVariables false in
set_option maxRecDepth 100000 in
set_option maxHeartbeats 4000000 in
theorem pcs_in (a0 : Option Addr) (n c0 : Nat) (L : List Rg) (lo hi : Int) (w : World) (h : RdS Rg.cells 3 w a0 n c0 L) (hn : n ≤ 60) (h0 : 0 ≤ lo) (h1 : lo ≤ hi) (h2 : hi ≤ 1073741824) :
    Calls Try.prog 7 #[.slice a0 n c0, .int .i64 lo, .int .i64 hi] w fun e w' => e = .returned (.bool true) ∧ Below w.heap.size w w' := by
  have H := Lib.hid h
  have hl := h.len
  have HC := Lib.hid (clean_cn (L := L) (n := 60) (by omega))
  obtain ⟨C, hC⟩ : ∃ C, cleanL L = C := ⟨_, rfl⟩
  rw [hC] at HC
  have HEQ := Lib.hid hC
  obtain ⟨q, hq⟩ : ∃ q, C.length = q := ⟨_, rfl⟩
  have hq1 : q ≤ 120 := by have := HC.out.few; omega
  have HQ := Lib.hid hq
  have dn : decide ((60 : Int) < (n : Int)) = false := decide_eq_false (by omega)
  have d1 : decide (lo < 0) = false := decide_eq_false (by omega)
  have d2 : decide (hi < lo) = false := decide_eq_false (by omega)
  have d3 : decide ((1073741824 : Int) < hi) = false := decide_eq_false (by omega)
  have HN : Hid (n ≤ 60) := hn
  clear h hl hC hq
  have hba := below_a2 w (.cells #[.int .i64 hi] 3) (.cells #[.bool false] 4)
  have hrow5 := (Boxed.new w 3 (.int .i64 hi)).alloc (.cells #[.bool false] 4)
  have hrow := Boxed.new (w.alloc (.cells #[.int .i64 hi] 3)) 4 (.bool false)
  rw [World.size_alloc] at hrow
  obtain ⟨wa, hwa⟩ : ∃ wa, (w.alloc (.cells #[.int .i64 hi] 3)).alloc (.cells #[.bool false] 4) = wa := ⟨_, rfl⟩
  obtain ⟨hb, hhb⟩ : ∃ hb, w.heap.size = hb := ⟨_, rfl⟩
  rw [hwa] at hba hrow hrow5
  rw [hhb] at hrow hrow5
  have hlt : hb + 1 < wa.heap.size := hrow.lt
  have BA := Lib.hid hba
  have R5 := Lib.hid hrow5
  have RA := Lib.hid hrow
  have HLT := Lib.hid hlt
  have HWA := Lib.hid hwa
  have HRB := Lib.hid hhb
  clear hba hrow hrow5 hwa hhb hlt
  refine (callsIn_wide (n := 6)).1 ?_
  refine callsIn_of_wp_marks Try.func7 rfl trivial ?_ rfl
  simp only [Try.ntmps7, List.size_toArray, List.length_cons, List.length_nil, Nat.reduceAdd, Nat.reduceSub, Array.replicate_succ, Array.replicate_zero, List.push_toArray, List.append_toArray, List.nil_append, List.cons_append]
  have hfn0 : Fence.wide.fn 8 := trivial
  have hfn1 : Fence.wide.fn 9 := trivial
  have hfn2 : Fence.wide.fn 16 := trivial
  gi_wp2_with (first | (rw [HWA.out, HRB.out]) | (gi_at_call 8; refine (callsIn_wide.2 (known_any _)).mono ?_; rintro e w1 ⟨rfl, hb1⟩; have hz5 := (boxed_below R5.out hb1 (by have := HLT.out; omega)).cell) | (gi_at_call 9; refine (callsIn_wide.2 (clean_any a0 n c0 L w1 ((H.out.below BA.out).below hb1) (Nat.le_trans HN.out (by omega)))).mono ?_; rintro e w2 ⟨v2, rfl, ho2, hb2⟩; rw [HEQ.out] at ho2; obtain ⟨ac, cc, rfl⟩ := ho2.shapeN q HQ.out; have RC : Hid (∀ z, Below w2.heap.size w2 z → RdS Rg.cells 3 z ac q cc C) := fun z hb => (ho2.below hb).rd rgC; have S2 : Hid (Below wa.heap.size wa w2) := Below.call hb1 hb2; have hal := below_a3 w2 (.cells #[.slice ac q cc] 22) (.cells #[.int .i64 lo] 3) (.cells #[.int .i64 0] 3); have x7 := ((Boxed.new w2 22 (.slice ac q cc)).alloc (.cells #[.int .i64 lo] 3)).alloc (.cells #[.int .i64 0] 3); have x8 := (Boxed.new (w2.alloc (.cells #[.slice ac q cc] 22)) 3 (.int .i64 lo)).alloc (.cells #[.int .i64 0] 3); have x9 := Boxed.new ((w2.alloc (.cells #[.slice ac q cc] 22)).alloc (.cells #[.int .i64 lo] 3)) 3 (.int .i64 0); simp only [World.size_alloc] at x8 x9; have y5 := boxed_below (boxed_below R5.out S2.out (by have := HLT.out; omega)) hal (boxed_below R5.out S2.out (by have := HLT.out; omega)).lt; have yr := boxed_below (boxed_below RA.out S2.out HLT.out) hal (boxed_below RA.out S2.out HLT.out).lt; have c7 := x7.cell; have c5 := y5.cell; clear ho2 hb1 hb2 hz5) | (gi_at_call 16; refine (callsIn_wide.2 (pieces_any ac q cc C lo hi _ (RC.out _ hal) (by omega))).mono ?_; rintro e W0 ⟨v, rfl, hP, hO, hb0⟩))
  have hsz0 : w2.heap.size + 1 + 1 + 1 ≤ W0.heap.size := by have := hb0.size; simp at this; omega
  have hhb2 : hb + 1 < w2.heap.size := by have h1 := HLT.out; have h2 := S2.out.size; omega
  have p7 := boxed_below x7 hb0 (by simp <;> omega)
  have p8 := boxed_below x8 hb0 (by simp <;> omega)
  have p9 := boxed_below x9 hb0 (by simp <;> omega)
  have p5 := boxed_below y5 hb0 y5.lt
  have pr := boxed_below yr hb0 yr.lt
  have hbb := Below.call hal hb0
  have hlt := hP.hi.lt
  simp only [World.size_alloc] at hP hO hlt ⊢
  have HNP : Hid ((piecesL C lo hi).length ≤ 120) := by
    have := piecesL_le C C.length lo hi
    rw [List.take_length] at this
    have := HC.out.few
    show _ ≤ _
    omega
  have HGA : Hid (goA C lo (piecesL C lo hi) ≠ none) := goA_pieces C lo hi C 0 lo HC.out.canon.rising (Int.le_refl _) (by omega) (fun x _ _ => rfl)
  clear x7 x8 x9 y5 yr c7 c5 hal hb0
  refine wpIn_rangeFunc_ownH rfl (by decide) (gf := 32) (lb := #[.pointer (some ⟨w2.heap.size + 1 + 1 + 1, 0, none⟩), .pointer (some ⟨w2.heap.size + 1 + 1 + 1 + 1, 0, none⟩), .pointer (some ⟨w2.heap.size + 1 + 1 + 1 + 2, 0, none⟩)]) rfl trivial (enters_of Try.func32 (by kernel_rfl) rfl)
    (pieces_of Fence.wide (6 - 1) trivial rfl (by decide) (w2.heap.size + 1 + 1 + 1) W0.heap.size v C lo hi W0 (by have := HQ.out; omega) hP hO hlt (Nat.le_refl _) (fun g hg => (hO.at_base g hg).2)) Amid.trans (amid_b (Nat.le_refl _)) (Below.refl _ _) (fun _ => rfl)
    (fun pre W => PcsI C lo hi w2 W0 hb (.slice ac q cc) pre W ∧ Below w2.heap.size w2 W)
    (fun _ pre _ => goA C lo (pre.map (·.1)) = none)
    (OwnFrom.and (Own.from (pcsI_own C lo hi w2 W0 hb (.slice ac q cc)) _) (ownFrom_below (Nat.le_refl _) (by omega)))
    (fun c => fun _ _ _ _ hs _ _ => hs)
    ⟨⟨⟨lo, rfl, p8⟩, p9, p7, p5, pr, Nat.le_refl _⟩, hbb⟩
    (fun x a' W => ∃ Bx, W0.heap.size ≤ Bx ∧ W.heap[Bx]? = some (.cells #[.int .i64 x.1.lo, .int .i64 x.1.hi, .int .i64 x.1.p] 29 (0, 0)) ∧ a' = { tmps := #[.slice a0 n c0, .int .i64 lo, .int .i64 hi, undef, undef, .pointer (some ⟨hb, 0, none⟩), .pointer (some ⟨hb + 1, 0, none⟩), .pointer (some ⟨w2.heap.size, 0, none⟩), .pointer (some ⟨w2.heap.size + 1, 0, none⟩), .pointer (some ⟨w2.heap.size + 1 + 1, 0, none⟩), .pointer (some ⟨Bx, 0, none⟩), undef, undef, undef, undef, .bool true, .bool false, .slice a0 n c0, .int .i64 n, .bool false, .bool false, .int .i64 lo, .bool false, .bool false, .bool false, .int .i64 hi, .int .i64 lo, .bool false, .bool false, .bool false, .int .i64 hi, .bool false, .bool false, .slice a0 n c0, .slice ac q cc, .int .i64 lo, .slice ac q cc, .int .i64 lo, .int .i64 hi, .func (.func 32) #[] #[.pointer (some ⟨w2.heap.size + 1 + 1 + 1, 0, none⟩), .pointer (some ⟨w2.heap.size + 1 + 1 + 1 + 1, 0, none⟩), .pointer (some ⟨w2.heap.size + 1 + 1 + 1 + 2, 0, none⟩)], x.1.val, undef, undef, undef, undef, undef, undef, undef, undef, undef, undef, undef, undef, undef, undef, undef, undef, undef, undef, undef, undef, undef, undef, undef, undef, undef, undef, undef, undef, undef, undef, undef, undef, undef, undef, undef, undef, undef, undef, undef, undef, undef, undef, undef, undef, undef, undef, undef, undef, undef, undef, undef, undef, undef, undef, undef, undef, undef, undef, undef, undef, undef, undef, undef, undef, undef, undef, undef, undef, undef, undef, undef, undef, undef, undef, undef, undef, undef, undef, undef, undef, undef, undef, undef, undef, undef, undef, undef, undef, undef, undef, undef], defers := [] })
    (fun x a' _ X Y row hs hg hr => by obtain ⟨Bx, h1, h2, h3⟩ := hs; exact ⟨Bx, h1, row_own h2 hg (fun r e => (hr r e).2), h3⟩)
    ?assign ?body ?done ?stop
  case assign =>
    rintro l pre x W K ⟨hI, hB⟩ hK
    obtain ⟨⟨xl, xh, xp⟩, hxm⟩ := x
    dsimp only [Rg.val] at hK ⊢
    gi_wp2
    exact hK _ _ ((KeepsOthers.alloc _ _).from _) (Amid.below (below_a _ _) hI.size) ⟨pcsI_own C lo hi w2 W0 hb (.slice ac q cc) _ _ _ none hI (World.grownBy_alloc _ _ none) (fun r e => by cases e), hB.alloc hB.size _⟩ ⟨W.heap.size, hI.size, heap_alloc_new _ _, rfl⟩
  case stop =>
    rintro D c pre W hD ⟨rest, hrest⟩ hs hK
    refine absurd ?_ HGA.out
    rw [← hrest, goA_append, hs]
    rfl
  case body =>
    rintro l pre x a' W hl ⟨r, hr⟩ ⟨⟨⟨at_, hat, k8⟩, k9, k7, k5, kr, hsz⟩, hB⟩ ⟨Bx, hBx, hX, rfl⟩ hlt2
    obtain ⟨g1, g2, g3, g4, g5, g6, _⟩ := piece_at HC.out x.2
    obtain ⟨sl, sh, e1, e2, e3⟩ := piece_find HC.out x.2
    have hpb := pagesN_bd _ (piece_sm HC.out (pre := pre))
    have hpl : (pre.map (·.1)).length ≤ 120 := by rw [List.length_map]; have := HNP.out; omega
    have hgo : goA C lo ((pre ++ [x]).map (·.1)) = if x.1.lo < at_ ∨ (at_ < x.1.lo ∧ findB C at_ = true) then none else some x.1.hi := by
      rw [List.map_append, goA_append, hat]
      rfl
    have hpn : pagesN ((pre ++ [x]).map (·.1)) = pagesN (pre.map (·.1)) + x.1.hi - x.1.lo := by
      rw [List.map_append]
      exact pagesN_snoc _ _
    obtain ⟨PX, hPX⟩ : ∃ PX : List (Pc C lo hi), pre ++ [x] = PX := ⟨_, rfl⟩
    rw [hPX] at hgo hpn ⊢
    obtain ⟨N, hN⟩ : ∃ N, pagesN (pre.map (·.1)) = N := ⟨_, rfl⟩
    rw [hN] at hpb hpn k9
    obtain ⟨⟨xl, xh, xp⟩, hxm⟩ := x
    dsimp only [Rg.val] at hX g1 g2 g3 g4 g5 g6 e1 e2 e3 hgo hpn ⊢
    have HGG := Lib.hid hgo
    have HPN := Lib.hid hpn
    have HSZ := Lib.hid hsz
    have HB := Lib.hid hB
    have Hhr := Lib.hid hr
    have hN1 : -200000000000000 ≤ N ∧ N ≤ 200000000000000 := by omega
    obtain ⟨hn1, hn2⟩ := hN1
    have HF1 : Hid (∀ w1, w1 = W → Calls Try.prog 23 #[.slice ac q cc, .int .i64 xl] w1 fun e w' => e = .returned (.tuple #[.agg #[.int .i64 sl, .int .i64 sh, .int .i64 xp], .bool true]) ∧ Below w1.heap.size w1 w') := fun w1 e => by
      have := find_any ac q cc C xl w1 (RC.out _ (by rw [e]; exact HB.out)) (by omega)
      rwa [e1, e3] at this
    have HF2 : Hid (∀ w1, Below W.heap.size W w1 → Calls Try.prog 23 #[.slice ac q cc, .int .i64 at_] w1 fun e w' => e = .returned (.tuple #[(findR C at_).val, .bool (findB C at_)]) ∧ Below w1.heap.size w1 w') := fun w1 hb => find_any ac q cc C at_ w1 (RC.out _ (Below.call HB.out hb)) (by omega)
    have u1 : decide (hi < xh) = false := decide_eq_false (by omega)
    have u2 : decide (xh ≤ xl) = false := decide_eq_false (by omega)
    have u3 : decide (sh < xh) = false := decide_eq_false (by omega)
    have u4 : (xp != xp) = false := by simp
    have v1 : IntKind.i64.wrap (N + xh) = N + xh := IntWalk.i64_in _ (by omega)
    have v2 : IntKind.i64.wrap (N + xh - xl) = N + xh - xl := IntWalk.i64_in _ (by omega)
    clear hgo hpn hpb hpl hat e1 e3 hN hPX hsz hr hP hO hlt p7 p8 p9 p5 pr hbb
    obtain ⟨x0, x1, x2⟩ := cells3 hX
    have c7 := k7.cell
    have hff : (Fence.wide.inRound l).fn 23 := trivial
    gi_wp2_with fail
    refine ⟨trivial, (CallsIn.inRound l (callsIn_wide.2 (HF1.out _ rfl))).mono ?_⟩
    rintro e W9 ⟨rfl, hb9⟩
    have hal9 := below_a W9 (.cells #[.int .i64 sl, .int .i64 sh, .int .i64 xp] 29)
    have hbox9 := heap_alloc_new W9 (.cells #[.int .i64 sl, .int .i64 sh, .int .i64 xp] 29)
    obtain ⟨w10, hw10⟩ : ∃ z, W9.alloc (.cells #[.int .i64 sl, .int .i64 sh, .int .i64 xp] 29) = z := ⟨_, rfl⟩
    obtain ⟨yb, hyb⟩ : ∃ z, W9.heap.size = z := ⟨_, rfl⟩
    rw [hw10] at hal9 hbox9
    rw [hyb] at hbox9
    have hb10 := Below.call hb9 hal9
    obtain ⟨y0, y1, y2⟩ := cells3 hbox9
    have k8A := boxed_below k8 hb10 k8.lt
    have k9A := boxed_below k9 hb10 k9.lt
    have k7A := boxed_below k7 hb10 k7.lt
    have k5A := boxed_below k5 hb10 k5.lt
    have krA := boxed_below kr hb10 kr.lt
    have hXA : w10.heap[Bx]? = some (.cells #[.int .i64 xl, .int .i64 xh, .int .i64 xp] 29 (0, 0)) := row_keep hX hb10
    obtain ⟨xa0, xa1, xa2⟩ := cells3 hXA
    have ca8 := k8A.cell
    have ca5 := k5A.cell
    have ca7 := k7A.cell
    have fa8 := k8A.frozen
    have car := krA.cell
    have far := krA.frozen
    clear k8 k9 k7 k5 kr hX c7 x0 x1 x2 hb9 hal9 hbox9
    by_cases q1 : xl < at_
    · have HBK := Lib.hid hb10
      have hnone : goA C lo (PX.map (·.1)) = none := by rw [HGG.out, if_pos (.inl q1)]
      have q1 : decide (xl < at_) = true := decide_eq_true q1
      gi_wp2_with (rw [hw10])
      exact ⟨((keeps_belowP HBK.out).trans (KeepsOthers.setCell _ _ _)).from _, hnone⟩
    have q1' : decide (xl < at_) = false := decide_eq_false q1
    by_cases q2 : at_ < xl
    rotate_left
    · have HBK := Lib.hid hb10
      have HGO : Hid (goA C lo (PX.map (·.1)) = some xh) := by show _ = _; rw [HGG.out, if_neg (by rintro (e | ⟨e, _⟩) <;> omega)]
      have q2 : decide (at_ < xl) = false := decide_eq_false q2
      clear q1
      have m8 := k8A.set (.int .i64 xh)
      have m9 := k9A.other (B' := w2.heap.size + 1) (by omega) (.int .i64 xh)
      have m7 := k7A.other (B' := w2.heap.size + 1) (by omega) (.int .i64 xh)
      have m5 := k5A.other (B' := w2.heap.size + 1) (by omega) (.int .i64 xh)
      have mr := krA.other (B' := w2.heap.size + 1) (by omega) (.int .i64 xh)
      have mX := (heap_setCell_other w10 ⟨w2.heap.size + 1, 0, none⟩ Bx (.int .i64 xh) (by first | (show Bx ≠ w2.heap.size + 1; omega) | (show w2.heap.size + 1 ≠ Bx; omega))).trans hXA
      obtain ⟨w13, hw13⟩ : ∃ z, w10.setCell ⟨w2.heap.size + 1, 0, none⟩ (.int .i64 xh) = z := ⟨_, rfl⟩
      have hk13 : KeepsOthers w10 w13 := hw13 ▸ KeepsOthers.setCell _ _ _
      have ha13 : Amid (w2.heap.size + 1 + 1 + 1) W0.heap.size w10 w13 := hw13 ▸ (Amid.refl _ _ _).setCell ⟨w2.heap.size + 1, 0, none⟩ (.inl (by show w2.heap.size + 1 < _; omega)) _
      have hb13 : Below w2.heap.size w10 w13 := hw13 ▸ (Below.refl _ _).setCell (p := ⟨w2.heap.size + 1, 0, none⟩) (by show w2.heap.size ≤ w2.heap.size + 1; omega) _
      have hs13 : w13.heap.size = w10.heap.size := by rw [← hw13]; simp
      rw [hw13] at m8 m9 m7 m5 mr mX
      have e9 := m9.cell
      have f9 := m9.frozen
      obtain ⟨s0, s1, s2⟩ := cells3 mX
      gi_wp2_with (first | (rw [hw10]) | (rw [hw13]))
      refine ⟨((keeps_belowP HBK.out).trans (hk13.trans (KeepsOthers.setCell _ _ _))).from _, ((Amid.below HBK.out HSZ.out).trans ha13).setCell ⟨w2.heap.size + 1 + 1, 0, none⟩ (.inl (by show w2.heap.size + 1 + 1 < _; omega)) _, ⟨⟨xh, HGO.out, m8.other (by omega) _⟩, ?_, m7.other (by omega) _, m5.other (by omega) _, mr.other (by omega) _, ?_⟩, ?_⟩
      · rw [HPN.out]; exact m9.set _
      · have h1 := HBK.out.size; have h2 := HSZ.out; simp; omega
      · exact ((HB.out.trans (HBK.out.mono HB.out.size)).trans hb13).setCell (p := ⟨w2.heap.size + 1 + 1, 0, none⟩) (by show w2.heap.size ≤ w2.heap.size + 1 + 1; omega) _
    have q2' : decide (at_ < xl) = true := decide_eq_true q2
    gi_wp2_with (first | (rw [hw10]) | fail)
    refine ⟨trivial, (CallsIn.inRound l (callsIn_wide.2 (HF2.out _ hb10))).mono ?_⟩
    rintro e W11 ⟨rfl, hb11⟩
    obtain ⟨FB, hFB⟩ : ∃ z, findB C at_ = z := ⟨_, rfl⟩
    obtain ⟨⟨fl, fh, fp⟩, hFR⟩ : ∃ z, findR C at_ = z := ⟨_, rfl⟩
    rw [hFB, hFR]
    rw [hFB] at HGG
    dsimp only [Rg.val]
    have hal11 := below_a W11 (.cells #[.int .i64 fl, .int .i64 fh, .int .i64 fp] 29)
    obtain ⟨w12, hw12⟩ : ∃ z, W11.alloc (.cells #[.int .i64 fl, .int .i64 fh, .int .i64 fp] 29) = z := ⟨_, rfl⟩
    rw [hw12] at hal11
    have hb12 := Below.call hb11 hal11
    have k8B := boxed_below k8A hb12 k8A.lt
    have k9B := boxed_below k9A hb12 k9A.lt
    have k7B := boxed_below k7A hb12 k7A.lt
    have k5B := boxed_below k5A hb12 k5A.lt
    have krB := boxed_below krA hb12 krA.lt
    have hXB : w12.heap[Bx]? = some (.cells #[.int .i64 xl, .int .i64 xh, .int .i64 xp] 29 (0, 0)) := row_keep hXA hb12
    obtain ⟨xb0, xb1, xb2⟩ := cells3 hXB
    have cb8 := k8B.cell
    have fb8 := k8B.frozen
    have cbr := krB.cell
    have fbr := krB.frozen
    have HBK := Lib.hid (Below.call hb10 hb12)
    clear k8A k9A k7A k5A krA hXA xa0 xa1 xa2 ca8 ca5 ca7 fa8 car far hb11 hal11 y0 y1 y2 hFR hFB hb10 hb12
    cases FB with
    | true =>
      have hnone : goA C lo (PX.map (·.1)) = none := by rw [HGG.out, if_pos (.inr ⟨q2, rfl⟩)]
      gi_wp2_with (rw [hw12])
      exact ⟨((keeps_belowP HBK.out).trans (KeepsOthers.setCell _ _ _)).from _, hnone⟩
    | false =>
      have HGO : Hid (goA C lo (PX.map (·.1)) = some xh) := by show _ = _; rw [HGG.out, if_neg (by rintro (e | ⟨_, e⟩) <;> first | omega | cases e)]
      clear q1 q2
      have m8 := k8B.set (.int .i64 xh)
      have m9 := k9B.other (B' := w2.heap.size + 1) (by omega) (.int .i64 xh)
      have m7 := k7B.other (B' := w2.heap.size + 1) (by omega) (.int .i64 xh)
      have m5 := k5B.other (B' := w2.heap.size + 1) (by omega) (.int .i64 xh)
      have mr := krB.other (B' := w2.heap.size + 1) (by omega) (.int .i64 xh)
      have mX := (heap_setCell_other w12 ⟨w2.heap.size + 1, 0, none⟩ Bx (.int .i64 xh) (by first | (show Bx ≠ w2.heap.size + 1; omega) | (show w2.heap.size + 1 ≠ Bx; omega))).trans hXB
      obtain ⟨w13, hw13⟩ : ∃ z, w12.setCell ⟨w2.heap.size + 1, 0, none⟩ (.int .i64 xh) = z := ⟨_, rfl⟩
      have hk13 : KeepsOthers w12 w13 := hw13 ▸ KeepsOthers.setCell _ _ _
      have ha13 : Amid (w2.heap.size + 1 + 1 + 1) W0.heap.size w12 w13 := hw13 ▸ (Amid.refl _ _ _).setCell ⟨w2.heap.size + 1, 0, none⟩ (.inl (by show w2.heap.size + 1 < _; omega)) _
      have hb13 : Below w2.heap.size w12 w13 := hw13 ▸ (Below.refl _ _).setCell (p := ⟨w2.heap.size + 1, 0, none⟩) (by show w2.heap.size ≤ w2.heap.size + 1; omega) _
      have hs13 : w13.heap.size = w12.heap.size := by rw [← hw13]; simp
      rw [hw13] at m8 m9 m7 m5 mr mX
      have e9 := m9.cell
      have f9 := m9.frozen
      obtain ⟨s0, s1, s2⟩ := cells3 mX
      gi_wp2_with (first | (rw [hw12]) | (rw [hw13]))
      refine ⟨((keeps_belowP HBK.out).trans (hk13.trans (KeepsOthers.setCell _ _ _))).from _, ((Amid.below HBK.out HSZ.out).trans ha13).setCell ⟨w2.heap.size + 1 + 1, 0, none⟩ (.inl (by show w2.heap.size + 1 + 1 < _; omega)) _, ⟨⟨xh, HGO.out, m8.other (by omega) _⟩, ?_, m7.other (by omega) _, m5.other (by omega) _, mr.other (by omega) _, ?_⟩, ?_⟩
      · rw [HPN.out]; exact m9.set _
      · have h1 := HBK.out.size; have h2 := HSZ.out; simp; omega
      · exact ((HB.out.trans (HBK.out.mono HB.out.size)).trans hb13).setCell (p := ⟨w2.heap.size + 1 + 1, 0, none⟩) (by show w2.heap.size ≤ w2.heap.size + 1 + 1; omega) _
  case done =>
    rintro D ys W hD hys ⟨⟨⟨at_, hat, k8⟩, k9, k7, k5, kr, hsz⟩, hB⟩ hK
    have hys' : ys.map (·.1) = piecesL C lo hi := hys
    rw [hys'] at k9
    have hri := pieces_rising lo hi C 0 lo HC.out.canon.rising (by omega)
    obtain ⟨hle, hall⟩ := all_pages (ok := okW 0) (hi := hi) (piecesL C lo hi) lo hri h1 (fun r hr => ⟨pieces_below C lo hi r hr, okW_zero (by have := piece_at HC.out hr; exact this.2.2.2.2.2.1)⟩)
    have hcut := cut_pages h1 C (fun r hr => (HC.out.nice r hr).1)
    rw [unL_cut HC.out] at hcut
    have hpb := pagesN_bd C HC.out.sm
    rw [HQ.out] at hpb
    have hUC := un_cn (lo := lo) (hi := hi) HC.out
    have hub := pagesN_bd (unL C lo hi) hUC.sm
    have huf := hUC.few
    have HALL0 : allL C lo hi (okW 0) = decide (pagesN (piecesL C lo hi) = hi - lo) := by
      unfold allL
      split
      · have e : hi = lo := by omega
        have e2 : piecesL C lo hi = [] := by
          rw [e]
          cases ee : piecesL C lo lo with
          | nil => rfl
          | cons r l =>
            have := piece_at HC.out (lo := lo) (hi := lo) (r := r) (by rw [ee]; exact List.mem_cons_self ..)
            omega
        rw [e2]
        exact (decide_eq_true (by show (0 : Int) = hi - lo; omega)).symm
      · exact hall
    obtain ⟨N, hN⟩ : ∃ N, pagesN (piecesL C lo hi) = N := ⟨_, rfl⟩
    obtain ⟨PC, hPC⟩ : ∃ N, pagesN C = N := ⟨_, rfl⟩
    obtain ⟨PU, hPU⟩ : ∃ N, pagesN (unL C lo hi) = N := ⟨_, rfl⟩
    obtain ⟨AB, hAB⟩ : ∃ N, allL C lo hi (okW 0) = N := ⟨_, rfl⟩
    rw [hN, hAB] at HALL0
    rw [hN, hPC, hPU] at hcut
    rw [hPC] at hpb
    rw [hPU] at hub
    rw [hN] at hle k9
    have e1 : decide (N ≤ hi - lo) = true := decide_eq_true hle
    have e2 : (N == hi - lo) = AB := by rw [HALL0, Bool.beq_eq_decide_eq]
    have e3 : (AB == AB) = true := by simp
    have e4 : IntKind.i64.wrap (hi - lo) = hi - lo := IntWalk.i64_in _ (by omega)
    have e5 : IntKind.i64.wrap (PC - PU) = N := by rw [IntWalk.i64_in _ (by omega)]; omega
    have HALL : Hid (∀ w1, Below W.heap.size W w1 → Calls Try.prog 14 #[.slice ac q cc, .int .i64 lo, .int .i64 hi, .int .i64 0] w1 fun e w' => e = .returned (.bool AB) ∧ Below w1.heap.size w1 w') := fun w1 hb => by
      have := all_any ac q cc C lo hi 0 w1 (RC.out _ (Below.call hB hb)) (by omega)
      rwa [hAB] at this
    have HPC : Hid (∀ w1, Below W.heap.size W w1 → Calls Try.prog 13 #[.slice ac q cc] w1 fun e w' => e = .returned (.int .i64 PC) ∧ Below w1.heap.size w1 w') := fun w1 hb => by
      have := pages_any ac q cc C w1 (RC.out _ (Below.call hB hb)) HC.out.sm (by omega)
      rwa [hPC] at this
    have HUN : Hid (∀ w1, Below W.heap.size W w1 → Calls Try.prog 12 #[.slice ac q cc, .int .i64 lo, .int .i64 hi] w1 (GivesRgs (unL C lo hi) w1)) := fun w1 hb => un_out ac q cc C lo hi w1 (RC.out _ (Below.call hB hb)) HC.out (by omega)
    have HUC := Lib.hid hUC
    have HPU := Lib.hid hPU
    have K9 := Lib.hid k9
    have K7 := Lib.hid k7
    have K5 := Lib.hid k5
    have KR := Lib.hid kr
    have HDb : Hid (hb + 1 < D) := by show _ < _; omega
    have hwW := Below.call BA.out (Below.call S2.out hB)
    have hwsz : Hid (w.heap.size ≤ D) := by have h1 := BA.out.size; have h2 := S2.out.size; have h3 := hB.size; show _ ≤ _; have := HRB.out; omega
    have HKD : Hid (W.heap[D]? = some (.deferred (some [])) ∧ Below w.heap.size w W ∧ W.heap.size ≤ W.heap.size) := ⟨hK, hwW, Nat.le_refl _⟩
    clear hys hys' hat hri hle hall hcut hpb hub hUC huf HALL0 hN hPC hPU hAB hsz hB hK hP hO hlt p7 p8 p9 p5 pr hbb k8 k9 k7 k5 kr hwW
    gi_wp2_with fail
    refine wpIn_wide.2 ?_
    refine' reg_kill [(29, 23)] [eqV _, eqV _, eqV _, eqV _, eqV _, eqV _, eqV _, eqV _, eqV _, eqV _, eqV _, eqV _, eqV _, eqV _, eqV _, eqV _, eqV _, eqV _, eqV _, eqV _, eqV _, eqV _, eqV _, (fun v z => ∃ s m c, v = .slice s m c ∧ m ≤ 121 ∧ RdS Rg.cells 3 z s m c (unL C lo hi)), eqV _, eqV _, eqV _, eqV _, eqV _, (fun _ z => Boxed z (hb + 1) 4 (.bool true))] [(29, fun z z' => World.grownBy z z' (some (hb + 1)))] [(0, fun z => Below W.heap.size W z), (1, fun z => Below W.heap.size W z), (6, fun z => Below W.heap.size W z), (8, fun z => Below W.heap.size W z), (9, fun z => Below W.heap.size W z), (10, fun z => Below W.heap.size W z), (11, fun z => Below W.heap.size W z), (18, fun z => Below W.heap.size W z), (19, fun z => Below W.heap.size W z), (20, fun z => Below W.heap.size W z), (22, fun z => Below W.heap.size W z), (23, fun z => Below W.heap.size W z), (24, fun z => Below W.heap.size W z), (26, fun z => Below W.heap.size W z), (29, fun z => Boxed z (hb + 1) 4 (.bool false)), (30, fun z => z.heap[D]? = some (.deferred (some [])) ∧ Below w.heap.size w z ∧ W.heap.size ≤ z.heap.size)] [103, 104, 105, 106, 107, 108, 109, 110, 111, 112, 113, 114, 115, 116, 117, 118, 119, 120, 121, 122, 123, 124, 125, 126, 127, 128, 129, 130, 131, 161] [[], [], [], [1, 2], [0, 3], [4], [5], [5], [5], [5, 6, 7, 8], [5], [5], [5], [5, 11, 12], [5, 10, 13], [5, 9, 14], [5, 15], [16], [17], [17, 18], [17], [17], [17], [17, 20, 21, 22], [17, 23], [17, 19, 24], [17], [17, 25, 26], [17, 27], [28]] [0, 1, 2, 3, 4, 5, 6, 7, 8, 9, 10, 11, 12, 13, 14, 15, 16, 17, 18, 19, 20, 21, 22, 23, 24, 25, 26, 27, 28, 29] 30 (by kernel_rfl) (by kernel_rfl) ⟨eqV_stays _, eqV_stays _, eqV_stays _, eqV_stays _, eqV_stays _, eqV_stays _, eqV_stays _, eqV_stays _, eqV_stays _, eqV_stays _, eqV_stays _, eqV_stays _, eqV_stays _, eqV_stays _, eqV_stays _, eqV_stays _, eqV_stays _, eqV_stays _, eqV_stays _, eqV_stays _, eqV_stays _, eqV_stays _, eqV_stays _, fun _ _ _ ⟨s, m, c, e, hm, p⟩ b => ⟨s, m, c, e, hm, p.below b⟩, eqV_stays _, eqV_stays _, eqV_stays _, eqV_stays _, eqV_stays _, fun _ _ _ p b => boxed_below p b p.lt, trivial⟩ ⟨⟨.inl (eqV_stays _), .inl (eqV_stays _), .inl (eqV_stays _), .inl (eqV_stays _), .inl (eqV_stays _), .inl (eqV_stays _), .inl (eqV_stays _), .inl (eqV_stays _), .inl (eqV_stays _), .inl (eqV_stays _), .inl (eqV_stays _), .inl (eqV_stays _), .inl (eqV_stays _), .inl (eqV_stays _), .inl (eqV_stays _), .inl (eqV_stays _), .inl (eqV_stays _), .inl (eqV_stays _), .inl (eqV_stays _), .inl (eqV_stays _), .inl (eqV_stays _), .inl (eqV_stays _), .inl (eqV_stays _), .inr (.inr (.inr (by kernel_rfl))), .inl (eqV_stays _), .inl (eqV_stays _), .inl (eqV_stays _), .inl (eqV_stays _), .inl (eqV_stays _), .inr (.inr (.inl rfl)), trivial⟩, trivial⟩ ⟨fun _ _ p b => p.trans (b.mono p.size), fun _ _ p b => p.trans (b.mono p.size), fun _ _ p b => p.trans (b.mono p.size), fun _ _ p b => p.trans (b.mono p.size), fun _ _ p b => p.trans (b.mono p.size), fun _ _ p b => p.trans (b.mono p.size), fun _ _ p b => p.trans (b.mono p.size), fun _ _ p b => p.trans (b.mono p.size), fun _ _ p b => p.trans (b.mono p.size), fun _ _ p b => p.trans (b.mono p.size), fun _ _ p b => p.trans (b.mono p.size), fun _ _ p b => p.trans (b.mono p.size), fun _ _ p b => p.trans (b.mono p.size), fun _ _ p b => p.trans (b.mono p.size), fun _ _ p b => boxed_below p b p.lt, fun _ _ p b => ⟨(b.block D (Array.getElem?_eq_some_iff.1 p.1).1).trans p.1, p.2.1.trans (b.mono p.2.1.size), Nat.le_trans p.2.2 b.size⟩, trivial⟩ ⟨⟨.inr (.inl (by kernel_rfl)), .inr (.inl (by kernel_rfl)), .inr (.inl (by kernel_rfl)), .inr (.inl (by kernel_rfl)), .inr (.inl (by kernel_rfl)), .inr (.inl (by kernel_rfl)), .inr (.inl (by kernel_rfl)), .inr (.inl (by kernel_rfl)), .inr (.inl (by kernel_rfl)), .inr (.inl (by kernel_rfl)), .inr (.inl (by kernel_rfl)), .inr (.inl (by kernel_rfl)), .inr (.inl (by kernel_rfl)), .inr (.inl (by kernel_rfl)), .inr (.inr rfl), .inl (fun _ _ p g => ⟨(g.block D (Array.getElem?_eq_some_iff.1 p.1).1 (fun e => by injection e with e; have := HDb.out; omega)).trans p.1, Below.grown p.2.1 g p.2.1.size (fun k e => by injection e with e; have := HRB.out; omega), Nat.le_trans p.2.2 g.size⟩), trivial⟩, trivial⟩ ⟨(Below.refl W.heap.size W).drew, (Below.refl W.heap.size W).drew, (Below.refl W.heap.size W).drew, (Below.refl W.heap.size W).drew, (Below.refl W.heap.size W).drew, (Below.refl W.heap.size W).drew, (Below.refl W.heap.size W).drew, (Below.refl W.heap.size W).drew, (Below.refl W.heap.size W).drew, (Below.refl W.heap.size W).drew, (Below.refl W.heap.size W).drew, (Below.refl W.heap.size W).drew, (Below.refl W.heap.size W).drew, (Below.refl W.heap.size W).drew, KR.out, ⟨HKD.out.1, HKD.out.2.1.drew, HKD.out.2.2⟩, trivial⟩ 132 rfl (by kernel_rfl) (by kernel_rfl) rfl rfl 30 rfl ?q1obl ?q1fin
    case q1obl =>
      refine And.intro ?q1o0 (And.intro ?q1o1 (And.intro ?q1o2 (And.intro ?q1o3 (And.intro ?q1o4 (And.intro ?q1o5 (And.intro ?q1o6 (And.intro ?q1o7 (And.intro ?q1o8 (And.intro ?q1o9 (And.intro ?q1o10 (And.intro ?q1o11 (And.intro ?q1o12 (And.intro ?q1o13 (And.intro ?q1o14 (And.intro ?q1o15 (And.intro ?q1o16 (And.intro ?q1o17 (And.intro ?q1o18 (And.intro ?q1o19 (And.intro ?q1o20 (And.intro ?q1o21 (And.intro ?q1o22 (And.intro ?q1o23 (And.intro ?q1o24 (And.intro ?q1o25 (And.intro ?q1o26 (And.intro ?q1o27 (And.intro ?q1o28 (And.intro ?q1o29 (True.intro))))))))))))))))))))))))))))))
      case q1o0 =>
        intro w1 hI
        replace hI : (fun z => Below W.heap.size W z) w1 := hI
        refine turn2_on (by rfl) ?_
        intro K hK
        have ld9 := (boxed_below K9.out hI K9.out.lt).cell
        have ld5 := (boxed_below K5.out hI K5.out.lt).cell
        have ld7 := (boxed_below K7.out hI K7.out.lt).cell
        go_simp
        refine hK _ _ ⟨rfl, Kept.refl _, ?_⟩
        show _ = _
        simp only [List.getD_cons_zero, List.getD_cons_succ, Array.getD_eq_getD_getElem?, List.getElem?_toArray, List.getElem?_cons_zero, List.getElem?_cons_succ, Option.getD_some]
        rfl
      case q1o1 =>
        intro w1 hI
        replace hI : (fun z => Below W.heap.size W z) w1 := hI
        refine turn2_on (by rfl) ?_
        intro K hK
        have ld9 := (boxed_below K9.out hI K9.out.lt).cell
        have ld5 := (boxed_below K5.out hI K5.out.lt).cell
        have ld7 := (boxed_below K7.out hI K7.out.lt).cell
        go_simp
        refine hK _ _ ⟨rfl, Kept.refl _, ?_⟩
        show _ = _
        simp only [List.getD_cons_zero, List.getD_cons_succ, Array.getD_eq_getD_getElem?, List.getElem?_toArray, List.getElem?_cons_zero, List.getElem?_cons_succ, Option.getD_some]
        rfl
      case q1o2 =>
        intro w1 hI
        refine turn2_on (by rfl) ?_
        intro K hK
        go_simp
        refine hK _ _ ⟨rfl, Kept.refl _, ?_⟩
        show _ = _
        simp only [List.getD_cons_zero, List.getD_cons_succ, Array.getD_eq_getD_getElem?, List.getElem?_toArray, List.getElem?_cons_zero, List.getElem?_cons_succ, Option.getD_some]
        rfl
      case q1o3 =>
        intro w1 hI
        intro v1 h1
        change _ = _ at h1
        subst v1
        intro v2 h2
        change _ = _ at h2
        subst v2
        refine turn2_on (by rfl) ?_
        intro K hK
        simp only [List.getD_cons_zero, List.getD_cons_succ, List.setIfInBounds_toArray, List.set_cons_zero, List.set_cons_succ]
        go_simp
        refine hK _ _ ⟨rfl, Kept.refl _, ?_⟩
        show _ = _
        simp only [List.getD_cons_zero, List.getD_cons_succ, Array.getD_eq_getD_getElem?, List.getElem?_toArray, List.getElem?_cons_zero, List.getElem?_cons_succ, Option.getD_some]
        rfl
      case q1o4 =>
        intro w1 hI
        intro v0 h0
        change _ = _ at h0
        subst v0
        intro v3 h3
        change _ = _ at h3
        subst v3
        refine turn2_on (by rfl) ?_
        intro K hK
        simp only [List.getD_cons_zero, List.getD_cons_succ, List.setIfInBounds_toArray, List.set_cons_zero, List.set_cons_succ]
        go_simp
        refine hK _ _ ⟨rfl, Kept.refl _, ?_⟩
        show _ = _
        simp only [List.getD_cons_zero, List.getD_cons_succ, Array.getD_eq_getD_getElem?, List.getElem?_toArray, List.getElem?_cons_zero, List.getElem?_cons_succ, Option.getD_some]
        rfl
      case q1o5 =>
        intro w1 hI
        intro v4 h4
        change _ = _ at h4
        subst v4
        refine turn2_on (by rfl) ?_
        intro K hK
        simp only [List.getD_cons_zero, List.getD_cons_succ, List.setIfInBounds_toArray, List.set_cons_zero, List.set_cons_succ]
        go_simp
        refine hK _ _ ⟨rfl, Kept.refl _, ?_⟩
        show _ = _
        simp only [List.getD_cons_zero, List.getD_cons_succ, Array.getD_eq_getD_getElem?, List.getElem?_toArray, List.getElem?_cons_zero, List.getElem?_cons_succ, Option.getD_some]
        rfl
      case q1o6 =>
        intro w1 hI
        replace hI : (fun z => Below W.heap.size W z) w1 := hI
        intro v5 h5
        change _ = _ at h5
        subst v5
        refine turn2_on (by rfl) ?_
        intro K hK
        simp only [List.getD_cons_zero, List.getD_cons_succ, List.setIfInBounds_toArray, List.set_cons_zero, List.set_cons_succ]
        have ld9 := (boxed_below K9.out hI K9.out.lt).cell
        have ld5 := (boxed_below K5.out hI K5.out.lt).cell
        have ld7 := (boxed_below K7.out hI K7.out.lt).cell
        go_simp
        refine hK _ _ ⟨rfl, Kept.refl _, ?_⟩
        show _ = _
        simp only [List.getD_cons_zero, List.getD_cons_succ, Array.getD_eq_getD_getElem?, List.getElem?_toArray, List.getElem?_cons_zero, List.getElem?_cons_succ, Option.getD_some]
        rfl
      case q1o7 =>
        intro w1 hI
        intro v5 h5
        change _ = _ at h5
        subst v5
        refine turn2_on (by rfl) ?_
        intro K hK
        simp only [List.getD_cons_zero, List.getD_cons_succ, List.setIfInBounds_toArray, List.set_cons_zero, List.set_cons_succ]
        go_simp
        refine hK _ _ ⟨rfl, Kept.refl _, ?_⟩
        show _ = _
        simp only [List.getD_cons_zero, List.getD_cons_succ, Array.getD_eq_getD_getElem?, List.getElem?_toArray, List.getElem?_cons_zero, List.getElem?_cons_succ, Option.getD_some]
        rfl
      case q1o8 =>
        intro w1 hI
        replace hI : (fun z => Below W.heap.size W z) w1 := hI
        intro v5 h5
        change _ = _ at h5
        subst v5
        refine turn2_on (by rfl) ?_
        intro K hK
        simp only [List.getD_cons_zero, List.getD_cons_succ, List.setIfInBounds_toArray, List.set_cons_zero, List.set_cons_succ]
        have ld9 := (boxed_below K9.out hI K9.out.lt).cell
        have ld5 := (boxed_below K5.out hI K5.out.lt).cell
        have ld7 := (boxed_below K7.out hI K7.out.lt).cell
        go_simp
        refine hK _ _ ⟨rfl, Kept.refl _, ?_⟩
        show _ = _
        simp only [List.getD_cons_zero, List.getD_cons_succ, Array.getD_eq_getD_getElem?, List.getElem?_toArray, List.getElem?_cons_zero, List.getElem?_cons_succ, Option.getD_some]
        rfl
      case q1o9 =>
        intro w1 hI
        replace hI : (fun z => Below W.heap.size W z) w1 := hI
        intro v5 h5
        change _ = _ at h5
        subst v5
        intro v6 h6
        change _ = _ at h6
        subst v6
        intro v7 h7
        change _ = _ at h7
        subst v7
        intro v8 h8
        change _ = _ at h8
        subst v8
        refine turn2_on (by rfl) ?_
        intro K hK
        simp only [List.getD_cons_zero, List.getD_cons_succ, List.setIfInBounds_toArray, List.set_cons_zero, List.set_cons_succ]
        go_simp
        refine Calls.mono (HALL.out w1 hI) ?_
        rintro e w9 ⟨rfl, hb9⟩
        refine hK _ _ ⟨rfl, hb9, ?_⟩
        show _ = _
        simp only [List.getD_cons_zero, List.getD_cons_succ, Array.getD_eq_getD_getElem?, List.getElem?_toArray, List.getElem?_cons_zero, List.getElem?_cons_succ, Option.getD_some]
        rfl
      case q1o10 =>
        intro w1 hI
        replace hI : (fun z => Below W.heap.size W z) w1 := hI
        intro v5 h5
        change _ = _ at h5
        subst v5
        refine turn2_on (by rfl) ?_
        intro K hK
        simp only [List.getD_cons_zero, List.getD_cons_succ, List.setIfInBounds_toArray, List.set_cons_zero, List.set_cons_succ]
        have ld9 := (boxed_below K9.out hI K9.out.lt).cell
        have ld5 := (boxed_below K5.out hI K5.out.lt).cell
        have ld7 := (boxed_below K7.out hI K7.out.lt).cell
        go_simp
        refine hK _ _ ⟨rfl, Kept.refl _, ?_⟩
        show _ = _
        simp only [List.getD_cons_zero, List.getD_cons_succ, Array.getD_eq_getD_getElem?, List.getElem?_toArray, List.getElem?_cons_zero, List.getElem?_cons_succ, Option.getD_some]
        rfl
      case q1o11 =>
        intro w1 hI
        replace hI : (fun z => Below W.heap.size W z) w1 := hI
        intro v5 h5
        change _ = _ at h5
        subst v5
        refine turn2_on (by rfl) ?_
        intro K hK
        simp only [List.getD_cons_zero, List.getD_cons_succ, List.setIfInBounds_toArray, List.set_cons_zero, List.set_cons_succ]
        have ld9 := (boxed_below K9.out hI K9.out.lt).cell
        have ld5 := (boxed_below K5.out hI K5.out.lt).cell
        have ld7 := (boxed_below K7.out hI K7.out.lt).cell
        go_simp
        refine hK _ _ ⟨rfl, Kept.refl _, ?_⟩
        show _ = _
        simp only [List.getD_cons_zero, List.getD_cons_succ, Array.getD_eq_getD_getElem?, List.getElem?_toArray, List.getElem?_cons_zero, List.getElem?_cons_succ, Option.getD_some]
        rfl
      case q1o12 =>
        intro w1 hI
        intro v5 h5
        change _ = _ at h5
        subst v5
        refine turn2_on (by rfl) ?_
        intro K hK
        simp only [List.getD_cons_zero, List.getD_cons_succ, List.setIfInBounds_toArray, List.set_cons_zero, List.set_cons_succ]
        go_simp
        refine hK _ _ ⟨rfl, Kept.refl _, ?_⟩
        show _ = _
        simp only [List.getD_cons_zero, List.getD_cons_succ, Array.getD_eq_getD_getElem?, List.getElem?_toArray, List.getElem?_cons_zero, List.getElem?_cons_succ, Option.getD_some]
        rfl
      case q1o13 =>
        intro w1 hI
        intro v5 h5
        change _ = _ at h5
        subst v5
        intro v11 h11
        change _ = _ at h11
        subst v11
        intro v12 h12
        change _ = _ at h12
        subst v12
        refine turn2_on (by rfl) ?_
        intro K hK
        simp only [List.getD_cons_zero, List.getD_cons_succ, List.setIfInBounds_toArray, List.set_cons_zero, List.set_cons_succ]
        go_simp
        refine hK _ _ ⟨rfl, Kept.refl _, ?_⟩
        show _ = _
        simp only [List.getD_cons_zero, List.getD_cons_succ, Array.getD_eq_getD_getElem?, List.getElem?_toArray, List.getElem?_cons_zero, List.getElem?_cons_succ, Option.getD_some]
        rfl
      case q1o14 =>
        intro w1 hI
        intro v5 h5
        change _ = _ at h5
        subst v5
        intro v10 h10
        change _ = _ at h10
        subst v10
        intro v13 h13
        change _ = _ at h13
        subst v13
        refine turn2_on (by rfl) ?_
        intro K hK
        simp only [List.getD_cons_zero, List.getD_cons_succ, List.setIfInBounds_toArray, List.set_cons_zero, List.set_cons_succ]
        go_simp
        refine hK _ _ ⟨rfl, Kept.refl _, ?_⟩
        show _ = _
        simp only [List.getD_cons_zero, List.getD_cons_succ, Array.getD_eq_getD_getElem?, List.getElem?_toArray, List.getElem?_cons_zero, List.getElem?_cons_succ, Option.getD_some]
        rfl
      case q1o15 =>
        intro w1 hI
        intro v5 h5
        change _ = _ at h5
        subst v5
        intro v9 h9
        change _ = _ at h9
        subst v9
        intro v14 h14
        change _ = _ at h14
        subst v14
        refine turn2_on (by rfl) ?_
        intro K hK
        simp only [List.getD_cons_zero, List.getD_cons_succ, List.setIfInBounds_toArray, List.set_cons_zero, List.set_cons_succ]
        go_simp
        refine hK _ _ ⟨rfl, Kept.refl _, ?_⟩
        show _ = _
        simp only [List.getD_cons_zero, List.getD_cons_succ, Array.getD_eq_getD_getElem?, List.getElem?_toArray, List.getElem?_cons_zero, List.getElem?_cons_succ, Option.getD_some]
        rfl
      case q1o16 =>
        intro w1 hI
        intro v5 h5
        change _ = _ at h5
        subst v5
        intro v15 h15
        change _ = _ at h15
        subst v15
        refine turn2_on (by rfl) ?_
        intro K hK
        simp only [List.getD_cons_zero, List.getD_cons_succ, List.setIfInBounds_toArray, List.set_cons_zero, List.set_cons_succ]
        go_simp
        refine hK _ _ ⟨rfl, Kept.refl _, ?_⟩
        show _ = _
        simp only [List.getD_cons_zero, List.getD_cons_succ, Array.getD_eq_getD_getElem?, List.getElem?_toArray, List.getElem?_cons_zero, List.getElem?_cons_succ, Option.getD_some]
        rfl
      case q1o17 =>
        intro w1 hI
        intro v16 h16
        change _ = _ at h16
        subst v16
        refine turn2_on (by rfl) ?_
        intro K hK
        simp only [List.getD_cons_zero, List.getD_cons_succ, List.setIfInBounds_toArray, List.set_cons_zero, List.set_cons_succ]
        go_simp
        refine hK _ _ ⟨rfl, Kept.refl _, ?_⟩
        show _ = _
        simp only [List.getD_cons_zero, List.getD_cons_succ, Array.getD_eq_getD_getElem?, List.getElem?_toArray, List.getElem?_cons_zero, List.getElem?_cons_succ, Option.getD_some]
        rfl
      case q1o18 =>
        intro w1 hI
        replace hI : (fun z => Below W.heap.size W z) w1 := hI
        intro v17 h17
        change _ = _ at h17
        subst v17
        refine turn2_on (by rfl) ?_
        intro K hK
        simp only [List.getD_cons_zero, List.getD_cons_succ, List.setIfInBounds_toArray, List.set_cons_zero, List.set_cons_succ]
        have ld9 := (boxed_below K9.out hI K9.out.lt).cell
        have ld5 := (boxed_below K5.out hI K5.out.lt).cell
        have ld7 := (boxed_below K7.out hI K7.out.lt).cell
        go_simp
        refine hK _ _ ⟨rfl, Kept.refl _, ?_⟩
        show _ = _
        simp only [List.getD_cons_zero, List.getD_cons_succ, Array.getD_eq_getD_getElem?, List.getElem?_toArray, List.getElem?_cons_zero, List.getElem?_cons_succ, Option.getD_some]
        rfl
      case q1o19 =>
        intro w1 hI
        replace hI : (fun z => Below W.heap.size W z) w1 := hI
        intro v17 h17
        change _ = _ at h17
        subst v17
        intro v18 h18
        change _ = _ at h18
        subst v18
        refine turn2_on (by rfl) ?_
        intro K hK
        simp only [List.getD_cons_zero, List.getD_cons_succ, List.setIfInBounds_toArray, List.set_cons_zero, List.set_cons_succ]
        go_simp
        refine Calls.mono (HPC.out w1 hI) ?_
        rintro e w9 ⟨rfl, hb9⟩
        refine hK _ _ ⟨rfl, hb9, ?_⟩
        show _ = _
        simp only [List.getD_cons_zero, List.getD_cons_succ, Array.getD_eq_getD_getElem?, List.getElem?_toArray, List.getElem?_cons_zero, List.getElem?_cons_succ, Option.getD_some]
        rfl
      case q1o20 =>
        intro w1 hI
        replace hI : (fun z => Below W.heap.size W z) w1 := hI
        intro v17 h17
        change _ = _ at h17
        subst v17
        refine turn2_on (by rfl) ?_
        intro K hK
        simp only [List.getD_cons_zero, List.getD_cons_succ, List.setIfInBounds_toArray, List.set_cons_zero, List.set_cons_succ]
        have ld9 := (boxed_below K9.out hI K9.out.lt).cell
        have ld5 := (boxed_below K5.out hI K5.out.lt).cell
        have ld7 := (boxed_below K7.out hI K7.out.lt).cell
        go_simp
        refine hK _ _ ⟨rfl, Kept.refl _, ?_⟩
        show _ = _
        simp only [List.getD_cons_zero, List.getD_cons_succ, Array.getD_eq_getD_getElem?, List.getElem?_toArray, List.getElem?_cons_zero, List.getElem?_cons_succ, Option.getD_some]
        rfl
      case q1o21 =>
        intro w1 hI
        intro v17 h17
        change _ = _ at h17
        subst v17
        refine turn2_on (by rfl) ?_
        intro K hK
        simp only [List.getD_cons_zero, List.getD_cons_succ, List.setIfInBounds_toArray, List.set_cons_zero, List.set_cons_succ]
        go_simp
        refine hK _ _ ⟨rfl, Kept.refl _, ?_⟩
        show _ = _
        simp only [List.getD_cons_zero, List.getD_cons_succ, Array.getD_eq_getD_getElem?, List.getElem?_toArray, List.getElem?_cons_zero, List.getElem?_cons_succ, Option.getD_some]
        rfl
      case q1o22 =>
        intro w1 hI
        replace hI : (fun z => Below W.heap.size W z) w1 := hI
        intro v17 h17
        change _ = _ at h17
        subst v17
        refine turn2_on (by rfl) ?_
        intro K hK
        simp only [List.getD_cons_zero, List.getD_cons_succ, List.setIfInBounds_toArray, List.set_cons_zero, List.set_cons_succ]
        have ld9 := (boxed_below K9.out hI K9.out.lt).cell
        have ld5 := (boxed_below K5.out hI K5.out.lt).cell
        have ld7 := (boxed_below K7.out hI K7.out.lt).cell
        go_simp
        refine hK _ _ ⟨rfl, Kept.refl _, ?_⟩
        show _ = _
        simp only [List.getD_cons_zero, List.getD_cons_succ, Array.getD_eq_getD_getElem?, List.getElem?_toArray, List.getElem?_cons_zero, List.getElem?_cons_succ, Option.getD_some]
        rfl
      case q1o23 =>
        intro w1 hI
        replace hI : (fun z => Below W.heap.size W z) w1 := hI
        intro v17 h17
        change _ = _ at h17
        subst v17
        intro v20 h20
        change _ = _ at h20
        subst v20
        intro v21 h21
        change _ = _ at h21
        subst v21
        intro v22 h22
        change _ = _ at h22
        subst v22
        refine turn2_on (by rfl) ?_
        intro K hK
        simp only [List.getD_cons_zero, List.getD_cons_succ, List.setIfInBounds_toArray, List.set_cons_zero, List.set_cons_succ]
        go_simp
        refine Calls.mono (HUN.out w1 hI) ?_
        rintro e w9 ⟨v9, rfl, ho9, hb9⟩
        obtain ⟨m9, hm9⟩ : ∃ y, (unL C lo hi).length = y := ⟨_, rfl⟩
        obtain ⟨s9, c9, rfl⟩ := ho9.shapeN m9 hm9
        refine hK _ _ ⟨rfl, hb9, ?_⟩
        show ∃ s m c, _ = Value.slice s m c ∧ _
        simp only [List.getD_cons_zero, List.getD_cons_succ, Array.getD_eq_getD_getElem?, List.getElem?_toArray, List.getElem?_cons_zero, List.getElem?_cons_succ, Option.getD_some]
        exact ⟨_, _, _, rfl, by have := HUC.out.few; omega, ho9.rd rgC⟩
      case q1o24 =>
        intro w1 hI
        replace hI : (fun z => Below W.heap.size W z) w1 := hI
        intro v17 h17
        change _ = _ at h17
        subst v17
        intro v23 h23
        obtain ⟨s23, m23, c23, rfl, hm23, h23⟩ := h23
        refine turn2_on (by rfl) ?_
        intro K hK
        simp only [List.getD_cons_zero, List.getD_cons_succ, List.setIfInBounds_toArray, List.set_cons_zero, List.set_cons_succ]
        go_simp
        refine Calls.mono (pages_any s23 m23 c23 (unL C lo hi) w1 h23 HUC.out.sm (by omega)) ?_
        rw [HPU.out]
        rintro e w9 ⟨rfl, hb9⟩
        refine hK _ _ ⟨rfl, hb9, ?_⟩
        show _ = _
        simp only [List.getD_cons_zero, List.getD_cons_succ, Array.getD_eq_getD_getElem?, List.getElem?_toArray, List.getElem?_cons_zero, List.getElem?_cons_succ, Option.getD_some]
        rfl
      case q1o25 =>
        intro w1 hI
        intro v17 h17
        change _ = _ at h17
        subst v17
        intro v19 h19
        change _ = _ at h19
        subst v19
        intro v24 h24
        change _ = _ at h24
        subst v24
        refine turn2_on (by rfl) ?_
        intro K hK
        simp only [List.getD_cons_zero, List.getD_cons_succ, List.setIfInBounds_toArray, List.set_cons_zero, List.set_cons_succ]
        go_simp
        refine hK _ _ ⟨rfl, Kept.refl _, ?_⟩
        show _ = _
        simp only [List.getD_cons_zero, List.getD_cons_succ, Array.getD_eq_getD_getElem?, List.getElem?_toArray, List.getElem?_cons_zero, List.getElem?_cons_succ, Option.getD_some]
        rfl
      case q1o26 =>
        intro w1 hI
        replace hI : (fun z => Below W.heap.size W z) w1 := hI
        intro v17 h17
        change _ = _ at h17
        subst v17
        refine turn2_on (by rfl) ?_
        intro K hK
        simp only [List.getD_cons_zero, List.getD_cons_succ, List.setIfInBounds_toArray, List.set_cons_zero, List.set_cons_succ]
        have ld9 := (boxed_below K9.out hI K9.out.lt).cell
        have ld5 := (boxed_below K5.out hI K5.out.lt).cell
        have ld7 := (boxed_below K7.out hI K7.out.lt).cell
        go_simp
        refine hK _ _ ⟨rfl, Kept.refl _, ?_⟩
        show _ = _
        simp only [List.getD_cons_zero, List.getD_cons_succ, Array.getD_eq_getD_getElem?, List.getElem?_toArray, List.getElem?_cons_zero, List.getElem?_cons_succ, Option.getD_some]
        rfl
      case q1o27 =>
        intro w1 hI
        intro v17 h17
        change _ = _ at h17
        subst v17
        intro v25 h25
        change _ = _ at h25
        subst v25
        intro v26 h26
        change _ = _ at h26
        subst v26
        refine turn2_on (by rfl) ?_
        intro K hK
        simp only [List.getD_cons_zero, List.getD_cons_succ, List.setIfInBounds_toArray, List.set_cons_zero, List.set_cons_succ]
        go_simp
        refine hK _ _ ⟨rfl, Kept.refl _, ?_⟩
        show _ = _
        simp only [List.getD_cons_zero, List.getD_cons_succ, Array.getD_eq_getD_getElem?, List.getElem?_toArray, List.getElem?_cons_zero, List.getElem?_cons_succ, Option.getD_some]
        rfl
      case q1o28 =>
        intro w1 hI
        intro v17 h17
        change _ = _ at h17
        subst v17
        intro v27 h27
        change _ = _ at h27
        subst v27
        refine turn2_on (by rfl) ?_
        intro K hK
        simp only [List.getD_cons_zero, List.getD_cons_succ, List.setIfInBounds_toArray, List.set_cons_zero, List.set_cons_succ]
        go_simp
        refine hK _ _ ⟨rfl, Kept.refl _, ?_⟩
        show _ = _
        simp only [List.getD_cons_zero, List.getD_cons_succ, Array.getD_eq_getD_getElem?, List.getElem?_toArray, List.getElem?_cons_zero, List.getElem?_cons_succ, Option.getD_some]
        rfl
      case q1o29 =>
        intro w1 hI
        replace hI : (fun z => Boxed z (hb + 1) 4 (.bool false)) w1 := hI
        intro v28 h28
        change _ = _ at h28
        subst v28
        refine turn2_on (by rfl) ?_
        intro K hK
        simp only [List.getD_cons_zero, List.getD_cons_succ, List.setIfInBounds_toArray, List.set_cons_zero, List.set_cons_succ]
        have hcr := hI.cell
        have hfr := hI.frozen
        go_simp
        refine hK _ _ ⟨rfl, cell_grown1 _ _ _ _, ?_⟩
        show Boxed _ _ _ _
        exact hI.set _
    intro w9 hI
    replace hI : (fun z => z.heap[D]? = some (.deferred (some [])) ∧ Below w.heap.size w z ∧ W.heap.size ≤ z.heap.size) w9 := hI
    intro v0 h0
    replace h0 := h0 (by kernel_rfl)
    change _ = _ at h0
    subst v0
    intro v1 h1
    replace h1 := h1 (by kernel_rfl)
    change _ = _ at h1
    subst v1
    intro v2 h2
    replace h2 := h2 (by kernel_rfl)
    change _ = _ at h2
    subst v2
    intro v3 h3
    replace h3 := h3 (by kernel_rfl)
    change _ = _ at h3
    subst v3
    intro v4 h4
    replace h4 := h4 (by kernel_rfl)
    change _ = _ at h4
    subst v4
    intro v5 h5
    replace h5 := h5 (by kernel_rfl)
    change _ = _ at h5
    subst v5
    intro v6 h6
    replace h6 := h6 (by kernel_rfl)
    change _ = _ at h6
    subst v6
    intro v7 h7
    replace h7 := h7 (by kernel_rfl)
    change _ = _ at h7
    subst v7
    intro v8 h8
    replace h8 := h8 (by kernel_rfl)
    change _ = _ at h8
    subst v8
    intro v9 h9
    replace h9 := h9 (by kernel_rfl)
    change _ = _ at h9
    subst v9
    intro v10 h10
    replace h10 := h10 (by kernel_rfl)
    change _ = _ at h10
    subst v10
    intro v11 h11
    replace h11 := h11 (by kernel_rfl)
    change _ = _ at h11
    subst v11
    intro v12 h12
    replace h12 := h12 (by kernel_rfl)
    change _ = _ at h12
    subst v12
    intro v13 h13
    replace h13 := h13 (by kernel_rfl)
    change _ = _ at h13
    subst v13
    intro v14 h14
    replace h14 := h14 (by kernel_rfl)
    change _ = _ at h14
    subst v14
    intro v15 h15
    replace h15 := h15 (by kernel_rfl)
    change _ = _ at h15
    subst v15
    intro v16 h16
    replace h16 := h16 (by kernel_rfl)
    change _ = _ at h16
    subst v16
    intro v17 h17
    replace h17 := h17 (by kernel_rfl)
    change _ = _ at h17
    subst v17
    intro v18 h18
    replace h18 := h18 (by kernel_rfl)
    change _ = _ at h18
    subst v18
    intro v19 h19
    replace h19 := h19 (by kernel_rfl)
    change _ = _ at h19
    subst v19
    intro v20 h20
    replace h20 := h20 (by kernel_rfl)
    change _ = _ at h20
    subst v20
    intro v21 h21
    replace h21 := h21 (by kernel_rfl)
    change _ = _ at h21
    subst v21
    intro v22 h22
    replace h22 := h22 (by kernel_rfl)
    change _ = _ at h22
    subst v22
    intro v23 _
    intro v24 h24
    replace h24 := h24 (by kernel_rfl)
    change _ = _ at h24
    subst v24
    intro v25 h25
    replace h25 := h25 (by kernel_rfl)
    change _ = _ at h25
    subst v25
    intro v26 h26
    replace h26 := h26 (by kernel_rfl)
    change _ = _ at h26
    subst v26
    intro v27 h27
    replace h27 := h27 (by kernel_rfl)
    change _ = _ at h27
    subst v27
    intro v28 h28
    replace h28 := h28 (by kernel_rfl)
    change _ = _ at h28
    subst v28
    intro v29 h29
    replace h29 := h29 (by kernel_rfl)
    simp only [Given, List.getD_cons_zero, List.getD_cons_succ, List.setIfInBounds_toArray, List.set_cons_zero, List.set_cons_succ]
    have hD9 := hI.1
    have hbx : Boxed w9 (hb + 1) 4 (.bool true) := h29
    gi_wp2
    refine ⟨by simp, .inl ⟨_, _, rfl, run_takeDeferred hD9, ?_⟩⟩
    have hc5 := cell_kept hbx.cell (grownBy_putObj' _ D (.deferred none)) (fun r e => by cases e; exact ⟨_, hD9, rfl⟩)
    refine ⟨.bool true, ?_, rfl, hI.2.1.trans (belowK_b (w := w) (Nat.le_refl _) _ D _ _ hwsz.out hD9 rfl rfl)⟩
    simp [results, Try.f7, go_sem, hc5]
set_option linter.unusedSimpArgs false in
set_option linter.unusedVariables false in
set_option maxRecDepth 100000 in
set_option maxHeartbeats 4000000 in
theorem regionPieces_walk (a0 : Option Addr) (n c0 : Nat) (L : List Rg) (lo hi : Int) (w : World) (h : RdS Rg.cells 3 w a0 n c0 L) (hlo : (Lit.int .i64 lo).wf = true) (hhi : (Lit.int .i64 hi).wf = true) :
    Calls Try.prog 7 #[.slice a0 n c0, .int .i64 lo, .int .i64 hi] w fun e w' => e = .returned (.bool true) ∧ Below w.heap.size w w' := by
  by_cases h1 : 60 < n
  · exact pcs_over0 a0 n c0 lo hi w h1
  by_cases h2 : lo < 0
  · exact pcs_over1 a0 n c0 lo hi w h1 h2
  by_cases h3 : hi < lo
  · exact pcs_over2 a0 n c0 lo hi w h1 h2 h3
  by_cases h4 : 1073741824 < hi
  · exact pcs_over3 a0 n c0 lo hi w h1 h2 h3 h4
  exact pcs_in a0 n c0 L lo hi w h (by omega) (by omega) (by omega) (by omega)
end Go.Proofs.Ytoampbdipmecmaa
