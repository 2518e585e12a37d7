/- The walk of almanaclaw15.RegionUndoes. -/
import Derived.Test.YtoampbdipmecmaaRgUndo
import Derived.IntWalk
namespace Go.Proofs.Ytoampbdipmecmaa
open Go.RowKit Go.Shelf Go.Proofs
attribute [local go_sem] Oper.semAt_some
set_option linter.unusedSimpArgs false in
set_option linter.unusedVariables false in
set_option maxRecDepth 100000 in
set_option maxHeartbeats 4000000 in
theorem undoes_over (a0 : Option Addr) (n c0 : Nat) (lo hi p : Int) (w : World) (h : decide ((60 : Int) < (n : Int)) = true ∨ (decide ((60 : Int) < (n : Int)) = false ∧ decide ((1073741824 : Int) < hi) = true)) :
    Calls Try.prog 4 #[.slice a0 n c0, .int .i64 lo, .int .i64 hi, .int .i64 p] w fun e w' => e = .returned (.bool true) ∧ Below w.heap.size w w' := by
  have hba := below_a w (.cells #[.bool false] 4)
  have hrow := Boxed.new w 4 (.bool false)
  obtain ⟨wa, hwa⟩ : ∃ wa, w.alloc (.cells #[.bool false] 4) = wa := ⟨_, rfl⟩
  obtain ⟨rb, hrb⟩ : ∃ rb, w.heap.size = rb := ⟨_, rfl⟩
  have hlt : rb < wa.heap.size := by rw [← hwa, ← hrb]; simp
  rw [hwa] at hba hrow
  rw [hrb] at hrow
  have BA := Lib.hid hba
  have RA := Lib.hid hrow
  have HLT := Lib.hid hlt
  have HWA := Lib.hid hwa
  have HRB := Lib.hid hrb
  clear hba hrow hwa hrb hlt
  rcases h with dn | ⟨dn, dh⟩
  · go_enter Try.func4, Try.ntmps4
    go_wp2_with (first | (rw [HWA.out, HRB.out]) | fail)
    refine (known_any wa).mono ?_
    rintro e w1 ⟨rfl, hb1⟩
    have hrw := boxed_below RA.out hb1 HLT.out
    have hc := hrw.cell
    have hf := hrw.frozen
    go_wp2
    have hx := hrw.set (.bool true)
    refine bodyPost_ret (v := .bool true) (by simp [results, Try.results4, go_sem, hx.cell]) rfl ?_
    refine ⟨rfl, ?_⟩
    have hbf := Below.call BA.out hb1
    exact hbf.setCell (p := ⟨rb, 0, none⟩) (by show w.heap.size ≤ rb; rw [HRB.out]; exact Nat.le_refl _) _
  · go_enter Try.func4, Try.ntmps4
    go_wp2_with (first | (rw [HWA.out, HRB.out]) | fail)
    refine (known_any wa).mono ?_
    rintro e w1 ⟨rfl, hb1⟩
    have hrw := boxed_below RA.out hb1 HLT.out
    have hc := hrw.cell
    have hf := hrw.frozen
    go_wp2
    have hx := hrw.set (.bool true)
    refine bodyPost_ret (v := .bool true) (by simp [results, Try.results4, go_sem, hx.cell]) rfl ?_
    refine ⟨rfl, ?_⟩
    have hbf := Below.call BA.out hb1
    exact hbf.setCell (p := ⟨rb, 0, none⟩) (by show w.heap.size ≤ rb; rw [HRB.out]; exact Nat.le_refl _) _
set_option linter.unusedSimpArgs false in
set_option linter.unusedVariables false in
set_option maxRecDepth 100000 in
set_option maxHeartbeats 4000000 in
theorem undoes_no (a0 : Option Addr) (n c0 : Nat) (L : List Rg) (lo hi p : Int) (w : World) (h : RdS Rg.cells 3 w a0 n c0 L) (hn : n ≤ 60) (hh : hi ≤ 1073741824) (h0 : ¬ mapE (cleanL L) lo hi p = 0 ∧ ¬ proE (cleanL L) lo hi p = 0) :
    Calls Try.prog 4 #[.slice a0 n c0, .int .i64 lo, .int .i64 hi, .int .i64 p] w fun e w' => e = .returned (.bool true) ∧ Below w.heap.size w w' := by
  have H := Lib.hid h
  have HH : Hid (hi ≤ 1099511627776) := by show _ ≤ _; omega
  have hl := h.len
  have HC := Lib.hid (clean_cn (L := L) (n := 60) (by omega))
  obtain ⟨C, hC⟩ : ∃ C, cleanL L = C := ⟨_, rfl⟩
  rw [hC] at HC
  have HEQ := Lib.hid hC
  rw [hC] at h0
  obtain ⟨q, hq⟩ : ∃ q, C.length = q := ⟨_, rfl⟩
  have hq1 : q ≤ 120 := by have := HC.out.few; omega
  have HQ := Lib.hid hq
  have dn : decide ((60 : Int) < (n : Int)) = false := decide_eq_false (by omega)
  have dh : decide ((1073741824 : Int) < hi) = false := decide_eq_false (by omega)
  have HN : Hid (n ≤ 60) := hn
  have H0 := Lib.hid h0
  have hba := below_a w (.cells #[.bool false] 4)
  have hrow := Boxed.new w 4 (.bool false)
  obtain ⟨wa, hwa⟩ : ∃ wa, w.alloc (.cells #[.bool false] 4) = wa := ⟨_, rfl⟩
  obtain ⟨rb, hrb⟩ : ∃ rb, w.heap.size = rb := ⟨_, rfl⟩
  have hlt : rb < wa.heap.size := by rw [← hwa, ← hrb]; simp
  rw [hwa] at hba hrow
  rw [hrb] at hrow
  have BA := Lib.hid hba
  have RA := Lib.hid hrow
  have HLT := Lib.hid hlt
  have HWA := Lib.hid hwa
  have HRB := Lib.hid hrb
  clear h hl hC hq h0 hba hrow hwa hrb hlt
  go_enter Try.func4, Try.ntmps4
  have S0 : Hid (Below wa.heap.size wa wa) := Below.refl _ _
  go_wp2_with (first | (rw [HWA.out, HRB.out]) | fail)
  refine (known_any wa).mono ?_
  rintro e w1 ⟨rfl, hb1⟩
  have S1 : Hid (Below wa.heap.size wa w1) := Below.call S0.out hb1
  clear hb1
  go_wp2_with fail
  refine (clean_any a0 n c0 L w1 ((H.out.below BA.out).below S1.out) (Nat.le_trans HN.out (by omega))).mono ?_
  rintro e w2 ⟨v2, rfl, ho2, hb2⟩
  have S2 : Hid (Below wa.heap.size wa w2) := Below.call S1.out hb2
  rw [HEQ.out] at ho2
  obtain ⟨ac, cc, rfl⟩ := ho2.shapeN q HQ.out
  have RC : Hid (∀ z, Below w2.heap.size w2 z → RdS Rg.cells 3 z ac q cc C) := fun z hb => (ho2.below hb).rd rgC
  have T2 : Hid (Below w2.heap.size w2 w2) := Below.refl _ _
  clear ho2
  clear hb2
  go_wp2_with fail
  refine (map_out ac q cc C lo hi p w2 (RC.out _ T2.out) HC.out (by omega) HH.out).mono ?_
  rintro e w3 ⟨v3, rfl, ho3, hb3⟩
  have S3 : Hid (Below wa.heap.size wa w3) := Below.call S2.out hb3
  replace T2 : Hid (Below w2.heap.size w2 w3) := Below.call T2.out hb3
  have hne := H0.out.1
  obtain ⟨E1, hE1⟩ : ∃ E, mapE C lo hi p = E := ⟨_, rfl⟩
  rw [hE1] at hne ⊢
  have d1 : (E1 == 0) = false := by simpa using hne
  clear hE1 hne
  clear hb3
  go_wp2_with fail
  refine (pro_out ac q cc C lo hi p w3 (RC.out _ T2.out) HC.out (by omega) HH.out).mono ?_
  rintro e w4 ⟨v4, rfl, ho4, hb4⟩
  have S4 : Hid (Below wa.heap.size wa w4) := Below.call S3.out hb4
  have hne := H0.out.2
  obtain ⟨E2, hE2⟩ : ∃ E, proE C lo hi p = E := ⟨_, rfl⟩
  rw [hE2] at hne ⊢
  have d2 : (E2 != 0) = true := by simpa using hne
  obtain ⟨nv, hnv⟩ : ∃ x, (proL C lo hi p).length = x := ⟨_, rfl⟩
  obtain ⟨av, cv, rfl⟩ := ho4.shapeN nv hnv
  clear hE2 hne ho4 hnv
  clear hb4
  have hrw0 := boxed_below RA.out S4.out HLT.out
  have hal := below_a2 w4 (.cells #[.slice av nv cv] 22) (.cells #[.int .i64 E2] 25)
  have hb1 := (Boxed.new w4 22 (.slice av nv cv)).alloc (.cells #[.int .i64 E2] 25)
  have hb2 := Boxed.new (w4.alloc (.cells #[.slice av nv cv] 22)) 25 (.int .i64 E2)
  rw [World.size_alloc] at hb2
  have hrw := boxed_below hrw0 hal hrw0.lt
  have hc := hrw.cell
  have hf := hrw.frozen
  have hc2 := hb2.cell
  go_wp2
  have hx := hrw.set (.bool true)
  refine bodyPost_ret (v := .bool true) (by simp [results, Try.results4, go_sem, hx.cell]) rfl ?_
  refine ⟨rfl, ?_⟩
  have hbf := Below.call (Below.call BA.out S4.out) hal
  exact hbf.setCell (p := ⟨rb, 0, none⟩) (by show w.heap.size ≤ rb; rw [HRB.out]; exact Nat.le_refl _) _
set_option linter.unusedSimpArgs false in
set_option linter.unusedVariables false in
set_option maxRecDepth 100000 in
set_option maxHeartbeats 4000000 in
theorem undoes_map (a0 : Option Addr) (n c0 : Nat) (L : List Rg) (lo hi p : Int) (w : World) (h : RdS Rg.cells 3 w a0 n c0 L) (hn : n ≤ 60) (hh : hi ≤ 1073741824) (h0 : mapE (cleanL L) lo hi p = 0) :
    Calls Try.prog 4 #[.slice a0 n c0, .int .i64 lo, .int .i64 hi, .int .i64 p] w fun e w' => e = .returned (.bool true) ∧ Below w.heap.size w w' := by
  have H := Lib.hid h
  have HH : Hid (hi ≤ 1099511627776) := by show _ ≤ _; omega
  have hl := h.len
  have HC := Lib.hid (clean_cn (L := L) (n := 60) (by omega))
  obtain ⟨C, hC⟩ : ∃ C, cleanL L = C := ⟨_, rfl⟩
  rw [hC] at HC
  have HEQ := Lib.hid hC
  rw [hC] at h0
  obtain ⟨q, hq⟩ : ∃ q, C.length = q := ⟨_, rfl⟩
  have hq1 : q ≤ 120 := by have := HC.out.few; omega
  have HQ := Lib.hid hq
  have dn : decide ((60 : Int) < (n : Int)) = false := decide_eq_false (by omega)
  have dh : decide ((1073741824 : Int) < hi) = false := decide_eq_false (by omega)
  have HN : Hid (n ≤ 60) := hn
  have H0 := Lib.hid h0
  have hba := below_a w (.cells #[.bool false] 4)
  have hrow := Boxed.new w 4 (.bool false)
  obtain ⟨wa, hwa⟩ : ∃ wa, w.alloc (.cells #[.bool false] 4) = wa := ⟨_, rfl⟩
  obtain ⟨rb, hrb⟩ : ∃ rb, w.heap.size = rb := ⟨_, rfl⟩
  have hlt : rb < wa.heap.size := by rw [← hwa, ← hrb]; simp
  rw [hwa] at hba hrow
  rw [hrb] at hrow
  have BA := Lib.hid hba
  have RA := Lib.hid hrow
  have HLT := Lib.hid hlt
  have HWA := Lib.hid hwa
  have HRB := Lib.hid hrb
  clear h hl hC hq h0 hba hrow hwa hrb hlt
  go_enter Try.func4, Try.ntmps4
  have S0 : Hid (Below wa.heap.size wa wa) := Below.refl _ _
  go_wp2_with (first | (rw [HWA.out, HRB.out]) | fail)
  refine (known_any wa).mono ?_
  rintro e w1 ⟨rfl, hb1⟩
  have S1 : Hid (Below wa.heap.size wa w1) := Below.call S0.out hb1
  clear hb1
  go_wp2_with fail
  refine (clean_any a0 n c0 L w1 ((H.out.below BA.out).below S1.out) (Nat.le_trans HN.out (by omega))).mono ?_
  rintro e w2 ⟨v2, rfl, ho2, hb2⟩
  have S2 : Hid (Below wa.heap.size wa w2) := Below.call S1.out hb2
  rw [HEQ.out] at ho2
  obtain ⟨ac, cc, rfl⟩ := ho2.shapeN q HQ.out
  have RC : Hid (∀ z, Below w2.heap.size w2 z → RdS Rg.cells 3 z ac q cc C) := fun z hb => (ho2.below hb).rd rgC
  have T2 : Hid (Below w2.heap.size w2 w2) := Below.refl _ _
  clear ho2
  clear hb2
  go_wp2_with fail
  refine (map_out ac q cc C lo hi p w2 (RC.out _ T2.out) HC.out (by omega) HH.out).mono ?_
  rintro e w3 ⟨v3, rfl, ho3, hb3⟩
  have S3 : Hid (Below wa.heap.size wa w3) := Below.call S2.out hb3
  have T3 : Hid (Below w2.heap.size w2 w3) := Below.call T2.out hb3
  rw [H0.out]
  have hM := map_ok H0.out
  rw [hM.2.2] at ho3
  have HA := Lib.hid (protect_cn (p := p) HC.out hM.1.1 hM.1.2.1 HH.out hM.1.2.2)
  have E1 := Lib.hid (un_map HC.out HH.out H0.out)
  have E2 := Lib.hid (map_pages HC.out H0.out)
  have E3 := Lib.hid (map_all HC.out HH.out H0.out)
  have E4 := Lib.hid (map_pro HC.out HH.out H0.out)
  obtain ⟨r1, r2, r3, r4⟩ := hM.1
  obtain ⟨A, hA⟩ : ∃ A, withL C lo hi p = A := ⟨_, rfl⟩
  rw [hA] at ho3 HA E1 E2 E3 E4
  obtain ⟨na, hna⟩ : ∃ x, A.length = x := ⟨_, rfl⟩
  obtain ⟨aa, ca, rfl⟩ := ho3.shapeN na hna
  have hnb : na ≤ 122 := by have := HA.out.few; omega
  have RA2 : Hid (∀ z, Below w3.heap.size w3 z → RdS Rg.cells 3 z aa na ca A) := fun z hb => (ho3.below hb).rd rgC
  have U3 : Hid (Below w3.heap.size w3 w3) := Below.refl _ _
  have HNA := Lib.hid hna
  clear ho3 hM hA hna
  clear hb3
  go_wp2_with fail
  refine (un_out aa na ca A lo hi w3 (RA2.out _ U3.out) HA.out (by omega)).mono ?_
  rintro e w4 ⟨v4, rfl, ho4, hb4⟩
  have S4 : Hid (Below wa.heap.size wa w4) := Below.call S3.out hb4
  have T4 : Hid (Below w2.heap.size w2 w4) := Below.call T3.out hb4
  have U4 : Hid (Below w3.heap.size w3 w4) := Below.call U3.out hb4
  rw [E1.out] at ho4
  obtain ⟨ax, cx, rfl⟩ := ho4.shapeN q HQ.out
  have OX := Lib.hid ho4
  clear ho4
  clear hb4
  go_wp2_with fail
  refine (same_yes ax ac q cx cc C w4 (OX.out.rd rgC) (RC.out _ T4.out) (by omega)).mono ?_
  rintro e w5 ⟨rfl, hb5⟩
  have S5 : Hid (Below wa.heap.size wa w5) := Below.call S4.out hb5
  have T5 : Hid (Below w2.heap.size w2 w5) := Below.call T4.out hb5
  have U5 : Hid (Below w3.heap.size w3 w5) := Below.call U4.out hb5
  clear hb5
  go_wp2_with fail
  refine (pages_any aa na ca A w5 (RA2.out _ U5.out) HA.out.sm (by omega)).mono ?_
  rintro e w6 ⟨rfl, hb6⟩
  have S6 : Hid (Below wa.heap.size wa w6) := Below.call S5.out hb6
  have T6 : Hid (Below w2.heap.size w2 w6) := Below.call T5.out hb6
  have U6 : Hid (Below w3.heap.size w3 w6) := Below.call U5.out hb6
  clear hb6
  go_wp2_with fail
  refine (pages_any ac q cc C w6 (RC.out _ T6.out) HC.out.sm (by omega)).mono ?_
  rintro e w7 ⟨rfl, hb7⟩
  have S7 : Hid (Below wa.heap.size wa w7) := Below.call S6.out hb7
  have T7 : Hid (Below w2.heap.size w2 w7) := Below.call T6.out hb7
  have U7 : Hid (Below w3.heap.size w3 w7) := Below.call U6.out hb7
  have hpb := pagesN_bd C HC.out.sm
  rw [HQ.out] at hpb
  have e2 := E2.out
  obtain ⟨PA, hPA⟩ : ∃ x, pagesN A = x := ⟨_, rfl⟩
  obtain ⟨PC, hPC⟩ : ∃ x, pagesN C = x := ⟨_, rfl⟩
  rw [hPA, hPC] at e2
  rw [hPC] at hpb
  rw [hPA, hPC]
  have hw1 : IntKind.i64.wrap (PC + hi) = PC + hi := IntWalk.i64_in _ (by omega)
  have hw2 : IntKind.i64.wrap (PC + hi - lo) = PC + hi - lo := IntWalk.i64_in _ (by omega)
  have hw3 : (PA != PC + hi - lo) = false := by rw [show PA = PC + hi - lo by omega]; simp
  clear hPA hPC hpb e2
  clear hb7
  go_wp2_with fail
  refine (all_any aa na ca A lo hi p w7 (RA2.out _ U7.out) (by omega)).mono ?_
  rintro e w8 ⟨rfl, hb8⟩
  have S8 : Hid (Below wa.heap.size wa w8) := Below.call S7.out hb8
  have T8 : Hid (Below w2.heap.size w2 w8) := Below.call T7.out hb8
  have U8 : Hid (Below w3.heap.size w3 w8) := Below.call U7.out hb8
  rw [E3.out]
  clear hb8
  go_wp2_with fail
  refine (pro_out aa na ca A lo hi p w8 (RA2.out _ U8.out) HA.out (by omega) HH.out).mono ?_
  rintro e w9 ⟨v9, rfl, ho9, hb9⟩
  have S9 : Hid (Below wa.heap.size wa w9) := Below.call S8.out hb9
  have T9 : Hid (Below w2.heap.size w2 w9) := Below.call T8.out hb9
  have U9 : Hid (Below w3.heap.size w3 w9) := Below.call U8.out hb9
  rw [E4.out.2] at ho9
  rw [E4.out.1]
  obtain ⟨ay, cy, rfl⟩ := ho9.shapeN na HNA.out
  have OY := Lib.hid ho9
  clear ho9
  clear hb9
  go_wp2_with fail
  refine (same_yes aa ay na ca cy A w9 (RA2.out _ U9.out) (OY.out.rd rgC) (by omega)).mono ?_
  rintro e w10 ⟨rfl, hb10⟩
  have S10 : Hid (Below wa.heap.size wa w10) := Below.call S9.out hb10
  have T10 : Hid (Below w2.heap.size w2 w10) := Below.call T9.out hb10
  have U10 : Hid (Below w3.heap.size w3 w10) := Below.call U9.out hb10
  clear hb10
  have hrw := boxed_below RA.out S10.out HLT.out
  have hc := hrw.cell
  have hf := hrw.frozen
  go_wp2
  have hx := hrw.set (.bool true)
  refine bodyPost_ret (v := .bool true) (by simp [results, Try.results4, go_sem, hx.cell]) rfl ?_
  refine ⟨rfl, ?_⟩
  have hbf := Below.call BA.out S10.out
  exact hbf.setCell (p := ⟨rb, 0, none⟩) (by show w.heap.size ≤ rb; rw [HRB.out]; exact Nat.le_refl _) _
/-- What RegionUndoes' own cells hold between two rounds. -/
structure UndI (C : List Rg) (lo hi : Int) (w4 W0 : World) (base : Nat) (pre : List (Pc C lo hi)) (W : World) : Prop where
  box : ∃ v B, Boxed W w4.heap.size 22 v ∧ OwnsS Rg.cells 3 29 W base v B ∧ UndoSt 120 C lo hi pre B
  err : Boxed W (w4.heap.size + 1) 25 (.int .i64 0)
  size : W0.heap.size ≤ W.heap.size
theorem undI_own (C : List Rg) (lo hi : Int) (w4 W0 : World) (base : Nat) : Own (fun pre W => UndI C lo hi w4 W0 base pre W) := fun _ _ _ _ hs hg hr => by
  obtain ⟨⟨v, B, h1, h2, h3⟩, h4, h5⟩ := hs
  exact ⟨⟨v, B, row_own h1 hg hr, ownsS_kept h2 hg hr, h3⟩, row_own h4 hg hr, Nat.le_trans h5 hg.size⟩
theorem keeps_below {W W' : World} (h : Below W.heap.size W W') : KeepsOthers W W' := ⟨h.size, fun k _ hk _ => (h.block k (Array.getElem?_eq_some_iff.1 hk).1).trans hk⟩
set_option linter.unusedSimpArgs false in
set_option linter.unusedVariables false in
set_option maxRecDepth 100000 in
set_option maxHeartbeats 4000000 in
theorem undoes_pro (a0 : Option Addr) (n c0 : Nat) (L : List Rg) (lo hi p : Int) (w : World) (h : RdS Rg.cells 3 w a0 n c0 L) (hn : n ≤ 60) (hh : hi ≤ 1073741824) (he : ¬ mapE (cleanL L) lo hi p = 0) (h0 : proE (cleanL L) lo hi p = 0) :
    Calls Try.prog 4 #[.slice a0 n c0, .int .i64 lo, .int .i64 hi, .int .i64 p] w fun e w' => e = .returned (.bool true) ∧ Below w.heap.size w w' := by
  have H := Lib.hid h
  have HH : Hid (hi ≤ 1099511627776) := by show _ ≤ _; omega
  have hl := h.len
  have HC := Lib.hid (clean_cn (L := L) (n := 60) (by omega))
  obtain ⟨C, hC⟩ : ∃ C, cleanL L = C := ⟨_, rfl⟩
  rw [hC] at HC
  have HEQ := Lib.hid hC
  rw [hC] at h0 he
  obtain ⟨q, hq⟩ : ∃ q, C.length = q := ⟨_, rfl⟩
  have hq1 : q ≤ 120 := by have := HC.out.few; omega
  have HQ := Lib.hid hq
  have dn : decide ((60 : Int) < (n : Int)) = false := decide_eq_false (by omega)
  have dh : decide ((1073741824 : Int) < hi) = false := decide_eq_false (by omega)
  have HN : Hid (n ≤ 60) := hn
  have H0 := Lib.hid h0
  have hba := below_a w (.cells #[.bool false] 4)
  have hrow := Boxed.new w 4 (.bool false)
  obtain ⟨wa, hwa⟩ : ∃ wa, w.alloc (.cells #[.bool false] 4) = wa := ⟨_, rfl⟩
  obtain ⟨rb, hrb⟩ : ∃ rb, w.heap.size = rb := ⟨_, rfl⟩
  have hlt : rb < wa.heap.size := by rw [← hwa, ← hrb]; simp
  rw [hwa] at hba hrow
  rw [hrb] at hrow
  have BA := Lib.hid hba
  have RA := Lib.hid hrow
  have HLT := Lib.hid hlt
  have HWA := Lib.hid hwa
  have HRB := Lib.hid hrb
  clear h hl hC hq h0 hba hrow hwa hrb hlt
  obtain ⟨EM, hEM⟩ : ∃ E, mapE C lo hi p = E := ⟨_, rfl⟩
  rw [hEM] at he
  have HEM := Lib.hid hEM
  have dE : (EM == 0) = false := by simpa using he
  clear hEM he
  refine (callsIn_wide (n := 6)).1 ?_
  refine callsIn_of_wp_marks Try.func4 rfl trivial ?_ rfl
  simp only [Try.ntmps4, List.size_toArray, List.length_cons, List.length_nil, Nat.reduceAdd, Nat.reduceSub, Array.replicate_succ, Array.replicate_zero, List.push_toArray, List.append_toArray, List.nil_append, List.cons_append]
  have hfn0 : Fence.wide.fn 8 := trivial
  have hfn1 : Fence.wide.fn 9 := trivial
  have hfn2 : Fence.wide.fn 10 := trivial
  have hfn3 : Fence.wide.fn 15 := trivial
  have hfn4 : Fence.wide.fn 16 := trivial
  gi_wp2_with (first | (rw [HWA.out, HRB.out]) | (gi_at_call 8; refine (callsIn_wide.2 (known_any _)).mono ?_; rintro e w1 ⟨rfl, hb1⟩) | (gi_at_call 9; refine (callsIn_wide.2 (clean_any a0 n c0 L w1 ((H.out.below BA.out).below hb1) (Nat.le_trans HN.out (by omega)))).mono ?_; rintro e w2 ⟨v2, rfl, ho2, hb2⟩; rw [HEQ.out] at ho2; obtain ⟨ac, cc, rfl⟩ := ho2.shapeN q HQ.out; have RC : Hid (∀ z, Below w2.heap.size w2 z → RdS Rg.cells 3 z ac q cc C) := fun z hb => (ho2.below hb).rd rgC; have S2 : Hid (Below wa.heap.size wa w2) := Below.call hb1 hb2; clear ho2 hb1 hb2) | (gi_at_call 10; refine (callsIn_wide.2 (map_out ac q cc C lo hi p w2 (RC.out _ (Below.refl _ _)) HC.out (by omega) HH.out)).mono ?_; rintro e w3 ⟨v3, rfl, _, hb3⟩; rw [HEM.out]) | (gi_at_call 15; refine (callsIn_wide.2 (pro_out ac q cc C lo hi p w3 (RC.out _ hb3) HC.out (by omega) HH.out)).mono ?_; rintro e w4 ⟨v4, rfl, ho4, hb4⟩; rw [H0.out]; rw [(pro_ok H0.out).2.2] at ho4; obtain ⟨nv, hnv⟩ : ∃ x, (withL C lo hi p).length = x := ⟨_, rfl⟩; obtain ⟨av, cv, rfl⟩ := ho4.shapeN nv hnv; have T4 := Lib.hid (Below.call hb3 hb4); have hs34 := hb4.size; have O4 := Lib.hid ho4; have hal := below_a2 w4 (.cells #[.slice av nv cv] 22) (.cells #[.int .i64 0] 25); have hx1 := (Boxed.new w4 22 (.slice av nv cv)).alloc (.cells #[.int .i64 0] 25); have hx2 := Boxed.new (w4.alloc (.cells #[.slice av nv cv] 22)) 25 (.int .i64 0); rw [World.size_alloc] at hx2; have hc2 := hx2.cell; have T5 := Lib.hid (Below.call T4.out hal); clear ho4 hb3 hb4 hnv) | (gi_at_call 16; refine (callsIn_wide.2 (pieces_any ac q cc C lo hi _ (RC.out _ T5.out) (by omega))).mono ?_; rintro e W0 ⟨v, rfl, hP, hO, hb0⟩))

  have hsz0 : w4.heap.size + 1 + 1 ≤ W0.heap.size := by have := hb0.size; simp at this; omega
  have hwsz : Hid (w.heap.size ≤ w4.heap.size) := by
    have h1 := BA.out.size
    have h2 := S2.out.size
    have h3 := T4.out.size
    show _ ≤ _
    omega
  have p0 := boxed_below hx1 hb0 (by simp; omega)
  have p1 := boxed_below hx2 hb0 (by simp)
  have hbb := Below.call (below_a2 w4 (.cells #[.slice av nv cv] 22) (.cells #[.int .i64 0] 25)) hb0
  have OW := Lib.hid (O4.out.below hbb)
  have hlt := hP.hi.lt
  simp only [World.size_alloc] at hP hO hlt ⊢
  have HNP : Hid ((piecesL C lo hi).length ≤ 120) := by
    have := piecesL_le C C.length lo hi
    rw [List.take_length] at this
    have := HC.out.few
    show _ ≤ _
    omega
  have hb34 : w3.heap.size ≤ w4.heap.size + 1 + 1 := by have h1 := T4.out.size; have := O4.out.at_base; exact Nat.le_trans hs34 (by omega)
  clear hx1 hx2 hc2 hb0 hal
  refine wpIn_rangeFunc_ownH rfl (by decide) (gf := 32) (lb := #[.pointer (some ⟨w4.heap.size + 1 + 1, 0, none⟩), .pointer (some ⟨w4.heap.size + 1 + 1 + 1, 0, none⟩), .pointer (some ⟨w4.heap.size + 1 + 1 + 2, 0, none⟩)]) rfl trivial (enters_of Try.func32 (by kernel_rfl) rfl)
    (pieces_of Fence.wide (6 - 1) trivial rfl (by decide) (w4.heap.size + 1 + 1) W0.heap.size v C lo hi W0 (by have := HQ.out; omega) hP hO hlt (Nat.le_refl _) (fun g hg => (hO.at_base g hg).2)) Amid.trans (amid_b (Nat.le_refl _)) (Below.refl _ _) (fun _ => rfl)
    (fun pre W => UndI C lo hi w4 W0 w3.heap.size pre W ∧ Below w4.heap.size w4 W)
    (fun _ _ _ => False)
    (OwnFrom.and (Own.from (undI_own C lo hi w4 W0 w3.heap.size) _) (ownFrom_below (Nat.le_refl _) (by omega)))
    (fun c => fun _ _ _ _ hs _ _ => hs)
    ⟨⟨⟨_, _, p0, OW.out, UndoSt.start HC.out HH.out H0.out⟩, p1, Nat.le_refl _⟩, hbb⟩
    (fun x a' W => ∃ Bx, W0.heap.size ≤ Bx ∧ W.heap[Bx]? = some (.cells #[.int .i64 x.1.lo, .int .i64 x.1.hi, .int .i64 x.1.p] 29 (0, 0)) ∧ a' = { tmps := #[.slice a0 n c0, .int .i64 lo, .int .i64 hi, .int .i64 p, undef, undef, undef, undef, .pointer (some ⟨rb, 0, none⟩), .slice ac q cc, v3, .int .i64 EM, undef, undef, .pointer (some ⟨w4.heap.size, 0, none⟩), .pointer (some ⟨w4.heap.size + 1, 0, none⟩), .pointer (some ⟨Bx, 0, none⟩), .bool true, .bool false, .slice a0 n c0, .int .i64 n, .bool false, .bool false, .int .i64 hi, .bool false, .bool false, .slice a0 n c0, .slice ac q cc, .tuple #[v3, .int .i64 EM], .slice ac q cc, .int .i64 lo, .int .i64 hi, .int .i64 p, .tuple #[v3, .int .i64 EM], v3, .int .i64 EM, .int .i64 EM, .bool false, undef, undef, undef, undef, undef, undef, undef, undef, undef, undef, undef, undef, undef, undef, undef, undef, undef, undef, undef, undef, undef, undef, undef, undef, undef, undef, undef, undef, undef, undef, undef, undef, undef, undef, undef, undef, undef, undef, undef, undef, undef, .tuple #[.slice av nv cv, .int .i64 0], .slice ac q cc, .int .i64 lo, .int .i64 hi, .int .i64 p, .tuple #[.slice av nv cv, .int .i64 0], .slice av nv cv, .int .i64 0, .int .i64 0, .bool false, .slice ac q cc, .int .i64 lo, .int .i64 hi, .func (.func 32) #[] #[.pointer (some ⟨w4.heap.size + 1 + 1, 0, none⟩), .pointer (some ⟨w4.heap.size + 1 + 1 + 1, 0, none⟩), .pointer (some ⟨w4.heap.size + 1 + 1 + 2, 0, none⟩)], x.1.val, undef, undef, undef, undef, undef, undef, undef, undef, undef, undef, undef, undef, undef, undef, undef, undef], defers := [] })
    (fun x a' _ X Y row hs hg hr => by obtain ⟨Bx, h1, h2, h3⟩ := hs; exact ⟨Bx, h1, row_own h2 hg (fun r e => (hr r e).2), h3⟩)
    ?assign ?body ?done ?stop
  case assign =>
    rintro l pre x W K ⟨hI, hB⟩ hK
    obtain ⟨⟨xl, xh, xp⟩, hxm⟩ := x
    dsimp only [Rg.val] at hK ⊢
    gi_wp2
    exact hK _ _ ((KeepsOthers.alloc _ _).from _) (Amid.below (below_a _ _) hI.size) ⟨undI_own C lo hi w4 W0 w3.heap.size _ _ _ none hI (World.grownBy_alloc _ _ none) (fun r e => by cases e), hB.alloc hB.size _⟩ ⟨W.heap.size, hI.size, heap_alloc_new _ _, rfl⟩
  case body =>
    rintro l pre x a' W hl ⟨r, hr⟩ ⟨⟨⟨vB, B, q0, hOB, hU⟩, q1, hsz⟩, hB⟩ ⟨Bx, hBx, hX, rfl⟩ hlt2
    have hst := hU.step HC.out x
    have hpc := piece_at HC.out x.2
    obtain ⟨⟨xl, xh, xp⟩, hxm⟩ := x
    dsimp only [Rg.val] at hX hst hpc ⊢
    obtain ⟨x0, x1, x2⟩ := cells3 hX
    obtain ⟨nB, hnB⟩ : ∃ y, B.length = y := ⟨_, rfl⟩
    obtain ⟨aB, cB, rfl⟩ := hOB.shapeN nB hnB
    have c0 := q0.cell
    have HPR : Hid (∀ w1, w1 = W → Calls Try.prog 15 #[.slice aB nB cB, .int .i64 xl, .int .i64 xh, .int .i64 xp] w1 (GivesRE (proL B xl xh xp) 0 w1)) := fun w1 e => by
      have := pro_out aB nB cB B xl xh xp w1 (by rw [e]; exact hOB.rd rgC) hU.cn (by have := HNP.out; omega) hpc.2.2.1
      rwa [hst.1] at this
    have HU2 := Lib.hid hst.2
    have Q0 := Lib.hid q0
    have Q1 := Lib.hid q1
    have HSZ := Lib.hid hsz
    have HB := Lib.hid hB
    have Hhr := Lib.hid hr
    clear hst hpc hX hU hOB hnB q0 q1 hr
    gi_wp2_with (gi_at_call 15; refine (CallsIn.inRound l (callsIn_wide.2 (HPR.out _ rfl))).mono ?_; rintro e W9 ⟨v9, rfl, ho9, hb9⟩; obtain ⟨nv9, hnv9⟩ : ∃ y, (proL B xl xh xp).length = y := ⟨_, rfl⟩; obtain ⟨av9, cv9, rfl⟩ := ho9.shapeN nv9 hnv9; have z0 := boxed_below Q0.out hb9 (by omega); have z1 := boxed_below Q1.out hb9 (by omega); have c9 := z0.cell; have f9 := z0.frozen; have d9 := z1.cell; have g9 := z1.frozen; have g10 := (z1.other (B' := w4.heap.size) (by omega) (.slice av9 nv9 cv9)).frozen; have c10 := ((z1.other (B' := w4.heap.size) (by omega) (.slice av9 nv9 cv9)).set (.int .i64 0)).cell)
    have hsz9 := hb9.size
    have hO9 : OwnsS Rg.cells 3 29 ((W9.setCell ⟨w4.heap.size, 0, none⟩ (.slice av9 nv9 cv9)).setCell ⟨w4.heap.size + 1, 0, none⟩ (.int .i64 0)) w3.heap.size (.slice av9 nv9 cv9) (proL B xl xh xp) := by
      refine OwnsS.mono (OwnsS.grown (OwnsS.grown ho9 (cell_grown1 _ _ _ _) (fun g hg e => ?_)) (cell_grown1 _ _ _ _) (fun g hg e => ?_)) (by omega)
      · injection e with e
        have := (ho9.at_base g hg).1
        omega
      · injection e with e
        have := (ho9.at_base g hg).1
        omega
    exact ⟨((keeps_below hb9).trans ((KeepsOthers.setCell _ _ _).trans (KeepsOthers.setCell _ _ _))).from _, ((Amid.below hb9 hsz).setCell ⟨w4.heap.size, 0, none⟩ (.inl (by show w4.heap.size < _; omega)) _).setCell ⟨w4.heap.size + 1, 0, none⟩ (.inl (by show w4.heap.size + 1 < _; omega)) _, ⟨⟨.slice av9 nv9 cv9, _, (z0.set _).other (by omega) _, hO9, HU2.out⟩, (z1.other (by omega) _).set _, by simp; omega⟩, ((Below.call hB hb9).setCell (p := ⟨w4.heap.size, 0, none⟩) (Nat.le_refl _) _).setCell (p := ⟨w4.heap.size + 1, 0, none⟩) (by show w4.heap.size ≤ w4.heap.size + 1; omega) _⟩
  case done =>
    rintro D ys W hD hys ⟨⟨⟨vB, B, q0, hOB, hU⟩, q1, hsz⟩, hB⟩ hK
    obtain rfl : B = C := hU.all HC.out (pro_full H0.out) hys
    obtain ⟨aB, cB, rfl⟩ := hOB.shapeN q HQ.out
    have c0 := q0.cell
    have HSM := Lib.hid (same_yes aB ac q cB cc B W (hOB.rd rgC) (RC.out _ (Below.call T4.out hB)) (by omega))
    have hfs : Fence.wide.fn 11 := trivial
    have HB := Lib.hid hB
    have HKD := Lib.hid hK
    have HD := Lib.hid hD
    have hwW := Below.call BA.out (Below.call S2.out (Below.call T4.out hB))
    have HWW := Lib.hid hwW
    have RW := Lib.hid (boxed_below RA.out (Below.call S2.out (Below.call T4.out hB)) HLT.out)
    clear hU hOB q0 q1 hsz hB hK hD hwW hP hO hlt p0 p1 hbb hys
    gi_wp2_with (gi_at_call 11; refine (callsIn_wide.2 HSM.out).mono ?_; rintro e W9 ⟨rfl, hb9⟩; have z0 := boxed_below RW.out hb9 RW.out.lt; have c9 := z0.cell; have f9 := z0.frozen)
    have hK9 : W9.heap[D]? = some (.deferred (some [])) := (hb9.block D (Array.getElem?_eq_some_iff.1 HKD.out).1).trans HKD.out
    have hK' := (KeepsOthers.setCell W9 ⟨rb, 0, none⟩ (.bool true)).same D _ hK9 rfl
    have hDw := HD.out
    have hwsz := hwsz.out
    refine ⟨by simp, .inl ⟨_, _, rfl, run_takeDeferred hK', ?_⟩⟩
    have hc5 := cell_kept (z0.set (.bool true)).cell (grownBy_putObj' _ D (.deferred none)) (fun r e => by cases e; exact ⟨_, hK', rfl⟩)
    refine ⟨.bool true, ?_, rfl, ((Below.call HWW.out hb9).setCell (p := ⟨rb, 0, none⟩) (by show w.heap.size ≤ rb; rw [HRB.out]; exact Nat.le_refl _) _).trans (belowK_b (w := w) (Nat.le_refl _) _ D _ _ (by omega) hK' rfl rfl)⟩
    simp [results, Try.f4, go_sem, hc5]
  case stop =>
    rintro D c pre W hD _ hs hK
    exact hs.elim

set_option linter.unusedSimpArgs false in
set_option linter.unusedVariables false in
set_option maxRecDepth 100000 in
set_option maxHeartbeats 4000000 in
theorem regionUndoes_walk (a0 : Option Addr) (n c0 : Nat) (L : List Rg) (lo hi p : Int) (w : World) (h : RdS Rg.cells 3 w a0 n c0 L) (hlo : (Lit.int .i64 lo).wf = true) (hhi : (Lit.int .i64 hi).wf = true) (hp : (Lit.int .i64 p).wf = true) :
    Calls Try.prog 4 #[.slice a0 n c0, .int .i64 lo, .int .i64 hi, .int .i64 p] w fun e w' => e = .returned (.bool true) ∧ Below w.heap.size w w' := by
  by_cases h1 : n ≤ 60
  · by_cases h2 : hi ≤ 1073741824
    · by_cases h3 : mapE (cleanL L) lo hi p = 0
      · exact undoes_map a0 n c0 L lo hi p w h h1 h2 h3
      · by_cases h4 : proE (cleanL L) lo hi p = 0
        · exact undoes_pro a0 n c0 L lo hi p w h h1 h2 h3 h4
        · exact undoes_no a0 n c0 L lo hi p w h h1 h2 ⟨h3, h4⟩
    · have dn : decide ((60 : Int) < (n : Int)) = false := decide_eq_false (by omega)
      have dh : decide ((1073741824 : Int) < hi) = true := decide_eq_true (by omega)
      exact undoes_over a0 n c0 lo hi p w (.inr ⟨dn, dh⟩)
  · exact undoes_over a0 n c0 lo hi p w (.inl (decide_eq_true (by omega)))

end Go.Proofs.Ytoampbdipmecmaa
