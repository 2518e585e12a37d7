/- The document's regions: Find, All, Unmap, Map, Protect. -/
import Derived.Test.YtoampbdipmecmaaRgWith
namespace Go.Proofs.Ytoampbdipmecmaa
open Go.RowKit Go.Shelf Go.Proofs
set_option maxRecDepth 100000 in
set_option linter.unusedSimpArgs false in
set_option linter.unusedVariables false in
set_option maxHeartbeats 1000000 in
theorem reffind_any (a : Option Addr) (n c : Nat) (L : List Rg) (x : Int) (w : World) (h : RdS Rg.cells 3 w a n c L) (hn : n ≤ 1000) :
    Calls Try.prog 24 #[.slice a n c, .int .i64 x] w fun e w' => e = .returned (.tuple #[(findR L x).val, .bool (findB L x)]) ∧ Below w.heap.size w w' := by
  have hba := below_a w (.cells #[.int .i64 0, .int .i64 0, .int .i64 0] 29)
  have hrow := heap_alloc_new w (.cells #[.int .i64 0, .int .i64 0, .int .i64 0] 29)
  obtain ⟨wa, hwa⟩ : ∃ wa, w.alloc (.cells #[.int .i64 0, .int .i64 0, .int .i64 0] 29) = wa := ⟨_, rfl⟩
  obtain ⟨rb, hrb⟩ : ∃ rb, w.heap.size = rb := ⟨_, rfl⟩
  rw [hwa] at hba hrow
  rw [hrb] at hrow
  have H := Lib.hid (h.below hba)
  have BA := Lib.hid hba
  have RA := Lib.hid hrow
  have HWA := Lib.hid hwa
  have HRB := Lib.hid hrb
  clear h hba hrow hwa hrb
  go_enter Try.func24, Try.ntmps24
  go_wp2_with (rw [HWA.out, HRB.out])
  go_loop [6] (fun i => ∃ k : Nat, k ≤ n ∧ i = .int .i64 k ∧ Hid (L.find? (fun r => r.has x) = (L.drop k).find? (fun r => r.has x))) (fun i => n - (intOf i).toNat)
  case atStart => exact ⟨0, by omega, rfl, rfl⟩
  case round =>
    obtain ⟨k, hk, rfl, F⟩ := hrel
    obtain ⟨q0, q1, q2⟩ := cells3 RA.out
    have hfz : ∀ i, wa.frozen? ⟨rb, i, none⟩ = false := fun i => frozen_of_row wa rb i _ _ RA.out
    by_cases hkn : k < n
    · have hl := H.out.len
      obtain ⟨r, hr⟩ : ∃ r, L[k]? = some r := ⟨L[k], List.getElem?_eq_getElem (by omega)⟩
      obtain ⟨b, o, ha, c0, c1, c2⟩ := H.out.three k r hr
      subst ha
      have HD := Lib.hid (drop_at hr)
      clear hr hl
      by_cases hx : r.lo ≤ x ∧ x < r.hi
      · obtain ⟨x1, x2⟩ := hx
        have HF : Hid (findR L x = r ∧ findB L x = true) := by
          show _ ∧ _
          unfold findR findB
          rw [F.out, HD.out, List.find?_cons_of_pos (by exact Rg.has_iff.2 ⟨x1, x2⟩)]
          exact ⟨rfl, rfl⟩
        obtain ⟨lo, hi, p⟩ := r
        replace x1 : lo ≤ x := x1
        replace x2 : x < hi := x2
        go_wp2
        have hg := sets_grown (b := rb) [(0, .int .i64 lo), (1, .int .i64 hi), (2, .int .i64 p)] wa
        have hr := sets_row [(0, .int .i64 lo), (1, .int .i64 hi), (2, .int .i64 p)] RA.out
        change bodyPost _ _ _ _ _ (sets wa rb [(0, .int .i64 lo), (1, .int .i64 hi), (2, .int .i64 p)])
        obtain ⟨w5, hw5⟩ : ∃ w5, sets wa rb [(0, .int .i64 lo), (1, .int .i64 hi), (2, .int .i64 p)] = w5 := ⟨_, rfl⟩
        rw [hw5] at hg hr ⊢
        obtain ⟨r0, r1, r2⟩ := cells3 (show w5.heap[rb]? = some (.cells #[.int .i64 lo, .int .i64 hi, .int .i64 p] 29 (0, 0)) from hr)
        refine bodyPost_ret (v := .tuple #[.agg #[.int .i64 lo, .int .i64 hi, .int .i64 p], .bool true]) (by simp [results, Try.results24, go_sem, r0, r1, r2]) rfl ?_
        rw [HF.out.1, HF.out.2]
        exact ⟨rfl, Below.grown BA.out hg BA.out.size (fun k e => by injection e with e; have := HRB.out; omega)⟩
      · have HF : Hid ((r :: L.drop (k + 1)).find? (fun r => r.has x) = (L.drop (k + 1)).find? (fun r => r.has x)) := by
          show _ = _
          exact List.find?_cons_of_neg (fun e => hx (Rg.has_iff.1 e))
        obtain ⟨lo, hi, p⟩ := r
        by_cases x1 : lo ≤ x
        · have x2 : ¬ x < hi := fun e => hx ⟨x1, e⟩
          clear hx
          go_wp2
          go_round
          case rel => exact ⟨k + 1, by omega, by go_num, by rw [F.out, HD.out, HF.out]; exact rfl⟩
          case measure => simp [intOf] <;> omega
        · clear hx
          go_wp2
          go_round
          case rel => exact ⟨k + 1, by omega, by go_num, by rw [F.out, HD.out, HF.out]; exact rfl⟩
          case measure => simp [intOf] <;> omega
    · obtain rfl : k = n := by omega
      have hl := H.out.len
      have HF : Hid (findR L x = ⟨0, 0, 0⟩ ∧ findB L x = false) := by
        show _ ∧ _
        unfold findR findB
        rw [F.out, List.drop_of_length_le (by omega)]
        exact ⟨rfl, rfl⟩
      clear hl
      go_wp2
      have hg := sets_grown (b := rb) [(0, .int .i64 0), (1, .int .i64 0), (2, .int .i64 0)] wa
      have hr := sets_row [(0, .int .i64 0), (1, .int .i64 0), (2, .int .i64 0)] RA.out
      change bodyPost _ _ _ _ _ (sets wa rb [(0, .int .i64 0), (1, .int .i64 0), (2, .int .i64 0)])
      obtain ⟨w5, hw5⟩ : ∃ w5, sets wa rb [(0, .int .i64 0), (1, .int .i64 0), (2, .int .i64 0)] = w5 := ⟨_, rfl⟩
      rw [hw5] at hg hr ⊢
      obtain ⟨r0, r1, r2⟩ := cells3 (show w5.heap[rb]? = some (.cells #[.int .i64 0, .int .i64 0, .int .i64 0] 29 (0, 0)) from hr)
      refine bodyPost_ret (v := .tuple #[.agg #[.int .i64 0, .int .i64 0, .int .i64 0], .bool false]) (by simp [results, Try.results24, go_sem, r0, r1, r2]) rfl ?_
      rw [HF.out.1, HF.out.2]
      exact ⟨rfl, Below.grown BA.out hg BA.out.size (fun k e => by injection e with e; have := HRB.out; omega)⟩
theorem strict_last : ∀ {l : List Int} {x z : Int}, Strict (l ++ [z]) → x ∈ l ++ [z] → x ≤ z
  | [], x, z, _, h => by simp at h; omega
  | a :: l, x, z, h, hx => by
    rw [List.cons_append] at h hx
    rcases List.mem_cons.1 hx with rfl | hx
    · have := h.1 z (by simp)
      omega
    · exact strict_last h.2 hx
/-- What is asked between two cuts answers for all of them: the last lies not below hi. -/
theorem all_drop {L : List Rg} {lo hi : Int} {ok : Int → Bool} {A : List Int} (hA : cutsL L [lo, hi] = A) (h : A.dropLast.all (askL L lo hi ok) = true) : A.all (askL L lo hi ok) = true := by
  rcases List.eq_nil_or_concat A with e | ⟨l, z, e⟩
  · rw [e]; rfl
  · rw [List.concat_eq_append] at e
    subst e
    rw [List.dropLast_concat] at h
    rw [List.all_append, h, Bool.true_and]
    have hz : hi ≤ z := strict_last (by rw [← hA]; exact cutsL_strict _ _) (by rw [← hA]; exact cutsL_mem.2 (.inl (by simp)))
    show (askL L lo hi ok z && true) = true
    unfold askL
    rw [decide_eq_true hz]
    simp
theorem all_at {ok : Int → Bool} {A : List Int} {k : Nat} {x : Int} (hx : A[k]? = some x) (h : ok x = false) : A.all ok = false := by
  rw [List.all_eq_false]
  exact ⟨x, List.mem_of_getElem? hx, by simp [h]⟩
theorem take_all {ok : Int → Bool} {A : List Int} {k : Nat} {x : Int} (hx : A[k]? = some x) (h0 : (A.take k).all ok = true) (h : ok x = true) : (A.take (k + 1)).all ok = true := by
  rw [List.take_add_one, hx, List.all_append, h0]
  simp [h]
set_option linter.unusedSimpArgs false in
set_option linter.unusedVariables false in
set_option maxRecDepth 100000 in
set_option maxHeartbeats 2000000 in
theorem refall_any (a : Option Addr) (n c : Nat) (L : List Rg) (lo hi ways : Int) (w : World) (h : RdS Rg.cells 3 w a n c L) (hn : n ≤ 1000) (hw : ∀ r ∈ L, r.Wf) (hlo : (Lit.int .i64 lo).wf = true) (hhi : (Lit.int .i64 hi).wf = true) :
    Calls Try.prog 26 #[.slice a n c, .int .i64 lo, .int .i64 hi, .int .i64 ways] w fun e w' => e = .returned (.bool (refAll L lo hi (okW ways))) ∧ Below w.heap.size w w' := by
  by_cases h0 : hi ≤ lo
  · have HG : Hid (refAll L lo hi (okW ways) = true) := by show _ = _; unfold refAll; rw [if_pos h0]
    go_enter Try.func26, Try.ntmps26
    go_wp2
    go_ret
    rw [HG.out]
    exact ⟨rfl, Below.refl _ _⟩
  have H := Lib.hid h
  have HW := Lib.hid hw
  have HLO := Lib.hid hlo
  have HHI := Lib.hid hhi
  clear h hw hlo hhi
  have hba := below_a w (.cells #[.int .i64 lo, .int .i64 hi] 3)
  have hrow := heap_alloc_new w (.cells #[.int .i64 lo, .int .i64 hi] 3)
  have HC : Hid (∀ w1, w.alloc (.cells #[.int .i64 lo, .int .i64 hi] 3) = w1 → Calls Try.prog 33 #[.slice a n c, .slice (some ⟨w.heap.size, 0, none⟩) 2 2] w1 (GivesInts (cutsL L [lo, hi]) w1)) := by
    intro w1 hw1
    rw [hw1] at hba hrow
    exact cuts_any a n c L _ _ _ [lo, hi] w1 (H.out.below hba) hn HW.out (rd_row2 hrow HLO.out HHI.out) (Nat.le_refl _)
  go_enter Try.func26, Try.ntmps26
  go_wp2_with (go_at_call 33; refine (HC.out _ rfl).mono ?_; rintro e w1 ⟨v1, rfl, ho1, hb1⟩)
  have hl1 := cutsL_le L [lo, hi]
  have hmem : (cutsL L [lo, hi]).length ≠ 0 := fun e => by
    have := (cutsL_mem (l := L) (more := [lo, hi]) (c := lo)).2 (.inl (by simp))
    rw [List.length_eq_zero_iff.1 e] at this
    cases this
  obtain ⟨A, hA⟩ : ∃ A, cutsL L [lo, hi] = A := ⟨_, rfl⟩
  have HA := Lib.hid hA
  obtain ⟨f, hf⟩ : ∃ f, askL L lo hi (okW ways) = f := ⟨_, rfl⟩
  have HGOAL : Hid (refAll L lo hi (okW ways) = A.all f) := by show _ = _; unfold refAll; rw [if_neg (by omega), hA, hf]
  have HFF := Lib.hid hf
  rw [hA] at ho1 hl1 hmem
  obtain ⟨q, hq⟩ : ∃ q, A.length = q := ⟨_, rfl⟩
  obtain ⟨aq, cq, rfl⟩ := ho1.shapeN q hq
  have O1 := Lib.hid ho1
  have B1 : Hid (Below w.heap.size w w1) := Below.call (below_a w _) hb1
  have HLL := H.out.len
  have hq0 : q ≠ 0 := by omega
  have hqb : q ≤ 2002 := by simp at hl1; omega
  have HQ := Lib.hid hq
  have HR1 : Hid (RdS Rg.cells 3 w1 a n c L) := H.out.below B1.out
  clear hba hrow HC ho1 hb1 hl1 hmem hA hq HLL hf
  go_loop [10] (fun i => ∃ k : Nat, k + 1 ≤ q ∧ i = .int .i64 k ∧ Hid ((A.take k).all f = true)) (fun i => q - (intOf i).toNat)
  case atStart => exact ⟨0, by omega, rfl, rfl⟩
  case round =>
    obtain ⟨k, hk, rfl, X⟩ := hrel
    have hk1w : IntKind.i64.wrap ((k : Int) + 1) = (k : Int) + 1 := IntWalk.i64_in _ (by omega)
    by_cases hkn : k + 1 < q
    · have hkn0 : k < q := by omega
      have hkci : decide ((k : Int) + 1 < (q : Int)) = true := decide_eq_true (by omega)
      have hl := HQ.out
      obtain ⟨x, hx⟩ : ∃ x, A[k]? = some x := ⟨A[k], List.getElem?_eq_getElem (by omega)⟩
      obtain ⟨g, o, ea, c0⟩ := O1.out.rd.cell k (by omega)
      subst ea
      rw [show nth A k = x by unfold nth; rw [List.getD_eq_getElem?_getD, hx]; rfl] at c0
      have HX := Lib.hid hx
      have HPC : Hid (∀ w2, w2 = w1 → Calls Try.prog 37 #[.slice a n c, .int .i64 x] w2 fun e w' => e = .returned (.int .i64 (pf L x)) ∧ w2 = w') := fun w2 e => refprot_any a n c L x w2 (by rw [e]; exact HR1.out) hn
      have HASK : Hid (f x = (decide (x < lo) || (decide (hi ≤ x) || (!decide (pf L x = -1) && okW ways (pf L x))))) := by show _ = _; rw [← HFF.out]; rfl
      obtain ⟨px, hpx⟩ : ∃ px, pf L x = px := ⟨_, rfl⟩
      rw [hpx] at HPC HASK
      clear hx hl hpx
      by_cases x1 : x < lo
      · have HY : Hid (f x = true) := by show _ = _; rw [HASK.out, decide_eq_true x1]; rfl
        have x1 : decide (x < lo) = true := decide_eq_true x1
        go_wp2
        go_round
        case rel => exact ⟨k + 1, by omega, by go_num, take_all HX.out X.out HY.out⟩
        case measure => simp [intOf] <;> omega
      by_cases x2 : hi ≤ x
      · have HY : Hid (f x = true) := by show _ = _; rw [HASK.out, decide_eq_true x2]; simp
        have x1 : decide (x < lo) = false := decide_eq_false x1
        have x2 : decide (hi ≤ x) = true := decide_eq_true x2
        go_wp2
        go_round
        case rel => exact ⟨k + 1, by omega, by go_num, take_all HX.out X.out HY.out⟩
        case measure => simp [intOf] <;> omega
      rw [decide_eq_false x1, decide_eq_false x2, Bool.false_or, Bool.false_or] at HASK
      have x1 : decide (x < lo) = false := decide_eq_false x1
      have x2 : decide (hi ≤ x) = false := decide_eq_false x2
      by_cases x3 : px = -1
      · have HN : Hid (A.all f = false) := all_at HX.out (by rw [HASK.out, x3]; rfl)
        subst x3
        go_wp2_with (go_at_call 37; refine (HPC.out _ rfl).mono ?_; rintro e w' ⟨rfl, rfl⟩)
        go_ret
        rw [HGOAL.out, HN.out]
        exact ⟨rfl, B1.out⟩
      have d3 : (px == -1) = false := by simpa using x3
      rw [decide_eq_false x3, Bool.not_false, Bool.true_and] at HASK
      clear x3
      by_cases x4 : bits .and .i64 px ways = ways
      · have HY : Hid (f x = true) := by show _ = _; rw [HASK.out]; unfold okW; rw [decide_eq_true x4]
        go_wp2_with (go_at_call 37; refine (HPC.out _ rfl).mono ?_; rintro e w' ⟨rfl, rfl⟩)
        go_round
        case rel => exact ⟨k + 1, by omega, by go_num, take_all HX.out X.out HY.out⟩
        case measure => simp [intOf] <;> omega
      · have HN : Hid (A.all f = false) := all_at HX.out (by rw [HASK.out]; unfold okW; rw [decide_eq_false x4])
        go_wp2_with (go_at_call 37; refine (HPC.out _ rfl).mono ?_; rintro e w' ⟨rfl, rfl⟩)
        go_ret
        rw [HGOAL.out, HN.out]
        exact ⟨rfl, B1.out⟩
    · obtain rfl : q = k + 1 := by omega
      have hkci : decide ((k : Int) + 1 < ((k + 1 : Nat) : Int)) = false := decide_eq_false (by omega)
      have hl := HQ.out
      have e : A.take k = A.dropLast := by rw [List.dropLast_eq_take, hl, Nat.add_sub_cancel]
      rw [e] at X
      have HY : Hid (A.all f = true) := by
        show _ = _
        have := all_drop HA.out (ok := okW ways) (by rw [HFF.out]; exact X.out)
        rwa [HFF.out] at this
      clear hl e
      go_wp2
      go_ret
      rw [HGOAL.out, HY.out]
      exact ⟨rfl, B1.out⟩
end Go.Proofs.Ytoampbdipmecmaa
