/- codec's try: Between, Bytes, List. -/
import Derived.Test.YtnlhpfcepbmbfaaCTryI
import Derived.Test.YtnlhpfcepbmbfaaCRd
namespace Go.Proofs.Ytnlhpfcepbmbfaa
open Go.RowKit
variable {B : Nat}
set_option linter.unusedSimpArgs false in
set_option linter.unusedVariables false in
set_option maxRecDepth 100000 in
set_option maxHeartbeats 1000000 in
theorem tryI_catch (O P h : Nat) (x : Value) (E : Int) (a : Option Addr) (n c : Nat) (l : List Int) (w : World) (hP : w.heap[P]? = some (.cells #[.pointer (some ⟨h, 0, none⟩)] 35 (0, 0))) (hO : w.heap[O]? = some (.cells #[x] 3 (0, 0))) (r : CRdr B w h a n c l 0) :
    CallsD Try.prog 67 #[.pointer (some ⟨P, 0, none⟩), .pointer (some ⟨O, 0, none⟩)] (.panicking ({ v := .iface 24 (.int .i64 E), recovered := false } :: [])) w fun e u' w' =>
      e = .returned (.tuple #[]) ∧ u' = .panicking ({ v := .iface 24 (.int .i64 E), recovered := true } :: []) ∧ w' = (w.setCell ⟨h, 1, none⟩ (.int .i64 E)).setCell ⟨O, 0, none⟩ (.int .i64 0) := by
  have c0 := one_cell hP
  have f1 : ∀ i, w.frozen? ⟨O, i, none⟩ = false := fun i => frozen_of_row w _ i _ _ hO
  have cO := one_cell hO
  obtain ⟨_, c1, cf⟩ := r.cells
  refine callsD_of_wpS Try.func67 rfl fun c₀ cs hu => ?_
  simp only [Try.ntmps67, List.size_toArray, List.length_cons, List.length_nil, Nat.reduceAdd, Nat.reduceSub, Array.replicate_succ, Array.replicate_zero, List.push_toArray, List.append_toArray, List.nil_append, List.cons_append]
  apply wpS_seq
  apply wpS_region
  simp [wpOpsS, go_sem, recoverD, hu, ta_yes, Exit.thenS]
  refine wpS_of_wp ?_
  clear hP hO r
  go_wp2
  exact ⟨rfl, _, rfl, _, results_none rfl _ _ _, rfl, rfl, rfl⟩
theorem tryI_idle (O P : Nat) (w : World) :
    CallsD Try.prog 67 #[.pointer (some ⟨P, 0, none⟩), .pointer (some ⟨O, 0, none⟩)] .returning w fun e u' w' => e = .returned (.tuple #[]) ∧ u' = .returning ∧ w' = w := by
  refine callsD_of_wpS Try.func67 rfl fun c₀ cs hu => ?_
  simp only [Try.ntmps67, List.size_toArray, List.length_cons, List.length_nil, Nat.reduceAdd, Nat.reduceSub, Array.replicate_succ, Array.replicate_zero, List.push_toArray, List.append_toArray, List.nil_append, List.cons_append]
  apply wpS_seq
  apply wpS_region
  simp [wpOpsS, go_sem, recoverD, hu, ta_no, Exit.thenS]
  refine wpS_of_wp ?_
  go_wp2
  exact ⟨rfl, .returning, by rw [← hu], _, results_none rfl _ _ _, rfl, rfl, rfl⟩
set_option linter.unusedSimpArgs false in
set_option linter.unusedVariables false in
set_option maxRecDepth 100000 in
set_option maxHeartbeats 1000000 in
theorem tryB_catch (O P h : Nat) (x : Value) (E : Int) (a : Option Addr) (n c : Nat) (l : List Int) (w : World) (hP : w.heap[P]? = some (.cells #[.pointer (some ⟨h, 0, none⟩)] 35 (0, 0))) (hO : w.heap[O]? = some (.cells #[x] 22 (0, 0))) (r : CRdr B w h a n c l 0) :
    CallsD Try.prog 68 #[.pointer (some ⟨P, 0, none⟩), .pointer (some ⟨O, 0, none⟩)] (.panicking ({ v := .iface 24 (.int .i64 E), recovered := false } :: [])) w fun e u' w' =>
      e = .returned (.tuple #[]) ∧ u' = .panicking ({ v := .iface 24 (.int .i64 E), recovered := true } :: []) ∧ w' = (w.setCell ⟨h, 1, none⟩ (.int .i64 E)).setCell ⟨O, 0, none⟩ (.slice none 0 0) := by
  have c0 := one_cell hP
  have f1 : ∀ i, w.frozen? ⟨O, i, none⟩ = false := fun i => frozen_of_row w _ i _ _ hO
  have cO := one_cell hO
  obtain ⟨_, c1, cf⟩ := r.cells
  refine callsD_of_wpS Try.func68 rfl fun c₀ cs hu => ?_
  simp only [Try.ntmps68, List.size_toArray, List.length_cons, List.length_nil, Nat.reduceAdd, Nat.reduceSub, Array.replicate_succ, Array.replicate_zero, List.push_toArray, List.append_toArray, List.nil_append, List.cons_append]
  apply wpS_seq
  apply wpS_region
  simp [wpOpsS, go_sem, recoverD, hu, ta_yes, Exit.thenS]
  refine wpS_of_wp ?_
  clear hP hO r
  go_wp2
  exact ⟨rfl, _, rfl, _, results_none rfl _ _ _, rfl, rfl, rfl⟩
theorem tryB_idle (O P : Nat) (w : World) :
    CallsD Try.prog 68 #[.pointer (some ⟨P, 0, none⟩), .pointer (some ⟨O, 0, none⟩)] .returning w fun e u' w' => e = .returned (.tuple #[]) ∧ u' = .returning ∧ w' = w := by
  refine callsD_of_wpS Try.func68 rfl fun c₀ cs hu => ?_
  simp only [Try.ntmps68, List.size_toArray, List.length_cons, List.length_nil, Nat.reduceAdd, Nat.reduceSub, Array.replicate_succ, Array.replicate_zero, List.push_toArray, List.append_toArray, List.nil_append, List.cons_append]
  apply wpS_seq
  apply wpS_region
  simp [wpOpsS, go_sem, recoverD, hu, ta_no, Exit.thenS]
  refine wpS_of_wp ?_
  go_wp2
  exact ⟨rfl, .returning, by rw [← hu], _, results_none rfl _ _ _, rfl, rfl, rfl⟩
set_option linter.unusedSimpArgs false in
set_option linter.unusedVariables false in
set_option maxRecDepth 100000 in
set_option maxHeartbeats 1000000 in
theorem tryL_catch (O P h : Nat) (x : Value) (E : Int) (a : Option Addr) (n c : Nat) (l : List Int) (w : World) (hP : w.heap[P]? = some (.cells #[.pointer (some ⟨h, 0, none⟩)] 35 (0, 0))) (hO : w.heap[O]? = some (.cells #[x] 41 (0, 0))) (r : CRdr B w h a n c l 0) :
    CallsD Try.prog 69 #[.pointer (some ⟨P, 0, none⟩), .pointer (some ⟨O, 0, none⟩)] (.panicking ({ v := .iface 24 (.int .i64 E), recovered := false } :: [])) w fun e u' w' =>
      e = .returned (.tuple #[]) ∧ u' = .panicking ({ v := .iface 24 (.int .i64 E), recovered := true } :: []) ∧ w' = (w.setCell ⟨h, 1, none⟩ (.int .i64 E)).setCell ⟨O, 0, none⟩ (.slice none 0 0) := by
  have c0 := one_cell hP
  have f1 : ∀ i, w.frozen? ⟨O, i, none⟩ = false := fun i => frozen_of_row w _ i _ _ hO
  have cO := one_cell hO
  obtain ⟨_, c1, cf⟩ := r.cells
  refine callsD_of_wpS Try.func69 rfl fun c₀ cs hu => ?_
  simp only [Try.ntmps69, List.size_toArray, List.length_cons, List.length_nil, Nat.reduceAdd, Nat.reduceSub, Array.replicate_succ, Array.replicate_zero, List.push_toArray, List.append_toArray, List.nil_append, List.cons_append]
  apply wpS_seq
  apply wpS_region
  simp [wpOpsS, go_sem, recoverD, hu, ta_yes, Exit.thenS]
  refine wpS_of_wp ?_
  clear hP hO r
  go_wp2
  exact ⟨rfl, _, rfl, _, results_none rfl _ _ _, rfl, rfl, rfl⟩
theorem tryL_idle (O P : Nat) (w : World) :
    CallsD Try.prog 69 #[.pointer (some ⟨P, 0, none⟩), .pointer (some ⟨O, 0, none⟩)] .returning w fun e u' w' => e = .returned (.tuple #[]) ∧ u' = .returning ∧ w' = w := by
  refine callsD_of_wpS Try.func69 rfl fun c₀ cs hu => ?_
  simp only [Try.ntmps69, List.size_toArray, List.length_cons, List.length_nil, Nat.reduceAdd, Nat.reduceSub, Array.replicate_succ, Array.replicate_zero, List.push_toArray, List.append_toArray, List.nil_append, List.cons_append]
  apply wpS_seq
  apply wpS_region
  simp [wpOpsS, go_sem, recoverD, hu, ta_no, Exit.thenS]
  refine wpS_of_wp ?_
  go_wp2
  exact ⟨rfl, .returning, by rw [← hu], _, results_none rfl _ _ _, rfl, rfl, rfl⟩
set_option linter.unusedSimpArgs false in
set_option linter.unusedVariables false in
set_option maxRecDepth 100000 in
set_option maxHeartbeats 1000000 in
theorem tryI_between (h : Nat) (R L H : Nat) (lo hi : Int) (l : List Int) (e0 : Int) (w : World) (r : RIn B w h l e0) (hR : w.heap[R]? = some (.cells #[.pointer (some ⟨h, 0, none⟩)] 35 (0, 0))) (hL : w.heap[L]? = some (.cells #[.int .i64 lo] 3 (0, 0))) (hH : w.heap[H]? = some (.cells #[.int .i64 hi] 3 (0, 0))) (kR : R ≠ h) (kL : L ≠ h) (kH : H ≠ h) :
    Calls Try.prog 44 #[.pointer (some ⟨h, 0, none⟩), .func (.func 45) #[] #[.pointer (some ⟨R, 0, none⟩), .pointer (some ⟨L, 0, none⟩), .pointer (some ⟨H, 0, none⟩)]] w (EPost B isI h (rdFrom e0 0 l (rdBetween lo hi l)) w) := by
  have hmf : ∀ (fn : Fn) (first cap : Array Value) (w : World), (Instr.makeFunc fn first cap).run Try.prog w = .ok (.func fn first cap) w := fun _ _ _ _ => rfl
  have hlt := r.lt
  obtain ⟨a0, n0, c0, hcr⟩ := r
  obtain ⟨cb, ce, cf⟩ := hcr.cells
  have r : RIn B w h l e0 := ⟨a0, n0, c0, hcr⟩
  have hb1 : Below w.heap.size w ((w.alloc (.cells #[.pointer (some ⟨h, 0, none⟩)] 35)).alloc (.cells #[.int .i64 0] 3)) := ((Below.refl _ _).alloc (Nat.le_refl _) _).alloc (by simp) _
  obtain ⟨w1, hw1⟩ : ∃ w1, (w.alloc (.cells #[.pointer (some ⟨h, 0, none⟩)] 35)).alloc (.cells #[.int .i64 0] 3) = w1 := ⟨_, rfl⟩
  have hP : w1.heap[w.heap.size]? = some (.cells #[.pointer (some ⟨h, 0, none⟩)] 35 (0, 0)) := by
    rw [← hw1]
    show ((w.heap.push _).push _)[w.heap.size]? = _
    simp [Array.getElem?_push]
  have hO : w1.heap[w.heap.size + 1]? = some (.cells #[.int .i64 0] 3 (0, 0)) := by
    rw [← hw1]
    have := heap_alloc_new (w.alloc (.cells #[.pointer (some ⟨h, 0, none⟩)] 35)) (.cells #[.int .i64 0] 3)
    simpa using this
  have hsz1 : w1.heap.size = w.heap.size + 2 := by rw [← hw1]; simp
  rw [hw1] at hb1
  have hr1 := r.below hb1
  have HRR := Lib.hid (below_row hR hb1)
  have HLL := Lib.hid (below_row hL hb1)
  have HHH := Lib.hid (below_row hH hb1)
  clear hR hL hH
  have HR1 := Lib.hid hr1
  have HG1 : Hid (w.grownBy w1 (some h)) := below_grown hb1 hlt
  have HP := Lib.hid hP
  have HO := Lib.hid hO
  have HSZ := Lib.hid hsz1
  have HW1 := Lib.hid hw1
  clear r hr1 hP hO hsz1 hb1 hcr hw1
  by_cases h0 : e0 = 0
  · subst h0
    rw [rdFrom_ok]
    go_enter_defers Try.func44, Try.ntmps44
    go_wp2_with fail
    rw [HW1.out]
    have hl1 := HSZ.out
    refine (between1_any h R L H lo hi l _ HR1.out HRR.out HLL.out HHH.out kR kL kH).mono ?_
    rintro e w2 ⟨hg, hr2, hcase⟩
    have HG2 := Lib.hid (grown_trans HG1.out hg)
    have hP2 := heap_kept HP.out hg (by omega)
    have hO2 := heap_kept HO.out hg (by omega)
    have HP2 := Lib.hid hP2
    have HO2 := Lib.hid hO2
    have cO2 := one_cell hO2
    have fO2 : ∀ i, w2.frozen? ⟨w.heap.size + 1, i, none⟩ = false := fun i => frozen_of_row w2 _ i _ _ hO2
    have HR2 := Lib.hid hr2
    have hs2 := hg.size
    clear hg hP2 hO2 hr2
    rcases hcase with ⟨hz, v, rfl, hv⟩ | ⟨hz, rfl⟩
    · have HZ := Lib.hid hz
      replace hv : v = .int .i64 (rdBetween lo hi l).v := hv
      subst hv
      go_wp2_with fail
      refine leaves_cons (f := 67) (args := #[.pointer (some ⟨w.heap.size, 0, none⟩), .pointer (some ⟨w.heap.size + 1, 0, none⟩)]) (by simp) (by simp [go_sem]) ?_
      refine (tryI_idle (w.heap.size + 1) w.heap.size _).mono ?_
      rintro e u' w'' ⟨rfl, rfl, rfl⟩
      simp [Leaves, settle, results, Try.results44, go_sem, cO2]
      refine ⟨grown_more HG2.out (rcell_grown _ (w.heap.size + 1) 0 _) (fun g hg => by injection hg with hg; omega), ?_, _, rfl, rfl⟩
      rw [HZ.out]
      exact HR2.out.grown (rcell_grown _ (w.heap.size + 1) 0 _) (fun g hg => by injection hg with hg; omega)
    · show Leaves _ _ _ _ _ _ _
      refine leaves_cons (f := 67) (args := #[.pointer (some ⟨w.heap.size, 0, none⟩), .pointer (some ⟨w.heap.size + 1, 0, none⟩)]) (by simp) (by simp [go_sem]) ?_
      obtain ⟨a2, n2, c2, hc2⟩ := HR2.out
      refine (tryI_catch (w.heap.size + 1) w.heap.size h _ _ a2 n2 c2 _ _ HP2.out HO2.out hc2).mono ?_
      rintro e u' w'' ⟨rfl, rfl, rfl⟩
      have cO3 : (w2.setCell ⟨h, 1, none⟩ (.int .i64 (rdBetween lo hi l).e)).cell? ⟨w.heap.size + 1, 0, none⟩ = some (.int .i64 0) := by
        rw [World.cell?_of_block (a := ⟨w.heap.size + 1, 0, none⟩) (heap_setCell_other w2 ⟨h, 1, none⟩ (w.heap.size + 1) _ (by simp; omega))]; exact cO2
      simp [Leaves, settle, results, Try.results44, go_sem, cO3]
      exact ⟨grown_more (grown_trans HG2.out (rcell_grown _ h 1 _)) (rcell_grown _ (w.heap.size + 1) 0 _) (fun g hg => by injection hg with hg; omega), ⟨_, _, _, (hc2.setE _).grown (rcell_grown _ (w.heap.size + 1) 0 _) (fun g hg => by injection hg with hg; omega)⟩, _, rfl, by rw [rdBetween_z hz]; rfl⟩
  · have hne : (e0 != 0) = true := by simpa using h0
    rw [rdFrom_bad _ _ _ h0]
    go_enter_defers Try.func44, Try.ntmps44
    go_wp2_with fail
    refine ⟨.int .i64 0, by simp [results, Try.results44, go_sem], ?_⟩
    rw [HW1.out]
    exact ⟨HG1.out, HR1.out, _, rfl, rfl⟩
set_option linter.unusedSimpArgs false in
set_option linter.unusedVariables false in
set_option maxRecDepth 100000 in
set_option maxHeartbeats 1000000 in
theorem tryB_bytes (h : Nat) (R M : Nat) (most : Int) (l : List Int) (e0 : Int) (w : World) (r : RIn B w h l e0) (hR : w.heap[R]? = some (.cells #[.pointer (some ⟨h, 0, none⟩)] 35 (0, 0))) (hM : w.heap[M]? = some (.cells #[.int .i64 most] 3 (0, 0))) (kR : R ≠ h) (kM : M ≠ h) (hl : l.length ≤ 1000000) :
    Calls Try.prog 47 #[.pointer (some ⟨h, 0, none⟩), .func (.func 48) #[] #[.pointer (some ⟨R, 0, none⟩), .pointer (some ⟨M, 0, none⟩)]] w (EPost B isB h (rdFrom e0 [] l (rdBytes most l)) w) := by
  have hmf : ∀ (fn : Fn) (first cap : Array Value) (w : World), (Instr.makeFunc fn first cap).run Try.prog w = .ok (.func fn first cap) w := fun _ _ _ _ => rfl
  have hlt := r.lt
  obtain ⟨a0, n0, c0, hcr⟩ := r
  obtain ⟨cb, ce, cf⟩ := hcr.cells
  have r : RIn B w h l e0 := ⟨a0, n0, c0, hcr⟩
  have hb1 : Below w.heap.size w ((w.alloc (.cells #[.pointer (some ⟨h, 0, none⟩)] 35)).alloc (.cells #[.slice none 0 0] 22)) := ((Below.refl _ _).alloc (Nat.le_refl _) _).alloc (by simp) _
  obtain ⟨w1, hw1⟩ : ∃ w1, (w.alloc (.cells #[.pointer (some ⟨h, 0, none⟩)] 35)).alloc (.cells #[.slice none 0 0] 22) = w1 := ⟨_, rfl⟩
  have hP : w1.heap[w.heap.size]? = some (.cells #[.pointer (some ⟨h, 0, none⟩)] 35 (0, 0)) := by
    rw [← hw1]
    show ((w.heap.push _).push _)[w.heap.size]? = _
    simp [Array.getElem?_push]
  have hO : w1.heap[w.heap.size + 1]? = some (.cells #[.slice none 0 0] 22 (0, 0)) := by
    rw [← hw1]
    have := heap_alloc_new (w.alloc (.cells #[.pointer (some ⟨h, 0, none⟩)] 35)) (.cells #[.slice none 0 0] 22)
    simpa using this
  have hsz1 : w1.heap.size = w.heap.size + 2 := by rw [← hw1]; simp
  rw [hw1] at hb1
  have hr1 := r.below hb1
  have HRR := Lib.hid (below_row hR hb1)
  have HMM := Lib.hid (below_row hM hb1)
  clear hR hM
  have HR1 := Lib.hid hr1
  have HG1 : Hid (w.grownBy w1 (some h)) := below_grown hb1 hlt
  have HP := Lib.hid hP
  have HO := Lib.hid hO
  have HSZ := Lib.hid hsz1
  have HW1 := Lib.hid hw1
  clear r hr1 hP hO hsz1 hb1 hcr hw1
  by_cases h0 : e0 = 0
  · subst h0
    rw [rdFrom_ok]
    go_enter_defers Try.func47, Try.ntmps47
    go_wp2_with fail
    rw [HW1.out]
    have hl1 := HSZ.out
    refine (bytes1_any h R M most l _ HR1.out HRR.out HMM.out kR kM hl).mono ?_
    rintro e w2 ⟨hg, hr2, hcase⟩
    have HG2 := Lib.hid (grown_trans HG1.out hg)
    have hP2 := heap_kept HP.out hg (by omega)
    have hO2 := heap_kept HO.out hg (by omega)
    have HP2 := Lib.hid hP2
    have HO2 := Lib.hid hO2
    have cO2 := one_cell hO2
    have fO2 : ∀ i, w2.frozen? ⟨w.heap.size + 1, i, none⟩ = false := fun i => frozen_of_row w2 _ i _ _ hO2
    have HR2 := Lib.hid hr2
    have hs2 := hg.size
    clear hg hP2 hO2 hr2
    rcases hcase with ⟨hz, v, rfl, hv⟩ | ⟨hz, rfl⟩
    · have HZ := Lib.hid hz
      obtain ⟨q2, hq2⟩ : ∃ q2, (rdBytes most l).v.length = q2 := ⟨_, rfl⟩
      obtain ⟨a2, k2, rfl⟩ := Owns.shapeN hv q2 hq2
      have HV := Lib.hid hv
      clear hv hq2
      go_wp2_with fail
      refine leaves_cons (f := 68) (args := #[.pointer (some ⟨w.heap.size, 0, none⟩), .pointer (some ⟨w.heap.size + 1, 0, none⟩)]) (by simp) (by simp [go_sem]) ?_
      refine (tryB_idle (w.heap.size + 1) w.heap.size _).mono ?_
      rintro e u' w'' ⟨rfl, rfl, rfl⟩
      simp [Leaves, settle, results, Try.results47, go_sem, cO2]
      refine ⟨grown_more HG2.out (rcell_grown _ (w.heap.size + 1) 0 _) (fun g hg => by injection hg with hg; omega), ?_, _, rfl, (Owns.grown (HV.out) (rcell_grown _ (w.heap.size + 1) 0 _) (fun g hg e => by have h1 := (Owns.at_base (HV.out) g hg).1; injection e with e; omega)).mono (by omega)⟩
      rw [HZ.out]
      exact HR2.out.grown (rcell_grown _ (w.heap.size + 1) 0 _) (fun g hg => by injection hg with hg; omega)
    · show Leaves _ _ _ _ _ _ _
      refine leaves_cons (f := 68) (args := #[.pointer (some ⟨w.heap.size, 0, none⟩), .pointer (some ⟨w.heap.size + 1, 0, none⟩)]) (by simp) (by simp [go_sem]) ?_
      obtain ⟨a2, n2, c2, hc2⟩ := HR2.out
      refine (tryB_catch (w.heap.size + 1) w.heap.size h _ _ a2 n2 c2 _ _ HP2.out HO2.out hc2).mono ?_
      rintro e u' w'' ⟨rfl, rfl, rfl⟩
      have cO3 : (w2.setCell ⟨h, 1, none⟩ (.int .i64 (rdBytes most l).e)).cell? ⟨w.heap.size + 1, 0, none⟩ = some (.slice none 0 0) := by
        rw [World.cell?_of_block (a := ⟨w.heap.size + 1, 0, none⟩) (heap_setCell_other w2 ⟨h, 1, none⟩ (w.heap.size + 1) _ (by simp; omega))]; exact cO2
      simp [Leaves, settle, results, Try.results47, go_sem, cO3]
      exact ⟨grown_more (grown_trans HG2.out (rcell_grown _ h 1 _)) (rcell_grown _ (w.heap.size + 1) 0 _) (fun g hg => by injection hg with hg; omega), ⟨_, _, _, (hc2.setE _).grown (rcell_grown _ (w.heap.size + 1) 0 _) (fun g hg => by injection hg with hg; omega)⟩, _, rfl, by rw [rdBytes_z hz]; exact Owns.nil _ _ _ _⟩
  · have hne : (e0 != 0) = true := by simpa using h0
    rw [rdFrom_bad _ _ _ h0]
    go_enter_defers Try.func47, Try.ntmps47
    go_wp2_with fail
    refine ⟨.slice none 0 0, by simp [results, Try.results47, go_sem], ?_⟩
    rw [HW1.out]
    exact ⟨HG1.out, HR1.out, _, rfl, Owns.nil _ _ _ _⟩
set_option linter.unusedSimpArgs false in
set_option linter.unusedVariables false in
set_option maxRecDepth 100000 in
set_option maxHeartbeats 1000000 in
theorem tryL_list (h : Nat) (R M : Nat) (most : Int) (l : List Int) (e0 : Int) (w : World) (r : RIn B w h l e0) (hR : w.heap[R]? = some (.cells #[.pointer (some ⟨h, 0, none⟩)] 35 (0, 0))) (hM : w.heap[M]? = some (.cells #[.int .i64 most] 3 (0, 0))) (kR : R ≠ h) (kM : M ≠ h) (hl : l.length ≤ 1000000) :
    Calls Try.prog 50 #[.pointer (some ⟨h, 0, none⟩), .func (.func 51) #[] #[.pointer (some ⟨R, 0, none⟩), .pointer (some ⟨M, 0, none⟩)]] w (EPost B isL h (rdFrom e0 [] l (rdList most l)) w) := by
  have hmf : ∀ (fn : Fn) (first cap : Array Value) (w : World), (Instr.makeFunc fn first cap).run Try.prog w = .ok (.func fn first cap) w := fun _ _ _ _ => rfl
  have hlt := r.lt
  obtain ⟨a0, n0, c0, hcr⟩ := r
  obtain ⟨cb, ce, cf⟩ := hcr.cells
  have r : RIn B w h l e0 := ⟨a0, n0, c0, hcr⟩
  have hb1 : Below w.heap.size w ((w.alloc (.cells #[.pointer (some ⟨h, 0, none⟩)] 35)).alloc (.cells #[.slice none 0 0] 41)) := ((Below.refl _ _).alloc (Nat.le_refl _) _).alloc (by simp) _
  obtain ⟨w1, hw1⟩ : ∃ w1, (w.alloc (.cells #[.pointer (some ⟨h, 0, none⟩)] 35)).alloc (.cells #[.slice none 0 0] 41) = w1 := ⟨_, rfl⟩
  have hP : w1.heap[w.heap.size]? = some (.cells #[.pointer (some ⟨h, 0, none⟩)] 35 (0, 0)) := by
    rw [← hw1]
    show ((w.heap.push _).push _)[w.heap.size]? = _
    simp [Array.getElem?_push]
  have hO : w1.heap[w.heap.size + 1]? = some (.cells #[.slice none 0 0] 41 (0, 0)) := by
    rw [← hw1]
    have := heap_alloc_new (w.alloc (.cells #[.pointer (some ⟨h, 0, none⟩)] 35)) (.cells #[.slice none 0 0] 41)
    simpa using this
  have hsz1 : w1.heap.size = w.heap.size + 2 := by rw [← hw1]; simp
  rw [hw1] at hb1
  have hr1 := r.below hb1
  have HRR := Lib.hid (below_row hR hb1)
  have HMM := Lib.hid (below_row hM hb1)
  clear hR hM
  have HR1 := Lib.hid hr1
  have HG1 : Hid (w.grownBy w1 (some h)) := below_grown hb1 hlt
  have HP := Lib.hid hP
  have HO := Lib.hid hO
  have HSZ := Lib.hid hsz1
  have HW1 := Lib.hid hw1
  clear r hr1 hP hO hsz1 hb1 hcr hw1
  by_cases h0 : e0 = 0
  · subst h0
    rw [rdFrom_ok]
    go_enter_defers Try.func50, Try.ntmps50
    go_wp2_with fail
    rw [HW1.out]
    have hl1 := HSZ.out
    refine (list1_any h R M most l _ HR1.out HRR.out HMM.out kR kM hl).mono ?_
    rintro e w2 ⟨hg, hr2, hcase⟩
    have HG2 := Lib.hid (grown_trans HG1.out hg)
    have hP2 := heap_kept HP.out hg (by omega)
    have hO2 := heap_kept HO.out hg (by omega)
    have HP2 := Lib.hid hP2
    have HO2 := Lib.hid hO2
    have cO2 := one_cell hO2
    have fO2 : ∀ i, w2.frozen? ⟨w.heap.size + 1, i, none⟩ = false := fun i => frozen_of_row w2 _ i _ _ hO2
    have HR2 := Lib.hid hr2
    have hs2 := hg.size
    clear hg hP2 hO2 hr2
    rcases hcase with ⟨hz, v, rfl, hv⟩ | ⟨hz, rfl⟩
    · have HZ := Lib.hid hz
      obtain ⟨q2, hq2⟩ : ∃ q2, (rdList most l).v.length = q2 := ⟨_, rfl⟩
      obtain ⟨a2, k2, rfl⟩ := Owns.shapeN hv q2 hq2
      have HV := Lib.hid hv
      clear hv hq2
      go_wp2_with fail
      refine leaves_cons (f := 69) (args := #[.pointer (some ⟨w.heap.size, 0, none⟩), .pointer (some ⟨w.heap.size + 1, 0, none⟩)]) (by simp) (by simp [go_sem]) ?_
      refine (tryL_idle (w.heap.size + 1) w.heap.size _).mono ?_
      rintro e u' w'' ⟨rfl, rfl, rfl⟩
      simp [Leaves, settle, results, Try.results50, go_sem, cO2]
      refine ⟨grown_more HG2.out (rcell_grown _ (w.heap.size + 1) 0 _) (fun g hg => by injection hg with hg; omega), ?_, _, rfl, (Owns.grown (HV.out) (rcell_grown _ (w.heap.size + 1) 0 _) (fun g hg e => by have h1 := (Owns.at_base (HV.out) g hg).1; injection e with e; omega)).mono (by omega)⟩
      rw [HZ.out]
      exact HR2.out.grown (rcell_grown _ (w.heap.size + 1) 0 _) (fun g hg => by injection hg with hg; omega)
    · show Leaves _ _ _ _ _ _ _
      refine leaves_cons (f := 69) (args := #[.pointer (some ⟨w.heap.size, 0, none⟩), .pointer (some ⟨w.heap.size + 1, 0, none⟩)]) (by simp) (by simp [go_sem]) ?_
      obtain ⟨a2, n2, c2, hc2⟩ := HR2.out
      refine (tryL_catch (w.heap.size + 1) w.heap.size h _ _ a2 n2 c2 _ _ HP2.out HO2.out hc2).mono ?_
      rintro e u' w'' ⟨rfl, rfl, rfl⟩
      have cO3 : (w2.setCell ⟨h, 1, none⟩ (.int .i64 (rdList most l).e)).cell? ⟨w.heap.size + 1, 0, none⟩ = some (.slice none 0 0) := by
        rw [World.cell?_of_block (a := ⟨w.heap.size + 1, 0, none⟩) (heap_setCell_other w2 ⟨h, 1, none⟩ (w.heap.size + 1) _ (by simp; omega))]; exact cO2
      simp [Leaves, settle, results, Try.results50, go_sem, cO3]
      exact ⟨grown_more (grown_trans HG2.out (rcell_grown _ h 1 _)) (rcell_grown _ (w.heap.size + 1) 0 _) (fun g hg => by injection hg with hg; omega), ⟨_, _, _, (hc2.setE _).grown (rcell_grown _ (w.heap.size + 1) 0 _) (fun g hg => by injection hg with hg; omega)⟩, _, rfl, by rw [rdList_z hz]; exact Owns.nil _ _ _ _⟩
  · have hne : (e0 != 0) = true := by simpa using h0
    rw [rdFrom_bad _ _ _ h0]
    go_enter_defers Try.func50, Try.ntmps50
    go_wp2_with fail
    refine ⟨.slice none 0 0, by simp [results, Try.results50, go_sem], ?_⟩
    rw [HW1.out]
    exact ⟨HG1.out, HR1.out, _, rfl, Owns.nil _ _ _ _⟩
set_option linter.unusedSimpArgs false in
set_option linter.unusedVariables false in
set_option maxRecDepth 100000 in
set_option maxHeartbeats 1000000 in
theorem rBetween_any (h : Nat) (lo hi : Int) (l : List Int) (e0 : Int) (w : World) (r : RIn B w h l e0) :
    Calls Try.prog 18 #[.pointer (some ⟨h, 0, none⟩), .int .i64 lo, .int .i64 hi] w (EPost B isI h (rdFrom e0 0 l (rdBetween lo hi l)) w) := by
  have hlt := r.lt
  have hb1 : Below w.heap.size w (((w.alloc (.cells #[.pointer (some ⟨h, 0, none⟩)] 35)).alloc (.cells #[.int .i64 lo] 3)).alloc (.cells #[.int .i64 hi] 3)) := ((((Below.refl w.heap.size w).alloc (Nat.le_refl _) _).alloc (by simp) _).alloc (by simp; omega) _)
  obtain ⟨w1, hw1⟩ : ∃ w1, (((w.alloc (.cells #[.pointer (some ⟨h, 0, none⟩)] 35)).alloc (.cells #[.int .i64 lo] 3)).alloc (.cells #[.int .i64 hi] 3)) = w1 := ⟨_, rfl⟩
  have hB0 : w1.heap[w.heap.size]? = some (.cells #[.pointer (some ⟨h, 0, none⟩)] 35 (0, 0)) := by
    rw [← hw1]
    rw [heap_old _ _ (by simp <;> omega)]
    rw [heap_old _ _ (by simp)]
    have := heap_alloc_new w (.cells #[.pointer (some ⟨h, 0, none⟩)] 35)
    simpa using this
  have hB1 : w1.heap[w.heap.size + 1]? = some (.cells #[.int .i64 lo] 3 (0, 0)) := by
    rw [← hw1]
    rw [heap_old _ _ (by simp)]
    have := heap_alloc_new (w.alloc (.cells #[.pointer (some ⟨h, 0, none⟩)] 35)) (.cells #[.int .i64 lo] 3)
    simpa using this
  have hB2 : w1.heap[w.heap.size + 1 + 1]? = some (.cells #[.int .i64 hi] 3 (0, 0)) := by
    rw [← hw1]
    have := heap_alloc_new ((w.alloc (.cells #[.pointer (some ⟨h, 0, none⟩)] 35)).alloc (.cells #[.int .i64 lo] 3)) (.cells #[.int .i64 hi] 3)
    simpa using this
  rw [hw1] at hb1
  have HR1 := Lib.hid (r.below hb1)
  have HG1 : Hid (w.grownBy w1 (some h)) := below_grown hb1 hlt
  have HSZ : Hid (w1.heap.size = w.heap.size + 3) := by show _ = _; rw [← hw1]; simp
  have HW1 := Lib.hid hw1
  have HB0 := Lib.hid hB0
  have HB1 := Lib.hid hB1
  have HB2 := Lib.hid hB2
  clear r hb1 hw1 hB0 hB1 hB2
  go_enter Try.func18, Try.ntmps18
  have hmf : ∀ (fn : Fn) (first cap : Array Value) (w : World), (Instr.makeFunc fn first cap).run Try.prog w = .ok (.func fn first cap) w := fun _ _ _ _ => rfl
  go_wp2_with fail
  rw [HW1.out]
  refine (tryI_between h _ _ _ lo hi l e0 _ HR1.out HB0.out HB1.out HB2.out (by omega) (by omega) (by omega)).mono ?_
  rintro e w2 ⟨hg, hr, v, rfl, hv⟩
  replace hv : v = .int .i64 _ := hv
  subst hv
  have HR := Lib.hid hr
  clear hr
  go_wp2_with fail
  go_ret
  exact ⟨grown_trans HG1.out hg, HR.out, _, rfl, rfl⟩
set_option linter.unusedSimpArgs false in
set_option linter.unusedVariables false in
set_option maxRecDepth 100000 in
set_option maxHeartbeats 1000000 in
theorem rBytes_any (h : Nat) (most : Int) (l : List Int) (e0 : Int) (w : World) (r : RIn B w h l e0) (hl : l.length ≤ 1000000) :
    Calls Try.prog 19 #[.pointer (some ⟨h, 0, none⟩), .int .i64 most] w (EPost B isB h (rdFrom e0 [] l (rdBytes most l)) w) := by
  have hlt := r.lt
  have hb1 : Below w.heap.size w ((w.alloc (.cells #[.pointer (some ⟨h, 0, none⟩)] 35)).alloc (.cells #[.int .i64 most] 3)) := (((Below.refl w.heap.size w).alloc (Nat.le_refl _) _).alloc (by simp) _)
  obtain ⟨w1, hw1⟩ : ∃ w1, ((w.alloc (.cells #[.pointer (some ⟨h, 0, none⟩)] 35)).alloc (.cells #[.int .i64 most] 3)) = w1 := ⟨_, rfl⟩
  have hB0 : w1.heap[w.heap.size]? = some (.cells #[.pointer (some ⟨h, 0, none⟩)] 35 (0, 0)) := by
    rw [← hw1]
    rw [heap_old _ _ (by simp)]
    have := heap_alloc_new w (.cells #[.pointer (some ⟨h, 0, none⟩)] 35)
    simpa using this
  have hB1 : w1.heap[w.heap.size + 1]? = some (.cells #[.int .i64 most] 3 (0, 0)) := by
    rw [← hw1]
    have := heap_alloc_new (w.alloc (.cells #[.pointer (some ⟨h, 0, none⟩)] 35)) (.cells #[.int .i64 most] 3)
    simpa using this
  rw [hw1] at hb1
  have HR1 := Lib.hid (r.below hb1)
  have HG1 : Hid (w.grownBy w1 (some h)) := below_grown hb1 hlt
  have HSZ : Hid (w1.heap.size = w.heap.size + 2) := by show _ = _; rw [← hw1]; simp
  have HW1 := Lib.hid hw1
  have HB0 := Lib.hid hB0
  have HB1 := Lib.hid hB1
  clear r hb1 hw1 hB0 hB1
  go_enter Try.func19, Try.ntmps19
  have hmf : ∀ (fn : Fn) (first cap : Array Value) (w : World), (Instr.makeFunc fn first cap).run Try.prog w = .ok (.func fn first cap) w := fun _ _ _ _ => rfl
  go_wp2_with fail
  rw [HW1.out]
  refine (tryB_bytes h _ _ most l e0 _ HR1.out HB0.out HB1.out (by omega) (by omega) hl).mono ?_
  rintro e w2 ⟨hg, hr, v, rfl, hv⟩
  obtain ⟨q2, hq2⟩ : ∃ q2, (rdFrom e0 [] l (rdBytes most l)).v.length = q2 := ⟨_, rfl⟩
  obtain ⟨a2, k2, rfl⟩ := Owns.shapeN hv q2 hq2
  have HV := Lib.hid hv
  have HR := Lib.hid hr
  clear hr hv hq2
  go_wp2_with fail
  go_ret
  exact ⟨grown_trans HG1.out hg, HR.out, _, rfl, Owns.mono HV.out (by have := HSZ.out; omega)⟩
set_option linter.unusedSimpArgs false in
set_option linter.unusedVariables false in
set_option maxRecDepth 100000 in
set_option maxHeartbeats 1000000 in
theorem rList_any (h : Nat) (most : Int) (l : List Int) (e0 : Int) (w : World) (r : RIn B w h l e0) (hl : l.length ≤ 1000000) :
    Calls Try.prog 20 #[.pointer (some ⟨h, 0, none⟩), .int .i64 most] w (EPost B isL h (rdFrom e0 [] l (rdList most l)) w) := by
  have hlt := r.lt
  have hb1 : Below w.heap.size w ((w.alloc (.cells #[.pointer (some ⟨h, 0, none⟩)] 35)).alloc (.cells #[.int .i64 most] 3)) := (((Below.refl w.heap.size w).alloc (Nat.le_refl _) _).alloc (by simp) _)
  obtain ⟨w1, hw1⟩ : ∃ w1, ((w.alloc (.cells #[.pointer (some ⟨h, 0, none⟩)] 35)).alloc (.cells #[.int .i64 most] 3)) = w1 := ⟨_, rfl⟩
  have hB0 : w1.heap[w.heap.size]? = some (.cells #[.pointer (some ⟨h, 0, none⟩)] 35 (0, 0)) := by
    rw [← hw1]
    rw [heap_old _ _ (by simp)]
    have := heap_alloc_new w (.cells #[.pointer (some ⟨h, 0, none⟩)] 35)
    simpa using this
  have hB1 : w1.heap[w.heap.size + 1]? = some (.cells #[.int .i64 most] 3 (0, 0)) := by
    rw [← hw1]
    have := heap_alloc_new (w.alloc (.cells #[.pointer (some ⟨h, 0, none⟩)] 35)) (.cells #[.int .i64 most] 3)
    simpa using this
  rw [hw1] at hb1
  have HR1 := Lib.hid (r.below hb1)
  have HG1 : Hid (w.grownBy w1 (some h)) := below_grown hb1 hlt
  have HSZ : Hid (w1.heap.size = w.heap.size + 2) := by show _ = _; rw [← hw1]; simp
  have HW1 := Lib.hid hw1
  have HB0 := Lib.hid hB0
  have HB1 := Lib.hid hB1
  clear r hb1 hw1 hB0 hB1
  go_enter Try.func20, Try.ntmps20
  have hmf : ∀ (fn : Fn) (first cap : Array Value) (w : World), (Instr.makeFunc fn first cap).run Try.prog w = .ok (.func fn first cap) w := fun _ _ _ _ => rfl
  go_wp2_with fail
  rw [HW1.out]
  refine (tryL_list h _ _ most l e0 _ HR1.out HB0.out HB1.out (by omega) (by omega) hl).mono ?_
  rintro e w2 ⟨hg, hr, v, rfl, hv⟩
  obtain ⟨q2, hq2⟩ : ∃ q2, (rdFrom e0 [] l (rdList most l)).v.length = q2 := ⟨_, rfl⟩
  obtain ⟨a2, k2, rfl⟩ := Owns.shapeN hv q2 hq2
  have HV := Lib.hid hv
  have HR := Lib.hid hr
  clear hr hv hq2
  go_wp2_with fail
  go_ret
  exact ⟨grown_trans HG1.out hg, HR.out, _, rfl, Owns.mono HV.out (by have := HSZ.out; omega)⟩
end Go.Proofs.Ytnlhpfcepbmbfaa
