/- codec's try: its contracts; Int, Between, Bytes, List, End, NewReader. -/
import Derived.Test.YtnlhpfcepbmbfaaCRdI
namespace Go.Proofs.Ytnlhpfcepbmbfaa
open Go.RowKit
/-- How reading something ends. -/
def EPost (B : Nat) {α : Type} (val : Nat → α → Value → World → Prop) (h : Nat) (r : Rd α) (w : World) (e : Ending) (w' : World) : Prop :=
  w.grownBy w' (some h) ∧ RIn B w' h r.l r.e ∧ ∃ v, e = .returned v ∧ val w.heap.size r.v v w'
variable {B : Nat}
theorem ta_yes (E : Int) (w : World) : (Instr.typeAssert (.iface 24 (.int .i64 E)) 20 24 true).run Try.prog w = .ok (.tuple #[.int .i64 E, .bool true]) w := by kernel_rfl
theorem ta_no (w : World) : (Instr.typeAssert .nilIface 20 24 true).run Try.prog w = .ok (.tuple #[.int .i64 0, .bool false]) w := by kernel_rfl
theorem owns_ge {k : IntKind} {e : TypeId} {w : World} {base : Nat} {q : Addr} {n c : Nat} {l : List Int} (h : Owns k e w base (.slice (some q) n c) l) (hn : 0 < n) : base ≤ q.block := by
  rcases h.2 with ⟨_, a', hv, ha⟩ | h2
  · injection hv with h1 h2 h3
    omega
  · rcases h2.2 with ⟨hv, _⟩ | ⟨g, cap, cur, hv, hb, _⟩
    · injection hv with h1 h2 h3
      cases h1
    · injection hv with h1 h2 h3
      injection h1 with h1
      rw [h1]
      exact hb
theorem Owns.spot {k : IntKind} {e : TypeId} {w : World} {base : Nat} {a : Option Addr} {n c : Nat} {l : List Int} (h : Owns k e w base (.slice a n c) l) (q : Addr) (hq : a = some q) : q.spot = none := by
  rcases h.2 with ⟨_, a', hv, ha⟩ | h2
  · injection hv with h1 h2 h3
    exact ha q (by rw [← h1]; exact hq)
  · rcases h2.2 with ⟨hv, _⟩ | ⟨g, cap, cur, hv, _⟩
    · injection hv with h1 h2 h3
      rw [h1] at hq
      cases hq
    · injection hv with h1 h2 h3
      rw [h1] at hq
      injection hq with hq
      rw [← hq]
set_option linter.unusedSimpArgs false in
set_option linter.unusedVariables false in
set_option maxRecDepth 100000 in
set_option maxHeartbeats 1000000 in
theorem tryI64_catch (O P h : Nat) (x : Value) (E : Int) (a : Option Addr) (n c : Nat) (l : List Int) (w : World) (hP : w.heap[P]? = some (.cells #[.pointer (some ⟨h, 0, none⟩)] 35 (0, 0))) (hO : w.heap[O]? = some (.cells #[x] 2 (0, 0))) (r : CRdr B w h a n c l 0) :
    CallsD Try.prog 64 #[.pointer (some ⟨P, 0, none⟩), .pointer (some ⟨O, 0, none⟩)] (.panicking ({ v := .iface 24 (.int .i64 E), recovered := false } :: [])) w fun e u' w' =>
      e = .returned (.tuple #[]) ∧ u' = .panicking ({ v := .iface 24 (.int .i64 E), recovered := true } :: []) ∧ w' = (w.setCell ⟨h, 1, none⟩ (.int .i64 E)).setCell ⟨O, 0, none⟩ (.int .i64 0) := by
  have c0 := one_cell hP
  have f1 : ∀ i, w.frozen? ⟨O, i, none⟩ = false := fun i => frozen_of_row w _ i _ _ hO
  have cO := one_cell hO
  obtain ⟨_, c1, cf⟩ := r.cells
  refine callsD_of_wpS Try.func64 rfl fun c₀ cs hu => ?_
  simp only [Try.ntmps64, List.size_toArray, List.length_cons, List.length_nil, Nat.reduceAdd, Nat.reduceSub, Array.replicate_succ, Array.replicate_zero, List.push_toArray, List.append_toArray, List.nil_append, List.cons_append]
  apply wpS_seq
  apply wpS_region
  simp [wpOpsS, go_sem, recoverD, hu, ta_yes, Exit.thenS]
  refine wpS_of_wp ?_
  clear hP hO r
  go_wp2
  exact ⟨rfl, _, rfl, _, results_none rfl _ _ _, rfl, rfl, rfl⟩
theorem tryI64_idle (O P : Nat) (w : World) :
    CallsD Try.prog 64 #[.pointer (some ⟨P, 0, none⟩), .pointer (some ⟨O, 0, none⟩)] .returning w fun e u' w' => e = .returned (.tuple #[]) ∧ u' = .returning ∧ w' = w := by
  refine callsD_of_wpS Try.func64 rfl fun c₀ cs hu => ?_
  simp only [Try.ntmps64, List.size_toArray, List.length_cons, List.length_nil, Nat.reduceAdd, Nat.reduceSub, Array.replicate_succ, Array.replicate_zero, List.push_toArray, List.append_toArray, List.nil_append, List.cons_append]
  apply wpS_seq
  apply wpS_region
  simp [wpOpsS, go_sem, recoverD, hu, ta_no, Exit.thenS]
  refine wpS_of_wp ?_
  go_wp2
  exact ⟨rfl, .returning, by rw [← hu], _, results_none rfl _ _ _, rfl, rfl, rfl⟩
set_option linter.unusedSimpArgs false in
set_option linter.unusedVariables false in
set_option maxRecDepth 100000 in
set_option maxHeartbeats 1000000 in
theorem tryI64_int (h : Nat) (l : List Int) (e0 : Int) (w : World) (r : RIn B w h l e0) :
    Calls Try.prog 42 #[.pointer (some ⟨h, 0, none⟩), .func (.func 43) #[.pointer (some ⟨h, 0, none⟩)] #[]] w (EPost B isI h (rdFrom e0 0 l (rdInt l)) w) := by
  have hmf : ∀ (fn : Fn) (first cap : Array Value) (w : World), (Instr.makeFunc fn first cap).run Try.prog w = .ok (.func fn first cap) w := fun _ _ _ _ => rfl
  have hlt := r.lt
  obtain ⟨a0, n0, c0, hcr⟩ := r
  obtain ⟨cb, ce, cf⟩ := hcr.cells
  have r : RIn B w h l e0 := ⟨a0, n0, c0, hcr⟩
  have hb1 : Below w.heap.size w ((w.alloc (.cells #[.pointer (some ⟨h, 0, none⟩)] 35)).alloc (.cells #[.int .i64 0] 2)) := ((Below.refl _ _).alloc (Nat.le_refl _) _).alloc (by simp) _
  obtain ⟨w1, hw1⟩ : ∃ w1, (w.alloc (.cells #[.pointer (some ⟨h, 0, none⟩)] 35)).alloc (.cells #[.int .i64 0] 2) = w1 := ⟨_, rfl⟩
  have hP : w1.heap[w.heap.size]? = some (.cells #[.pointer (some ⟨h, 0, none⟩)] 35 (0, 0)) := by
    rw [← hw1]
    show ((w.heap.push _).push _)[w.heap.size]? = _
    simp [Array.getElem?_push]
  have hO : w1.heap[w.heap.size + 1]? = some (.cells #[.int .i64 0] 2 (0, 0)) := by
    rw [← hw1]
    have := heap_alloc_new (w.alloc (.cells #[.pointer (some ⟨h, 0, none⟩)] 35)) (.cells #[.int .i64 0] 2)
    simpa using this
  have hsz1 : w1.heap.size = w.heap.size + 2 := by rw [← hw1]; simp
  rw [hw1] at hb1
  have hr1 := r.below hb1
  have HR1 := Lib.hid hr1
  have HG1 : Hid (w.grownBy w1 (some h)) := below_grown hb1 hlt
  have HP := Lib.hid hP
  have HO := Lib.hid hO
  have HSZ := Lib.hid hsz1
  have HW1 := Lib.hid hw1
  clear r hr1 hP hO hsz1 hb1 hcr hw1
  by_cases h0 : e0 = 0
  · subst h0
    rw [rdFrom_ok]
    go_enter_defers Try.func42, Try.ntmps42
    go_wp2_with fail
    rw [HW1.out]
    have hl1 := HSZ.out
    refine (int_post h l _ HR1.out).mono ?_
    rintro e w2 ⟨hg, hr2, hcase⟩
    have HG2 := Lib.hid (grown_trans HG1.out hg)
    have hP2 := heap_kept HP.out hg (by omega)
    have hO2 := heap_kept HO.out hg (by omega)
    have HP2 := Lib.hid hP2
    have HO2 := Lib.hid hO2
    have cO2 := one_cell hO2
    have fO2 : ∀ i, w2.frozen? ⟨w.heap.size + 1, i, none⟩ = false := fun i => frozen_of_row w2 _ i _ _ hO2
    have HR2 := Lib.hid hr2
    have hs2 := hg.size
    clear hg hP2 hO2 hr2
    rcases hcase with ⟨hz, v, rfl, hv⟩ | ⟨hz, rfl⟩
    · have HZ := Lib.hid hz
      replace hv : v = .int .i64 (rdInt l).v := hv
      subst hv
      go_wp2_with fail
      refine leaves_cons (f := 64) (args := #[.pointer (some ⟨w.heap.size, 0, none⟩), .pointer (some ⟨w.heap.size + 1, 0, none⟩)]) (by simp) (by simp [go_sem]) ?_
      refine (tryI64_idle (w.heap.size + 1) w.heap.size _).mono ?_
      rintro e u' w'' ⟨rfl, rfl, rfl⟩
      simp [Leaves, settle, results, Try.results42, go_sem, cO2]
      refine ⟨grown_more HG2.out (rcell_grown _ (w.heap.size + 1) 0 _) (fun g hg => by injection hg with hg; omega), ?_, _, rfl, rfl⟩
      rw [HZ.out]
      exact HR2.out.grown (rcell_grown _ (w.heap.size + 1) 0 _) (fun g hg => by injection hg with hg; omega)
    · show Leaves _ _ _ _ _ _ _
      refine leaves_cons (f := 64) (args := #[.pointer (some ⟨w.heap.size, 0, none⟩), .pointer (some ⟨w.heap.size + 1, 0, none⟩)]) (by simp) (by simp [go_sem]) ?_
      obtain ⟨a2, n2, c2, hc2⟩ := HR2.out
      refine (tryI64_catch (w.heap.size + 1) w.heap.size h _ _ a2 n2 c2 _ _ HP2.out HO2.out hc2).mono ?_
      rintro e u' w'' ⟨rfl, rfl, rfl⟩
      have cO3 : (w2.setCell ⟨h, 1, none⟩ (.int .i64 (rdInt l).e)).cell? ⟨w.heap.size + 1, 0, none⟩ = some (.int .i64 0) := by
        rw [World.cell?_of_block (a := ⟨w.heap.size + 1, 0, none⟩) (heap_setCell_other w2 ⟨h, 1, none⟩ (w.heap.size + 1) _ (by simp; omega))]; exact cO2
      simp [Leaves, settle, results, Try.results42, go_sem, cO3]
      exact ⟨grown_more (grown_trans HG2.out (rcell_grown _ h 1 _)) (rcell_grown _ (w.heap.size + 1) 0 _) (fun g hg => by injection hg with hg; omega), ⟨_, _, _, (hc2.setE _).grown (rcell_grown _ (w.heap.size + 1) 0 _) (fun g hg => by injection hg with hg; omega)⟩, _, rfl, by rw [rdInt_z hz]; rfl⟩
  · have hne : (e0 != 0) = true := by simpa using h0
    rw [rdFrom_bad _ _ _ h0]
    go_enter_defers Try.func42, Try.ntmps42
    go_wp2_with fail
    refine ⟨.int .i64 0, by simp [results, Try.results42, go_sem], ?_⟩
    rw [HW1.out]
    exact ⟨HG1.out, HR1.out, _, rfl, rfl⟩
theorem heap_old (w : World) (o : Obj) {k : Nat} (h : k < w.heap.size) : (w.alloc o).heap[k]? = w.heap[k]? := by
  show (w.heap.push o)[k]? = _
  simp [Array.getElem?_push, Nat.ne_of_lt h]
set_option linter.unusedSimpArgs false in
set_option linter.unusedVariables false in
set_option maxRecDepth 100000 in
set_option maxHeartbeats 1000000 in
theorem rInt_any (h : Nat) (l : List Int) (e0 : Int) (w : World) (r : RIn B w h l e0) :
    Calls Try.prog 16 #[.pointer (some ⟨h, 0, none⟩)] w (EPost B isI h (rdFrom e0 0 l (rdInt l)) w) := by
  have R := Lib.hid r
  clear r
  go_enter Try.func16, Try.ntmps16
  have hmf : ∀ (fn : Fn) (first cap : Array Value) (w : World), (Instr.makeFunc fn first cap).run Try.prog w = .ok (.func fn first cap) w := fun _ _ _ _ => rfl
  go_wp2_with fail
  refine (tryI64_int h l e0 _ R.out).mono ?_
  rintro e w2 ⟨hg, hr, v, rfl, hv⟩
  replace hv : v = .int .i64 _ := hv
  subst hv
  have HR := Lib.hid hr
  clear hr
  go_wp2_with fail
  go_ret
  exact ⟨hg, HR.out, _, rfl, rfl⟩
/-- What is wrong in the end. -/
def rdEnd (e0 : Int) (l : List Int) : Int := if e0 = 0 ∧ l ≠ [] then 22 else e0
set_option linter.unusedSimpArgs false in
set_option linter.unusedVariables false in
set_option maxRecDepth 100000 in
set_option maxHeartbeats 1000000 in
theorem rEnd_any (h : Nat) (l : List Int) (e0 : Int) (w : World) (r : RIn B w h l e0) :
    Calls Try.prog 17 #[.pointer (some ⟨h, 0, none⟩)] w fun e w' => e = .returned (.int .i64 (rdEnd e0 l)) ∧ w = w' := by
  obtain ⟨a, n, c, r⟩ := r
  obtain ⟨c0, c1, cf⟩ := r.cells
  have hl := r.rd.len
  have hE : rdEnd e0 l = if e0 = 0 ∧ l ≠ [] then 22 else e0 := rfl
  rw [hE]
  clear r hE
  by_cases h0 : e0 = 0
  · subst h0
    by_cases hn : n = 0
    · subst hn
      rw [if_neg (fun h => h.2 (List.length_eq_zero_iff.1 hl))]
      clear hl
      go_enter Try.func17, Try.ntmps17
      go_wp2
      go_ret
      exact ⟨rfl, rfl⟩
    · rw [if_pos ⟨rfl, fun h => hn (by rw [← hl, h]; rfl)⟩]
      have d1 : decide ((0 : Int) < n) = true := decide_eq_true (by omega)
      have d2 : decide (0 < n) = true := decide_eq_true (by omega)
      clear hl
      go_enter Try.func17, Try.ntmps17
      go_wp2
      go_ret
      exact ⟨rfl, rfl⟩
  · rw [if_neg (fun h => h0 h.1)]
    have hne : (e0 == 0) = false := beq_eq_false_iff_ne.2 h0
    clear hl
    go_enter Try.func17, Try.ntmps17
    go_wp2
    go_ret
    exact ⟨rfl, rfl⟩
set_option linter.unusedSimpArgs false in
set_option linter.unusedVariables false in
set_option maxRecDepth 100000 in
set_option maxHeartbeats 1000000 in
theorem newreader_any (a : Option Addr) (n c : Nat) (l : List Int) (w : World) (hr : RdAt .u8 w a n c l) (hn : n ≤ 1000000000) :
    Calls Try.prog 15 #[.slice a n c] w fun e w' => ∃ h, e = .returned (.pointer (some ⟨h, 0, none⟩)) ∧ w.heap.size ≤ h ∧ RIn w.heap.size w' h l 0 ∧ Below w.heap.size w w' := by
  go_enter Try.func15, Try.ntmps15
  go_wp2_with fail
  refine (clone_any _ _ _ l _ hr hn).mono ?_
  rintro e w1 ⟨v1, rfl, ho1, hb1⟩
  obtain ⟨q1, hq1⟩ : ∃ q1, l.length = q1 := ⟨_, rfl⟩
  obtain ⟨a1, k1, rfl⟩ := ho1.shapeN q1 hq1
  have HO1 := Lib.hid ho1
  have HB1 := Lib.hid hb1
  have HQ1 := Lib.hid hq1
  clear ho1 hb1 hq1
  go_wp2_with fail
  go_ret
  refine ⟨_, rfl, HB1.out.size, ⟨_, _, _, heap_alloc_new _ _, HO1.out.rd.alloc _, fun q hq hn => ?_, fun q hq => HO1.out.spot q hq, fun q hq hn => ?_⟩, HB1.out.trans (((Below.refl w1.heap.size w1).alloc (Nat.le_refl _) _).mono HB1.out.size)⟩
  subst hq
  obtain ⟨b, o, e, hc⟩ := HO1.out.rd.cell 0 hn
  injection e with e
  subst e
  exact block_lt_of_cell hc
  subst hq
  obtain ⟨b, o, e, hc⟩ := HO1.out.rd.cell 0 hn
  injection e with e
  subst e
  exact owns_ge HO1.out hn
end Go.Proofs.Ytnlhpfcepbmbfaa
