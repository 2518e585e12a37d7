/- disk: Arm, whatever is to be kept. -/
import Derived.Test.YtpgncmoagmkcmaaDkE
import Derived.Test.YtpgncmoagmkcmaaBools
namespace Go.Proofs.Ytpgncmoagmkcmaa
open Go.RowKit
def boolInfo : Prop := (Try.prog.info? 4).map (fun i => (i.zero, i.size, i.bytes)) = some (some (.bool false), 1, 1)
theorem boolI : boolInfo := by unfold boolInfo; kernel_rfl
theorem boolsT : Try.prog.underlying 23 = some (.slice 4) := Try.underlying23
/-- A slice of bools in a new block. -/
structure NewB (w w' : World) (v : Value) (n : Nat) (l : List Bool) : Prop where
  ex : ∃ a c, v = .slice a n c ∧ RdB w' a n c l ∧ ∀ q, a = some q → 0 < n → w.heap.size ≤ q.block ∧ q.block < w'.heap.size
  below : Below w.heap.size w w'
theorem NewB.past {w w' : World} {o : Obj} {v : Value} {n : Nat} {l : List Bool} (h : NewB (w.alloc o) w' v n l) : NewB w w' v n l := by
  obtain ⟨a, c, hv, hr, hq⟩ := h.ex
  exact ⟨⟨a, c, hv, hr, fun q h1 h2 => ⟨by have := (hq q h1 h2).1; simp at this; omega, (hq q h1 h2).2⟩⟩, ((Below.refl _ _).alloc (Nat.le_refl _) o).trans (h.below.mono (by simp))⟩
theorem run_app_bools (ty : TypeId) (w : World) (x0 : Addr) (xo : Option Addr) (n c : Nat) (l : List Bool) (hr : RdB w xo n c l) (hn : n ≤ 1099511627776) :
    ∃ v w', (Builtin.append_ #[23, 23] ty #[.slice (some x0) 0 0, .slice xo n c]).run Try.prog w = .ok v w' ∧ NewB w w' v n l := by
  have hlen := hr.len
  by_cases h0 : n = 0
  · subst h0
    have hl0 : l = [] := List.eq_nil_of_length_eq_zero hlen
    obtain ⟨i, hi, hz0, hz1, hz2⟩ : ∃ i, Try.prog.info? 4 = some i ∧ i.zero = some (.bool false) ∧ i.size = 1 ∧ i.bytes = 1 := by
      have := boolI
      unfold boolInfo at this
      cases h : Try.prog.info? 4 with
      | none => rw [h] at this; cases this
      | some i => rw [h] at this; simp at this; exact ⟨i, rfl, this.1, this.2.1, this.2.2⟩
    refine ⟨.slice (some x0) 0 0, w, ?_, ⟨some x0, 0, rfl, ⟨hlen, Nat.le_refl _, by unfold maxLen; omega, fun i hi => by omega, fun h => by cases h⟩, fun q _ h => by omega⟩, Below.refl _ _⟩
    cases xo <;> simp [Builtin.append_, run_underlying boolsT, sizeOf, typeInfo, hi, Builtin.lenOf, Builtin.firstCells, loadCells, loadCellsFrom, storeCells]
  · obtain ⟨i, hi, hz0, hz1, hz2⟩ : ∃ i, Try.prog.info? 4 = some i ∧ i.zero = some (.bool false) ∧ i.size = 1 ∧ i.bytes = 1 := by
      have := boolI
      unfold boolInfo at this
      cases h : Try.prog.info? 4 with
      | none => rw [h] at this; cases this
      | some i => rw [h] at this; simp at this; exact ⟨i, rfl, this.1, this.2.1, this.2.2⟩
    obtain ⟨x, rfl⟩ : ∃ x, xo = some x := by
      obtain ⟨b, o, e, _⟩ := hr.cell 0 (by omega)
      exact ⟨_, e⟩
    have hcell : ∀ j v, (l.map Value.bool)[j]? = some v → w.cell? (x.add j) = some v := by
      intro j v hv
      have hj : j < n := by have := (List.getElem?_eq_some_iff.1 hv).1; simpa [hlen] using this
      obtain ⟨b, o, e, hc⟩ := hr.cell j hj
      injection e with e
      subst e
      rw [Addr.add_lit, hc]
      rw [List.getElem?_map, List.getElem?_eq_getElem (by omega)] at hv
      rw [List.getD_eq_getElem?_getD, List.getElem?_eq_getElem (by omega)]; exact hv
    have hrun := run_append_grow (P := Try.prog) w 23 ty 4 i (.bool false) boolsT hi hz0 x0 0 0 [] (by simp) (by simp) x n c (l.map Value.bool) (by simp [hlen, hz1]) hcell (by omega) (by omega) (growslice_fits (by omega) (by rw [hz2]; omega))
    rw [Nat.zero_add] at hrun
    refine ⟨_, _, hrun, ⟨_, _, rfl, ⟨hlen, ?_, ?_, fun j hj => ⟨w.heap.size, 0, rfl, ?_⟩, fun h => by cases h⟩, fun q hq _ => ?_⟩, ?_⟩
    · exact grownCap_ge w n 0 4
    · exact grownCap_le_maxLen w n 0 4 (by unfold maxLen; omega)
    · rw [Nat.zero_add, show w.heap.size = w.drew.heap.size from rfl, cell_of_row _ _ _ _ _ _ (heap_alloc_new w.drew _), Array.getElem?_append_left (by simp; omega)]
      simp [hlen, hj, List.getD_eq_getElem?_getD]
    · injection hq with hq
      subst hq
      exact ⟨Nat.le_refl _, by simp⟩
    · exact ((⟨rfl, rfl, rfl, Nat.le_refl _, fun _ _ => rfl⟩ : Below w.heap.size w w.drew)).alloc (Nat.le_refl _) _
section
variable {ops : Array Oper} {rest : List Oper} {o : Oper} {a : Act} {Q : Exit → Act → World → Prop}
theorem app_bools (hg : o.guard = none) (s x : Operand) (ho : o.op = .call { callee := .builtin .append, args := #[s, x], argTypes := #[23, 23] }) (w : World) (y0 : Addr) (y : Option Addr) (n c : Nat) (l : List Bool)
    (hs : a.eval s = .slice (some y0) 0 0) (hx : a.eval x = .slice y n c) (hr : RdB w y n c l) (hn : n ≤ 1099511627776)
    (h : ∀ v w', NewB w w' v n l → wpList Try.prog ops Q rest (a.put o.dst v) w') : wpList Try.prog ops Q (o :: rest) a w := by
  refine wpList_plain hg fun K hK => ?_
  obtain ⟨v', w', hrun, h1⟩ := run_app_bools o.type w y0 y n c l hr hn
  unfold Oper.wp execOp
  simp only [ho, resolve, invoke, builtin, Sem.run_bind, Sem.run_pure, Result.andThen_ok, List.map_toArray, List.map_cons, List.map_nil, hs, hx, hrun]
  exact hK _ _ (h v' w' h1)
end
/-- Ends with a new slice of bools. -/
def GivesB (n : Nat) (l : List Bool) (w : World) (e : Ending) (w' : World) : Prop := ∃ v, e = .returned v ∧ NewB w w' v n l
theorem cloneB_any (a : Option Addr) (n c : Nat) (l : List Bool) (w : World) (h : RdB w a n c l) (hn : n ≤ 1000000000) :
    Calls Try.prog 40 #[.slice a n c] w (GivesB n l w) := by
  cases a with
  | none =>
    obtain rfl : c = 0 := h.void rfl
    have hcap := h.cap
    obtain rfl : n = 0 := by omega
    exact (clone_nil w).mono fun e w' ⟨he, hw⟩ => ⟨_, he, ⟨none, 0, rfl, by rw [← hw]; exact h, fun q hq => by cases hq⟩, by rw [← hw]; exact Below.refl _ _⟩
  | some x =>
    have hnil := fun (w : World) (a : Option Addr) (n c : Nat) => Lib.run_eql_slice_nil (P := Try.prog) w 23 4 a n c 0 0 Try.underlying23
    have H := Lib.hid h
    clear h
    go_enter Try.func40, Try.ntmps40
    go_wp2_with (at_builtin; refine app_bools rfl _ _ rfl _ _ _ _ _ l rfl rfl (RdB.kept H.out (fun q hq h0 => heap_alloc_keep w _ (H.out.lt q hq h0))) (by omega) ?_; intro x1 w1 hb1)
    go_ret
    exact ⟨_, rfl, NewB.past hb1⟩
theorem armQ {w w1 w' : World} {Z : Nat → Prop} {d kb mb : Nat} {pv kv : Value} {vals pvs : List Value} {st : Dk} (p : DkP w Z d kb mb pv kv vals pvs st) (hz : ∀ k, Z k → k < w.heap.size) (hb : Below w.heap.size w w1) (kv2 : Value) (n : Nat) (kl : List Bool) (hk : NewB w w1 kv2 n kl)
    (hoth : ∀ x, x ≠ d → w'.heap[x]? = w1.heap[x]?) (hsz : w'.heap.size = w1.heap.size) (z : Int)
    (row : w'.heap[d]? = some (.cells #[.bool st.off, .int .i64 (if z < 1 then 1 else z), kv2, .int .i64 st.size, .slice (some ⟨kb, 0, none⟩) st.kept.length st.kept.length, pv, .map (some mb), .int .i64 st.writes, .int .i64 st.reads] 37 (0, 0))) (h2 : z ≤ 9223372036854775807) :
    DkIn w' (fun x => Z x ∨ (w.heap.size ≤ x ∧ x < w'.heap.size)) d (armS st z kl) := by
  have ho : ∀ x, Z x → x ≠ d → w'.heap[x]? = w.heap[x]? := fun x hx hne => by rw [hoth x hne, hb.block x (hz x hx)]
  have hm : ∀ x, Z x → ¬ MutD d kb mb pv x → w'.heap[x]? = w.heap[x]? := fun x hx h => ho x hx (fun e => h (.inl e))
  refine ⟨fun x hx => ?_, kb, mb, pv, kv2, vals, pvs, row, ?_, ?_, ?_, ?_, ?_, ?_, p.ne, p.rm, fun x hx => .inl (p.z x hx), ⟨p.ok.size, p.ok.n, p.ok.kept, p.ok.pend, ?_, p.ok.few, p.ok.writes, p.ok.reads⟩⟩
  · rcases hx with hx | hx
    · rw [hsz]; exact Nat.lt_of_lt_of_le (hz x hx) hb.size
    · exact hx.2
  · rw [ho kb (p.z kb (.inr (.inl rfl))) p.ne.1.symm]; exact p.krow
  · exact p.kvals.imp fun v l h => h.at hm (fun _ _ h => h) (fun _ h => .inl h)
  · exact ownsRow_at p.prow (fun g hg => ho g (p.z g (.inr (.inr (.inr hg)))) (p.rm g hg).1)
  · exact p.pvals.imp fun v l h => h.at hm (fun _ _ h => h) (fun _ h => .inl h)
  · exact p.map.at (ho mb (p.z mb (.inr (.inr (.inl rfl)))) p.ne.2.1.symm)
  · obtain ⟨a, c, hv, hr, hq⟩ := hk.ex
    have hdw : d < w.heap.size := hz d (p.z d (.inl rfl))
    refine ⟨a, n, c, hv, hr.kept (fun x hx h0 => hoth _ (fun e => ?_)), fun q hqa h0 => ⟨fun hmm => ?_, .inr ⟨(hq q hqa h0).1, ?_⟩⟩⟩
    · have := (hq x hx h0).1
      omega
    · have := hz _ (p.z _ hmm)
      have := (hq q hqa h0).1
      omega
    · rw [hsz]; exact (hq q hqa h0).2
  · show 0 ≤ (if z < 1 then 1 else z) ∧ (if z < 1 then 1 else z) ≤ 9223372036854775807
    split <;> omega
set_option linter.unusedSimpArgs false in
set_option linter.unusedVariables false in
set_option maxRecDepth 100000 in
set_option maxHeartbeats 2000000 in
theorem arm_any (Z : Nat → Prop) (d : Nat) (st : Dk) (z : Int) (a : Option Addr) (n c : Nat) (kl : List Bool) (w : World) (h : DkIn w Z d st) (hk : RdB w a n c kl) (hn : n ≤ 1000000000) (h1 : -9223372036854775808 ≤ z) (h2 : z ≤ 9223372036854775807) :
    Calls Try.prog 15 #[.pointer (some ⟨d, 0, none⟩), .int .i64 z, .slice a n c] w fun e w' => e = .returned (.tuple #[]) ∧ ∃ Z', DkIn w' Z' d (armS st z kl) ∧ Tnd Z Z' w w' := by
  obtain ⟨hz, kb, mb, pv, kv, vals, pvs, p⟩ := h
  have P := Lib.hid p
  have K := Lib.hid hk
  have hZd := hz d (p.z d (.inl rfl))
  have HD := Lib.hid (p.z d (.inl rfl))
  by_cases hn1 : z < 1
  · have e1 : (if z < 1 then 1 else z) = 1 := if_pos hn1
    have e2 : (max z 1 : Int) = 1 := by omega
    clear p hk
    go_enter Try.func15, Try.ntmps15
    go_wp2_with fail
    refine (cloneB_any a n c kl _ K.out hn).mono ?_
    rintro e w1 ⟨v, rfl, hnb⟩
    obtain ⟨a1, c1, hv, _⟩ := hnb.ex
    subst hv
    have NB := Lib.hid hnb
    have hrow := row_keep P.out.row hnb.below
    obtain ⟨y0, y1, y2, y3, y4, y5, y6, y7, y8, cf⟩ := cellsD hrow
    have HROW := Lib.hid hrow
    have HE := Lib.hid e1
    clear hnb hrow e1
    go_wp2_with fail

    go_end0
    have hoth : ∀ x, x ≠ d → ((w1.setCell ⟨d, 1, none⟩ (.int .i64 1)).setCell ⟨d, 2, none⟩ (.slice a1 n c1)).heap[x]? = w1.heap[x]? := fun x hne => by
      rw [heap_setCell_other _ ⟨d, 2, none⟩ x _ hne, heap_setCell_other w1 ⟨d, 1, none⟩ x _ hne]
    refine ⟨rfl, _, armQ P.out hz NB.out.below (.slice a1 n c1) n kl NB.out hoth (by simp) z (by
      rw [HE.out, heap_setCell_same _ d 2 _ _ _ (heap_setCell_same w1 d 1 _ _ _ HROW.out)]
      simp) h2, ⟨NB.out.below.os, NB.out.below.tape, NB.out.below.output, by simpa using NB.out.below.size, fun x hx hzx => ?_, fun x h => h.imp id (·.1)⟩⟩
    rw [hoth x (fun e => hzx (by rw [e]; exact HD.out))]
    exact NB.out.below.block x hx
  · have e1 : (if z < 1 then 1 else z) = z := if_neg hn1
    clear p hk
    go_enter Try.func15, Try.ntmps15
    go_wp2_with fail
    refine (cloneB_any a n c kl _ K.out hn).mono ?_
    rintro e w1 ⟨v, rfl, hnb⟩
    obtain ⟨a1, c1, hv, _⟩ := hnb.ex
    subst hv
    have NB := Lib.hid hnb
    have hrow := row_keep P.out.row hnb.below
    obtain ⟨y0, y1, y2, y3, y4, y5, y6, y7, y8, cf⟩ := cellsD hrow
    have HROW := Lib.hid hrow
    have HE := Lib.hid e1
    clear hnb hrow e1
    go_wp2_with fail

    go_end0
    have hoth : ∀ x, x ≠ d → ((w1.setCell ⟨d, 1, none⟩ (.int .i64 z)).setCell ⟨d, 2, none⟩ (.slice a1 n c1)).heap[x]? = w1.heap[x]? := fun x hne => by
      rw [heap_setCell_other _ ⟨d, 2, none⟩ x _ hne, heap_setCell_other w1 ⟨d, 1, none⟩ x _ hne]
    refine ⟨rfl, _, armQ P.out hz NB.out.below (.slice a1 n c1) n kl NB.out hoth (by simp) z (by
      rw [HE.out, heap_setCell_same _ d 2 _ _ _ (heap_setCell_same w1 d 1 _ _ _ HROW.out)]
      simp) h2, ⟨NB.out.below.os, NB.out.below.tape, NB.out.below.output, by simpa using NB.out.below.size, fun x hx hzx => ?_, fun x h => h.imp id (·.1)⟩⟩
    rw [hoth x (fun e => hzx (by rw [e]; exact HD.out))]
    exact NB.out.below.block x hx
end Go.Proofs.Ytpgncmoagmkcmaa
