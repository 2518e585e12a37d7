/- disk: New, Arm. -/
import Derived.Test.YtpgncmoagmkcmaaDkD
namespace Go.Proofs.Ytpgncmoagmkcmaa
open Go.RowKit
theorem secI : (Try.prog.info? 22).map (fun i => (i.zero, i.size, i.bytes)) = some (some (.slice none 0 0), 1, 24) := by kernel_rfl
theorem mk_secs (n : Nat) (hn : n ≤ 1000000) (w : World) : (Instr.makeSlice 33 (.int .i64 (n : Int)) (.int .i64 (n : Int))).run Try.prog w = .ok (.slice (some ⟨w.heap.size, 0, none⟩) n n) (w.alloc (.cells (List.replicate n (.slice none 0 0)).toArray 22)) := by
  obtain ⟨i, hi, hz, hs, hb⟩ := info_parts secI
  have hr := run_make (P := Try.prog) w 33 22 i (.slice none 0 0) secT hi hz .i64 .i64 n n (by omega) (Int.le_refl _) (by rw [hb]; omega) (by omega)
  rw [hr, hs, Int.toNat_natCast, Nat.mul_one]
  congr 4
  rw [show (Value.slice none 0 0).cells = #[.slice none 0 0] from rfl, ← toList_madeCells_one]
def rightB (n size : Int) : Bool := decide (1 ≤ n) && decide (n ≤ 65536) && decide (64 ≤ size) && decide (size ≤ 4096)
def dk0 (n size : Nat) : Dk := ⟨false, 0, [], size, List.replicate n (List.replicate size 0), [], 0, 0⟩
set_option linter.unusedSimpArgs false in
set_option linter.unusedVariables false in
set_option maxRecDepth 100000 in
set_option maxHeartbeats 2000000 in
theorem right_any (n size : Int) (w : World) : Calls Try.prog 33 #[.int .i64 n, .int .i64 size] w fun e w' => e = .returned (.bool (rightB n size)) ∧ w = w' := by
  have hE : rightB n size = (decide (1 ≤ n) && decide (n ≤ 65536) && decide (64 ≤ size) && decide (size ≤ 4096)) := rfl
  rw [hE]
  clear hE
  have key : ∀ b1 b2 b3 b4 : Bool, decide (1 ≤ n) = b1 → decide (n ≤ 65536) = b2 → decide (64 ≤ size) = b3 → decide (size ≤ 4096) = b4 → Calls Try.prog 33 #[.int .i64 n, .int .i64 size] w fun e w' => e = .returned (.bool (b1 && b2 && b3 && b4)) ∧ w = w' := by
    intro b1 b2 b3 b4 h1 h2 h3 h4
    cases b1 <;> cases b2 <;> cases b3 <;> cases b4
    all_goals
      go_enter Try.func33, Try.ntmps33
      go_wp2
      go_ret
      exact ⟨rfl, rfl⟩
  exact key _ _ _ _ rfl rfl rfl rfl
theorem new_no (n size : Int) (w : World) (h : rightB n size = false) : Calls Try.prog 9 #[.int .i64 n, .int .i64 size] w fun e w' => e = .returned (.tuple #[.pointer none, .int .i64 1]) ∧ w = w' := by
  go_enter Try.func9, Try.ntmps9
  go_wp2_with fail
  refine (right_any _ _ _).mono ?_
  rintro e w1 ⟨rfl, rfl⟩
  rw [h]
  go_wp2_with fail
  go_ret2
  exact ⟨rfl, rfl⟩
theorem dk0_ok (n size : Nat) (h : rightB n size = true) : DkOk (dk0 n size) := by
  unfold rightB at h
  simp only [Bool.and_eq_true, decide_eq_true_eq] at h
  refine ⟨⟨by show 64 ≤ size; omega, by show size ≤ 4096; omega⟩, ⟨?_, ?_⟩, fun l hl => ?_, (fun _ h => by cases h), ⟨(show (0:Int) ≤ 0 by decide), (show (0:Int) ≤ 9223372036854775807 by decide)⟩, Nat.zero_le _, ⟨(show (0:Int) ≤ 0 by decide), (show (0:Int) ≤ 4611686018427387904 by decide)⟩, ⟨(show (0:Int) ≤ 0 by decide), (show (0:Int) ≤ 4611686018427387904 by decide)⟩⟩
  · show 1 ≤ (List.replicate n _).length
    rw [List.length_replicate]; omega
  · show (List.replicate n _).length ≤ 65536
    rw [List.length_replicate]; omega
  · rw [List.eq_of_mem_replicate (show l ∈ List.replicate n _ from hl), List.length_replicate]
    rfl
theorem dk0_at (n size : Nat) (w : World) (h : rightB n size = true) (kb mb d : Nat) (hkb : kb < w.heap.size) (hmb : mb < w.heap.size) (hd : d < w.heap.size) (B : Nat) (hB : B ≤ kb ∧ B ≤ mb ∧ B ≤ d) (hne : d ≠ kb ∧ d ≠ mb ∧ kb ≠ mb)
    (hk : w.heap[kb]? = some (.cells (List.replicate n (.slice none 0 0)).toArray 22 (0, 0))) (hm : MapAt w mb (fun _ => none))
    (hr : w.heap[d]? = some (.cells #[.bool false, .int .i64 0, .slice none 0 0, .int .i64 size, .slice (some ⟨kb, 0, none⟩) n n, .slice none 0 0, .map (some mb), .int .i64 0, .int .i64 0] 37 (0, 0))) :
    DkIn w (fun k => B ≤ k ∧ k < w.heap.size) d (dk0 n size) := by
  refine ⟨fun k hk => hk.2, kb, mb, .slice none 0 0, .slice none 0 0, List.replicate n (.slice none 0 0), [], ?_, hk, ?_, World.ownsRow_nil _ _ _ _, All2.nil _, hm.congr (fun _ => rfl), ⟨none, 0, 0, rfl, ⟨rfl, Nat.le_refl _, by unfold maxLen; omega, fun i hi => by omega, fun _ => rfl⟩, fun q hq => by cases hq⟩, hne, (fun g hg => by cases hg), fun b hb => ?_, dk0_ok n size h⟩
  · rw [hr]
    show _ = some (Obj.cells #[_, _, _, _, .slice _ (List.replicate n _).length (List.replicate n _).length, _, _, _, _] _ _)
    rw [List.length_replicate]
    rfl
  · refine ⟨by show _ = (List.replicate n _).length; simp, fun i a b ha hb => ?_⟩
    have hb' : (List.replicate n (List.replicate size (0 : Int)))[i]? = some b := hb
    rw [List.getElem?_replicate] at ha hb'
    by_cases hi : i < n
    · rw [if_pos hi] at ha hb'
      injection ha with ha
      injection hb' with hb'
      exact .inl ⟨ha.symm, hb'.symm⟩
    · rw [if_neg hi] at ha
      cases ha
  · rcases hb with hb | hb | hb | hb
    · subst hb; exact ⟨hB.2.2, hd⟩
    · subst hb; exact ⟨hB.1, hkb⟩
    · subst hb; exact ⟨hB.2.1, hmb⟩
    · cases hb
set_option linter.unusedSimpArgs false in
set_option linter.unusedVariables false in
set_option maxRecDepth 100000 in
set_option maxHeartbeats 2000000 in
theorem new_any (n size : Nat) (w : World) (h : rightB n size = true) : Calls Try.prog 9 #[.int .i64 n, .int .i64 size] w fun e w' => ∃ d Z, e = .returned (.tuple #[.pointer (some ⟨d, 0, none⟩), .int .i64 0]) ∧ DkIn w' Z d (dk0 n size) ∧ (∀ k, Z k → w.heap.size ≤ k) ∧ Below w.heap.size w w' := by
  have hn : n ≤ 1000000 := by
    unfold rightB at h
    simp only [Bool.and_eq_true, decide_eq_true_eq] at h
    omega
  have hmk := mk_secs n hn
  have hmm := @run_makeMap Try.prog
  have H := Lib.hid h
  clear h
  go_enter Try.func9, Try.ntmps9
  go_wp2_with fail
  refine (right_any _ _ _).mono ?_
  rintro e w1 ⟨rfl, rfl⟩
  rw [H.out]
  go_wp2_with fail
  go_ret2
  generalize hA : (w.alloc (.cells (Array.replicate n (.slice none 0 0)) 22)) = wA
  have hsA : wA.heap.size = w.heap.size + 1 := by rw [← hA]; simp
  have hbA : Below w.heap.size w wA := by rw [← hA]; exact (Below.refl _ _).alloc (Nat.le_refl _) _
  have hkA : wA.heap[w.heap.size]? = some (.cells (List.replicate n (.slice none 0 0)).toArray 22 (0, 0)) := by
    rw [← hA, List.toArray_replicate]; exact heap_alloc_new _ _
  generalize hB : wA.alloc (.map #[] 0) = wB
  have hsB : wB.heap.size = w.heap.size + 1 + 1 := by rw [← hB]; simp [hsA]
  have hbB : Below wA.heap.size wA wB := by rw [← hB]; exact (Below.refl _ _).alloc (Nat.le_refl _) _
  have hmB : MapAt wB (w.heap.size + 1) (fun _ => none) := by rw [← hB, ← hsA]; exact map_made wA
  generalize hC : wB.alloc (.cells #[.bool false, .int .i64 0, .slice none 0 0, .int .i64 size, .slice (some ⟨w.heap.size, 0, none⟩) n n, .slice none 0 0, .map (some (w.heap.size + 1)), .int .i64 0, .int .i64 0] 37) = wC
  have hsC : wC.heap.size = w.heap.size + 1 + 1 + 1 := by rw [← hC]; simp [hsB]
  have hbC : Below wB.heap.size wB wC := by rw [← hC]; exact (Below.refl _ _).alloc (Nat.le_refl _) _
  have hrC := heap_alloc_new wB (.cells #[.bool false, .int .i64 0, .slice none 0 0, .int .i64 size, .slice (some ⟨w.heap.size, 0, none⟩) n n, .slice none 0 0, .map (some (w.heap.size + 1)), .int .i64 0, .int .i64 0] 37)
  rw [hC, hsB] at hrC
  refine ⟨w.heap.size + 1 + 1, _, rfl, dk0_at n size wC H.out w.heap.size (w.heap.size + 1) _ (by omega) (by omega) (by omega) w.heap.size ⟨by omega, by omega, by omega⟩ ⟨by omega, by omega, by omega⟩ ?_ ?_ hrC, fun k hk => hk.1, ?_⟩
  · exact row_keep (row_keep hkA hbB) hbC
  · exact hmB.at (hbC.block _ (by omega))
  · exact Below.call (Below.call hbA hbB) hbC
def armS (st : Dk) (n : Int) (keep : List Bool) : Dk := { st with armed := if n < 1 then 1 else n, keep := keep }
set_option linter.unusedSimpArgs false in
set_option linter.unusedVariables false in
set_option maxRecDepth 100000 in
set_option maxHeartbeats 2000000 in
theorem armP {w w' : World} {Z : Nat → Prop} {d kb mb : Nat} {pv kv : Value} {vals pvs : List Value} {st : Dk} (p : DkP w Z d kb mb pv kv vals pvs st) (hoth : ∀ x, Z x → x ≠ d → w'.heap[x]? = w.heap[x]?) (n : Int)
    (row : w'.heap[d]? = some (.cells #[.bool st.off, .int .i64 (if n < 1 then 1 else n), .slice none 0 0, .int .i64 st.size, .slice (some ⟨kb, 0, none⟩) st.kept.length st.kept.length, pv, .map (some mb), .int .i64 st.writes, .int .i64 st.reads] 37 (0, 0))) (h2 : n ≤ 9223372036854775807) :
    DkP w' Z d kb mb pv (.slice none 0 0) vals pvs (armS st n []) := by
  have hm : ∀ x, Z x → ¬ MutD d kb mb pv x → w'.heap[x]? = w.heap[x]? := fun x hx h => hoth x hx (fun e => h (.inl e))
  refine ⟨row, ?_, ?_, ?_, ?_, ?_, ⟨none, 0, 0, rfl, ⟨rfl, Nat.le_refl _, by unfold maxLen; omega, fun i hi => by omega, fun _ => rfl⟩, fun q hq => by cases hq⟩, p.ne, p.rm, p.z, ⟨p.ok.size, p.ok.n, p.ok.kept, p.ok.pend, ?_, p.ok.few, p.ok.writes, p.ok.reads⟩⟩
  · rw [hoth kb (p.z kb (.inr (.inl rfl))) p.ne.1.symm]; exact p.krow
  · exact p.kvals.imp fun v l h => h.at hm (fun _ _ h => h) (fun _ h => h)
  · exact ownsRow_at p.prow (fun g hg => hoth g (p.z g (.inr (.inr (.inr hg)))) (p.rm g hg).1)
  · exact p.pvals.imp fun v l h => h.at hm (fun _ _ h => h) (fun _ h => h)
  · exact p.map.at (hoth mb (p.z mb (.inr (.inr (.inl rfl)))) p.ne.2.1.symm)
  · show 0 ≤ (if n < 1 then 1 else n) ∧ (if n < 1 then 1 else n) ≤ 9223372036854775807
    split <;> omega
theorem clone_nil (w : World) : Calls Try.prog 40 #[.slice none 0 0] w fun e w' => e = .returned (.slice none 0 0) ∧ w = w' := by
  have hnil := fun (w : World) (a : Option Addr) (n c : Nat) => Lib.run_eql_slice_nil (P := Try.prog) w 23 4 a n c 0 0 Try.underlying23
  go_enter Try.func40, Try.ntmps40
  go_wp2
  go_ret
  exact ⟨rfl, rfl⟩
set_option linter.unusedSimpArgs false in
set_option linter.unusedVariables false in
set_option maxRecDepth 100000 in
set_option maxHeartbeats 2000000 in
theorem arm_nil (Z : Nat → Prop) (d : Nat) (st : Dk) (n : Int) (w : World) (h : DkIn w Z d st) (h1 : -9223372036854775808 ≤ n) (h2 : n ≤ 9223372036854775807) : Calls Try.prog 15 #[.pointer (some ⟨d, 0, none⟩), .int .i64 n, .slice none 0 0] w fun e w' => e = .returned (.tuple #[]) ∧ DkIn w' Z d (armS st n []) ∧ Tnd Z Z w w' := by
  obtain ⟨hz, kb, mb, pv, kv, vals, pvs, p⟩ := h
  obtain ⟨c0, c1, c2, c3, c4, c5, c6, c7, c8, cf⟩ := cellsD p.row
  have P := Lib.hid p
  have hZm := p.z
  clear p
  by_cases hn1 : n < 1
  · have e1 : (if n < 1 then 1 else n) = 1 := if_pos hn1
    have e2 : (max n 1 : Int) = 1 := by omega
    go_enter Try.func15, Try.ntmps15
    go_wp2_with fail
    refine (clone_nil _).mono ?_
    rintro e w1 ⟨rfl, rfl⟩
    go_wp2_with fail
    go_end0
    have hoth : ∀ x, x ≠ d → ((w.setCell ⟨d, 1, none⟩ (.int .i64 1)).setCell ⟨d, 2, none⟩ (.slice none 0 0)).heap[x]? = w.heap[x]? := fun x hne => by
      rw [heap_setCell_other _ ⟨d, 2, none⟩ x _ hne, heap_setCell_other w ⟨d, 1, none⟩ x _ hne]
    have hrow : ((w.setCell ⟨d, 1, none⟩ (.int .i64 1)).setCell ⟨d, 2, none⟩ (.slice none 0 0)).heap[d]? = some (.cells #[.bool st.off, .int .i64 1, .slice none 0 0, .int .i64 st.size, .slice (some ⟨kb, 0, none⟩) st.kept.length st.kept.length, pv, .map (some mb), .int .i64 st.writes, .int .i64 st.reads] 37 (0, 0)) := by
      rw [heap_setCell_same _ d 2 _ _ _ (heap_setCell_same w d 1 _ _ _ P.out.row)]
      simp
    refine ⟨rfl, ⟨fun x hx => by simpa using hz x hx, kb, mb, pv, .slice none 0 0, vals, pvs, armP P.out (fun x _ hne => hoth x hne) n (by rw [e1]; exact hrow) (by omega)⟩, ⟨rfl, rfl, rfl, by simp, fun x _ hzx => hoth x (fun e => hzx (by rw [e]; exact hZm d (.inl rfl))), fun x h => .inl h⟩⟩
  · have e1 : (if n < 1 then 1 else n) = n := if_neg hn1
    go_enter Try.func15, Try.ntmps15
    go_wp2_with fail
    refine (clone_nil _).mono ?_
    rintro e w1 ⟨rfl, rfl⟩
    go_wp2_with fail
    go_end0
    have hoth : ∀ x, x ≠ d → ((w.setCell ⟨d, 1, none⟩ (.int .i64 n)).setCell ⟨d, 2, none⟩ (.slice none 0 0)).heap[x]? = w.heap[x]? := fun x hne => by
      rw [heap_setCell_other _ ⟨d, 2, none⟩ x _ hne, heap_setCell_other w ⟨d, 1, none⟩ x _ hne]
    have hrow : ((w.setCell ⟨d, 1, none⟩ (.int .i64 n)).setCell ⟨d, 2, none⟩ (.slice none 0 0)).heap[d]? = some (.cells #[.bool st.off, .int .i64 n, .slice none 0 0, .int .i64 st.size, .slice (some ⟨kb, 0, none⟩) st.kept.length st.kept.length, pv, .map (some mb), .int .i64 st.writes, .int .i64 st.reads] 37 (0, 0)) := by
      rw [heap_setCell_same _ d 2 _ _ _ (heap_setCell_same w d 1 _ _ _ P.out.row)]
      simp
    refine ⟨rfl, ⟨fun x hx => by simpa using hz x hx, kb, mb, pv, .slice none 0 0, vals, pvs, armP P.out (fun x _ hne => hoth x hne) n (by rw [e1]; exact hrow) (by omega)⟩, ⟨rfl, rfl, rfl, by simp, fun x _ hzx => hoth x (fun e => hzx (by rw [e]; exact hZm d (.inl rfl))), fun x h => .inl h⟩⟩
end Go.Proofs.Ytpgncmoagmkcmaa
