/- disk: the reference's New, Arm, Read. -/
import Derived.Test.YtpgncmoagmkcmaaRkCut
import Derived.Test.YtpgncmoagmkcmaaDkOf
import Derived.Test.YtpgncmoagmkcmaaDkData
namespace Go.Proofs.Ytpgncmoagmkcmaa
open Go.RowKit
theorem chunk_flatZ : ∀ (K : List (List Int)) (z : Nat), (∀ x ∈ K, x.length = z) → ∀ (i : Nat) (y : List Int), K[i]? = some y → chunk K.flatten z i = y
  | [], z, hl, i, y, h => by simp at h
  | x :: K, z, hl, 0, y, h => by
    simp at h
    have := hl x (by simp)
    unfold chunk
    rw [List.flatten_cons, Nat.zero_mul, List.drop_zero, List.take_append_of_le_length (by omega), ← h, List.take_of_length_le (by omega)]
  | x :: K, z, hl, i + 1, y, h => by
    simp at h
    have h1 := hl x (by simp)
    have h2 := chunk_flatZ K z (fun z hz => hl z (by simp [hz])) i y h
    unfold chunk at h2 ⊢
    rw [List.flatten_cons, Nat.succ_mul, List.drop_append, List.drop_of_length_le (by omega), List.nil_append, show i * z + z - x.length = i * z by omega]
    exact h2
theorem flat_rep (n z : Nat) : (List.replicate n (List.replicate z (0 : Int))).flatten = List.replicate (n * z) 0 := by
  induction n with
  | zero => simp
  | succ n ih => rw [List.replicate_succ, List.flatten_cons, ih, Nat.succ_mul, List.replicate_append_replicate, Nat.add_comm]
set_option linter.unusedSimpArgs false in
set_option linter.unusedVariables false in
set_option maxRecDepth 100000 in
set_option maxHeartbeats 4000000 in
theorem rnew_no (n size : Int) (w : World) (h : rightB n size = false) : Calls Try.prog 26 #[.int .i64 n, .int .i64 size] w fun e w' => e = .returned (.tuple #[.pointer none, .int .i64 1]) ∧ w = w' := by
  have hc : n < 1 ∨ 65536 < n ∨ size < 64 ∨ 4096 < size := by
    unfold rightB at h
    simp only [Bool.and_eq_false_iff, decide_eq_false_iff_not] at h
    omega
  by_cases h0 : n < 1
  · have d0 : decide (n < 1) = true := decide_eq_true h0
    clear h hc
    go_enter Try.func26, Try.ntmps26
    go_wp2
    go_ret2
    exact ⟨rfl, rfl⟩
  have d0 : decide (n < 1) = false := decide_eq_false h0
  by_cases h1 : 65536 < n
  · have d1 : decide (65536 < n) = true := decide_eq_true h1
    clear h hc
    go_enter Try.func26, Try.ntmps26
    go_wp2
    go_ret2
    exact ⟨rfl, rfl⟩
  have d1 : decide (65536 < n) = false := decide_eq_false h1
  by_cases h2 : size < 64
  · have d2 : decide (size < 64) = true := decide_eq_true h2
    clear h hc
    go_enter Try.func26, Try.ntmps26
    go_wp2
    go_ret2
    exact ⟨rfl, rfl⟩
  have d2 : decide (size < 64) = false := decide_eq_false h2
  have d3 : decide (4096 < size) = true := decide_eq_true (by omega)
  clear h hc
  go_enter Try.func26, Try.ntmps26
  go_wp2
  go_ret2
  exact ⟨rfl, rfl⟩
set_option linter.unusedSimpArgs false in
set_option linter.unusedVariables false in
set_option maxRecDepth 100000 in
set_option maxHeartbeats 4000000 in
theorem rnew_any (n size : Nat) (w : World) (h : rightB n size = true) (hb : n * size ≤ 1000000) : Calls Try.prog 26 #[.int .i64 n, .int .i64 size] w fun e w' => ∃ r Z, e = .returned (.tuple #[.pointer (some ⟨r, 0, none⟩), .int .i64 0]) ∧ RkIn w' Z r (dk0 n size) ∧ (∀ k, Z k → w.heap.size ≤ k) ∧ Below w.heap.size w w' := by
  have hh : 1 ≤ n ∧ n ≤ 65536 ∧ 64 ≤ size ∧ size ≤ 4096 := by
    unfold rightB at h
    simp only [Bool.and_eq_true, decide_eq_true_eq] at h
    omega
  have d0 : decide ((n : Int) < 1) = false := decide_eq_false (by omega)
  have d1 : decide ((65536 : Int) < n) = false := decide_eq_false (by omega)
  have d2 : decide ((size : Int) < 64) = false := decide_eq_false (by omega)
  have d3 : decide ((4096 : Int) < size) = false := decide_eq_false (by omega)
  obtain ⟨N, hN⟩ : ∃ N, n * size = N := ⟨_, rfl⟩
  have g1 : (n : Int) * (size : Int) = (N : Int) := by rw [← hN, Int.natCast_mul]
  have g2 : IntKind.i64.wrap (N : Int) = N := by rw [IntKind.wrap_i64]; omega
  have HN := Lib.hid hN
  rw [hN] at hb
  clear h hN
  go_enter Try.func26, Try.ntmps26
  go_wp2_with fail
  obtain ⟨w1, hr1, hu1, hb1⟩ := mkN N hb w
  rw [hr1]
  obtain ⟨bb, hbb⟩ : ∃ bb, w.heap.size = bb := ⟨_, rfl⟩
  rw [hbb] at hu1 ⊢
  have U1 := Lib.hid hu1
  have B1 := Lib.hid hb1
  have HBB := Lib.hid hbb
  clear hr1 hu1 hb1 hbb
  go_wp2_with fail
  go_ret2
  have hbl : bb < w1.heap.size := (Array.getElem?_eq_some_iff.1 U1.out.1).1
  have hbu : ∀ o : Obj, (w1.alloc o).heap[bb]? = w1.heap[bb]? := fun o => heap_alloc_keep w1 o hbl
  have hfl : (dk0 n size).kept.flatten = List.replicate N 0 := by
    show (List.replicate n (List.replicate size (0 : Int))).flatten = _
    rw [flat_rep, HN.out]
  refine ⟨w1.heap.size, fun k => k = w1.heap.size ∨ k = bb, rfl, ⟨fun k hk => ?_, bb, .slice none 0 0, .slice none 0 0, [], ?_, ?_, ?_, World.ownsRow_nil _ _ _ _, All2.nil _, ⟨none, 0, 0, rfl, ⟨rfl, Nat.le_refl _, by unfold maxLen; omega, fun i hi => by omega, fun _ => rfl⟩, fun q hq => by cases hq⟩, by omega, (fun g hg => by cases hg), fun b hb => ?_, ?_⟩, fun k hk => ?_, ?_⟩
  · rcases hk with rfl | rfl
    · simp
    · simp; omega
  · rw [heap_alloc_new, hfl]
    show some (Obj.cells #[.int .i64 (n : Int), .int .i64 (size : Int), .slice (some ⟨bb, 0, none⟩) N N, .slice none 0 0, .bool false, .int .i64 0, .slice none 0 0, .int .i64 0, .int .i64 0] _ _) = some (Obj.cells #[.int .i64 ((List.replicate n (List.replicate size (0 : Int))).length : Nat), .int .i64 (size : Int), .slice (some ⟨bb, 0, none⟩) (List.replicate N (0 : Int)).length (List.replicate N (0 : Int)).length, .slice none 0 0, .bool false, .int .i64 0, .slice none 0 0, .int .i64 0, .int .i64 0] _ _)
    rw [List.length_replicate, List.length_replicate]
  · rw [hbu, hfl]; exact U1.out.1
  · rw [hfl]; exact U1.out.2.1
  · rcases hb with h | h | h
    · exact .inl h
    · exact .inr h
    · cases h
  · refine ⟨⟨hh.2.2.1, hh.2.2.2⟩, ?_, fun l hl => ?_, (fun q hq => by cases hq), ?_, Nat.zero_le _, ?_, ?_⟩
    · show 1 ≤ (List.replicate n _).length ∧ (List.replicate n _).length ≤ 65536
      rw [List.length_replicate]; omega
    · have := List.eq_of_mem_replicate (show l ∈ List.replicate n (List.replicate size (0 : Int)) from hl)
      rw [this, List.length_replicate]
      rfl
    · show (0 : Int) ≤ 0 ∧ (0 : Int) ≤ _; omega
    · show (0 : Int) ≤ 0 ∧ (0 : Int) ≤ _; omega
    · show (0 : Int) ≤ 0 ∧ (0 : Int) ≤ _; omega
  · rcases hk with rfl | rfl
    · exact B1.out.size
    · rw [HBB.out]; exact Nat.le_refl _
  · exact B1.out.alloc B1.out.size _
set_option linter.unusedSimpArgs false in
set_option linter.unusedVariables false in
set_option maxRecDepth 100000 in
set_option maxHeartbeats 4000000 in
theorem rarm_any (Z : Nat → Prop) (r : Nat) (st : Dk) (z : Int) (a : Option Addr) (n c : Nat) (kl : List Bool) (w : World) (h : RkIn w Z r st) (hk : RdB w a n c kl) (hn : n ≤ 1000000000) (hkr : ∀ q, a = some q → 0 < n → ¬ Z q.block) (h1 : -9223372036854775808 ≤ z) (h2 : z ≤ 9223372036854775807) :
    Calls Try.prog 29 #[.pointer (some ⟨r, 0, none⟩), .int .i64 z, .slice a n c] w fun e w' => e = .returned (.tuple #[]) ∧ ∃ Z', RkIn w' Z' r (armS st z kl) ∧ Tnd Z Z' w w' := by
  obtain ⟨hz, bb, lv, kv, pvs, p⟩ := h
  obtain ⟨c0, c1, c2, c3, c4, c5, c6, c7, c8, cf⟩ := cellsD p.row
  have P := Lib.hid p
  have K := Lib.hid hk
  have HZr := Lib.hid (p.z r (.inl rfl))
  have hrl := hz r (p.z r (.inl rfl))
  have HKR : Hid (∀ q, a = some q → 0 < n → q.block ≠ r) := fun q hq h0 e => hkr q hq h0 (by rw [e]; exact p.z r (.inl rfl))
  have fin : ∀ (w1 : World) (v : Value) (z' : Int), (if z < 1 then 1 else z) = z' → NewB ((w.setCell ⟨r, 5, none⟩ (.int .i64 z'))) w1 v n kl → ∃ Z', RkIn (w1.setCell ⟨r, 6, none⟩ v) Z' r (armS st z kl) ∧ Tnd Z Z' w (w1.setCell ⟨r, 6, none⟩ v) := by
    intro w1 v z' hz' hnb
    have hsz : w.heap.size ≤ w1.heap.size := by simpa using hnb.below.size
    have hoth : ∀ x, x < w.heap.size → x ≠ r → (w1.setCell ⟨r, 6, none⟩ v).heap[x]? = w.heap[x]? := fun x hx hne => by
      rw [heap_setCell_other w1 ⟨r, 6, none⟩ x _ hne, hnb.below.block x (by simpa using hx), heap_setCell_other w ⟨r, 5, none⟩ x _ hne]
    have hm : ∀ x, Z x → ¬ MutR r bb lv x → (w1.setCell ⟨r, 6, none⟩ v).heap[x]? = w.heap[x]? := fun x hx h => hoth x (hz x hx) (fun e => h (.inl e))
    refine ⟨fun x => Z x ∨ (w.heap.size ≤ x ∧ x < w1.heap.size), ⟨fun x hx => ?_, bb, lv, v, pvs, ?_, ?_, P.out.bwf, ?_, ?_, ?_, P.out.ne, P.out.rm, fun x hx => .inl (P.out.z x hx), ⟨P.out.ok.size, P.out.ok.n, P.out.ok.kept, P.out.ok.pend, ?_, P.out.ok.few, P.out.ok.writes, P.out.ok.reads⟩⟩, ⟨hnb.below.os, hnb.below.tape, hnb.below.output, by simpa using hsz, fun x hx hzx => hoth x hx (fun e => hzx (by rw [e]; exact HZr.out)), fun x h => h.imp id (·.1)⟩⟩
    · rcases hx with hx | hx
      · have := hz x hx; simp; omega
      · simp; exact hx.2
    · have hr0 : (w.setCell ⟨r, 5, none⟩ (.int .i64 z')).heap[r]? = _ := heap_setCell_same w r 5 _ _ _ P.out.row
      have hr1 := row_keep hr0 hnb.below
      rw [heap_setCell_same w1 r 6 _ _ _ hr1]
      unfold armS
      rw [hz']
      simp
    · rw [hoth bb (hz bb (P.out.z bb (.inr (.inl rfl)))) P.out.ne.symm]; exact P.out.brow
    · exact ownsRow_at P.out.prow (fun g hg => hoth g (hz g (P.out.z g (.inr (.inr hg)))) (P.out.rm g hg).1)
    · exact P.out.pvals.imp fun v l h => h.at hm (fun _ _ h => h) (fun _ h => .inl h)
    · obtain ⟨a', c', hv, hr, hq⟩ := hnb.ex
      have hqq : ∀ q, a' = some q → 0 < n → w.heap.size ≤ q.block ∧ q.block < w1.heap.size := fun q e h0 => by simpa using hq q e h0
      refine ⟨a', n, c', hv, hr.kept (fun x hx h0 => heap_setCell_other w1 ⟨r, 6, none⟩ x.block _ (fun e => ?_)), fun q hqa h0 => ⟨fun hmm => ?_, .inr (hqq q hqa h0)⟩⟩
      · have := (hqq x hx h0).1
        have e' : x.block = r := e
        omega
      · have := hz _ (P.out.z _ hmm)
        have := (hqq q hqa h0).1
        omega
    · show 0 ≤ (if z < 1 then 1 else z) ∧ (if z < 1 then 1 else z) ≤ 9223372036854775807
      split <;> omega
  have FIN := Lib.hid fin
  clear p hk hkr fin
  by_cases hn1 : z < 1
  · have e1 : (if z < 1 then 1 else z) = 1 := if_pos hn1
    have d0 : decide (z < 1) = true := decide_eq_true hn1
    have E1 := Lib.hid e1
    clear e1
    go_enter Try.func29, Try.ntmps29
    go_wp2_with (at_builtin; refine app_bools rfl _ _ rfl _ _ _ _ _ kl rfl rfl (K.out.kept (fun q hq h0 => by rw [heap_alloc_keep _ _ (by simpa using K.out.lt q hq h0)]; exact heap_setCell_other w ⟨r, 5, none⟩ _ _ (HKR.out q hq h0))) (by omega) ?_; intro x1 w1 hb1; obtain ⟨a1, c1', hv1, _⟩ := hb1.ex; subst hv1; have hfr := frozen_of_row w1 r 6 _ _ (row_keep (heap_setCell_same w r 5 _ _ (.int .i64 1) P.out.row) (NewB.past hb1).below); have hce : w1.cell? ⟨r, 6, none⟩ = some kv := by (rw [cell_of_row w1 _ _ _ _ _ (row_keep (heap_setCell_same w r 5 _ _ (.int .i64 1) P.out.row) (NewB.past hb1).below)]; rfl))
    go_end0
    exact ⟨rfl, FIN.out _ _ 1 E1.out (NewB.past hb1)⟩
  · have e1 : (if z < 1 then 1 else z) = z := if_neg hn1
    have d0 : decide (z < 1) = false := decide_eq_false hn1
    have E1 := Lib.hid e1
    clear e1
    go_enter Try.func29, Try.ntmps29
    go_wp2_with (at_builtin; refine app_bools rfl _ _ rfl _ _ _ _ _ kl rfl rfl (K.out.kept (fun q hq h0 => by rw [heap_alloc_keep _ _ (by simpa using K.out.lt q hq h0)]; exact heap_setCell_other w ⟨r, 5, none⟩ _ _ (HKR.out q hq h0))) (by omega) ?_; intro x1 w1 hb1; obtain ⟨a1, c1', hv1, _⟩ := hb1.ex; subst hv1; have hfr := frozen_of_row w1 r 6 _ _ (row_keep (heap_setCell_same w r 5 _ _ (.int .i64 z) P.out.row) (NewB.past hb1).below); have hce : w1.cell? ⟨r, 6, none⟩ = some kv := by (rw [cell_of_row w1 _ _ _ _ _ (row_keep (heap_setCell_same w r 5 _ _ (.int .i64 z) P.out.row) (NewB.past hb1).below)]; rfl))
    go_end0
    exact ⟨rfl, FIN.out _ _ z E1.out (NewB.past hb1)⟩
end Go.Proofs.Ytpgncmoagmkcmaa
