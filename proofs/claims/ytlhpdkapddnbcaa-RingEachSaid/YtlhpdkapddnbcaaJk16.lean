/- ring: a row of slices of bytes that is read; two that are alike. disk: New, Arm. Opening a slice of bools. disk: Arm, whatever is to be kept. ring: Open where there is no room for a journal; begun. ring: begun: a journal in the middle of a disk. -/
import Derived.Test.YtlhpdkapddnbcaaJk0
import Derived.Test.YtlhpdkapddnbcaaJk13
import Derived.Test.YtlhpdkapddnbcaaJk5
import Derived.Test.YtlhpdkapddnbcaaJk6
import Derived.Test.YtlhpdkapddnbcaaJk3
import Derived.Deep.Grids
import Derived.WalkMore
import Derived.Test.YtlhpdkapddnbcaaJk14
import Derived.Test.YtlhpdkapddnbcaaJk15
namespace Go.Proofs.Ytlhpdkapddnbcaa
open Go.RowKit
theorem kept_undrew {w w' : World} (h : Kept w.drew w') : Below w.heap.size w w' := ⟨h.os, h.tape, h.output, h.size, h.block⟩
/-- A row of slices of bytes, none of whose blocks is in P. -/
structure RowsRd (w : World) (P : Nat → Prop) (a : Option Addr) (n c : Nat) (ls : List (List Int)) : Prop where
  len : ls.length = n
  cap : n ≤ c
  max : c ≤ maxLen
  void : a = none → c = 0
  nq : ∀ x, a = some x → 0 < n → ¬ P x.block
  each : ∀ (i : Nat) (l : List Int), ls[i]? = some l → ∃ b o a' n' c', a = some ⟨b, o, none⟩ ∧ w.cell? ⟨b, o + i, none⟩ = some (.slice a' n' c') ∧ RdAt .u8 w a' n' c' l ∧ ∀ x, a' = some x → 0 < n' → ¬ P x.block
theorem RowsRd.nil (w : World) (P : Nat → Prop) : RowsRd w P none 0 0 [] := ⟨rfl, Nat.le_refl _, by unfold maxLen; omega, fun _ => rfl, fun x h => (by cases h), fun i l h => by simp at h⟩
/-- It stays where its blocks stay. -/
theorem RowsRd.keep {w w' : World} {P P' : Nat → Prop} {a : Option Addr} {n c : Nat} {ls : List (List Int)} (h : RowsRd w P a n c ls) (hb : ∀ k, k < w.heap.size → ¬ P k → w'.heap[k]? = w.heap[k]?) (hp : ∀ k, k < w.heap.size → ¬ P k → ¬ P' k) : RowsRd w' P' a n c ls := by
  refine ⟨h.len, h.cap, h.max, h.void, fun x hx hn => ?_, fun i l hl => ?_⟩
  · have h1 : 0 < ls.length := by rw [h.len]; exact hn
    obtain ⟨b, o, a', n', c', e1, e2, _⟩ := h.each 0 ls[0] (List.getElem?_eq_getElem h1)
    refine hp _ ?_ (h.nq x hx hn)
    rw [hx] at e1
    injection e1 with e1
    subst e1
    exact block_lt_of_cell e2
  · obtain ⟨b, o, a', n', c', e1, e2, e3, e4⟩ := h.each i l hl
    have hn : 0 < n := by have := (List.getElem?_eq_some_iff.1 hl).1; have := h.len; omega
    have hbl : b < w.heap.size := block_lt_of_cell e2
    refine ⟨b, o, a', n', c', e1, ?_, rd_keepR e3 (fun x hx hn => hb x.block (rd_ltR e3 x hx hn) (e4 x hx hn)), fun x hx hn => hp _ (rd_ltR e3 x hx hn) (e4 x hx hn)⟩
    rw [← e2]
    exact World.cell?_of_block (a := ⟨b, o + i, none⟩) (hb b hbl (h.nq _ e1 hn))
theorem RowsRd.below {w w' : World} {P : Nat → Prop} {a : Option Addr} {n c : Nat} {ls : List (List Int)} (h : RowsRd w P a n c ls) (b : Below w.heap.size w w') : RowsRd w' P a n c ls := h.keep (fun k hk _ => b.block k hk) (fun _ _ hp => hp)
/-- What Open tells is read so. -/
theorem RowsIn.rd {w : World} {Q : Nat → Prop} {a : Option Addr} {n c : Nat} {vs : List Value} {ls : List (List Int)} (h : RowsIn w Q (.slice a n c) vs ls) : RowsRd w Q a n c ls := by
  have hl := h.len
  rcases h.own.2 with ⟨hv, hn⟩ | ⟨g, cap, cur, hv, h0, hh, h1, h2, h3, h4⟩
  · injection hv with q1 q2 q3
    subst q1 q2 q3
    refine ⟨by omega, Nat.le_refl _, by unfold maxLen; omega, fun _ => rfl, fun x hx => (by cases hx), fun i l hi => ?_⟩
    have := (List.getElem?_eq_some_iff.1 hi).1
    omega
  · injection hv with q1 q2 q3
    subst q1 q2 q3
    refine ⟨by omega, h1, h2, fun e => (by cases e), fun x hx _ => ?_, fun i l hi => ?_⟩
    · injection hx with hx
      subst hx
      exact h.nq g rfl
    · obtain ⟨a', n', c', e1, e2, e3⟩ := h.each i l hi
      refine ⟨g, 0, a', n', c', rfl, ?_, e2, fun x hx hn => (e3 x hx hn).1⟩
      rw [Nat.zero_add, ← e1]
      exact h.own.cellAt i (by have := (List.getElem?_eq_some_iff.1 hi).1; omega)
set_option linter.unusedSimpArgs false in
set_option linter.unusedVariables false in
set_option maxRecDepth 100000 in
set_option maxHeartbeats 4000000 in
theorem rows_yes (a1 : Option Addr) (n1 c1 : Nat) (a2 : Option Addr) (n2 c2 : Nat) (ls : List (List Int)) (P1 P2 : Nat → Prop) (w : World) (ha : RowsRd w P1 a1 n1 c1 ls) (hb : RowsRd w P2 a2 n2 c2 ls) (hn : n1 ≤ 1000000) :
    Calls Try.prog 31 #[.slice a1 n1 c1, .slice a2 n2 c2] w fun e w' => e = .returned (.bool true) ∧ Below w.heap.size w w' := by
  obtain ⟨n, hnn⟩ : ∃ n, ls.length = n := ⟨_, rfl⟩
  obtain rfl : n1 = n := by rw [← hnn, ha.len]
  obtain rfl : n2 = n1 := by rw [← hnn, hb.len]
  have HA := Lib.hid ha
  have HB := Lib.hid hb
  have HN := Lib.hid hnn
  clear ha hb hnn
  go_enter Try.func31, Try.ntmps31
  go_wp2_with fail
  go_loopw [5] (fun i wr => ∃ k : Nat, k ≤ n2 ∧ i = .int .i64 k ∧ Below w.heap.size w wr) (fun i _ => n2 - (intOf i).toNat)
  case atStart => exact ⟨0, by omega, rfl, Below.refl _ _⟩
  case round =>
    obtain ⟨k, hk, rfl, hbw⟩ := hrel
    by_cases hkn : k < n2
    · have d1 : decide ((k : Int) < n2) = true := decide_eq_true (by omega)
      have hkl : k < ls.length := by rw [HN.out]; exact hkn
      obtain ⟨l, hl⟩ : ∃ l, ls[k]? = some l := ⟨_, List.getElem?_eq_getElem hkl⟩
      obtain ⟨b1, o1, x1, m1, q1, rfl, hc1, hr1, _⟩ := (HA.out.below hbw).each k l hl
      obtain ⟨b2, o2, x2, m2, q2, rfl, hc2, hr2, _⟩ := (HB.out.below hbw).each k l hl
      have hbw2 := Lib.hid hbw
      clear hbw hl hkl
      go_wp2_with fail
      refine' reg_free (G := Kept) (pickF [eqV _, eqV _, eqV _, eqV _, eqV _, eqV _, eqV _, eqV _, eqV _, eqV _, eqV _]) [17, 18, 19, 20, 21, 22, 23, 24, 25, 26, 27] [[], [], [0, 1], [2], [3], [], [], [5, 6], [7], [8], [4, 9]] [0, 1, 2, 3, 4, 5, 6, 7, 8, 9, 10] (by kernel_rfl) Kept.refl Kept.trans (pick_stays ⟨eqV_stays _, eqV_stays _, eqV_stays _, eqV_stays _, eqV_stays _, eqV_stays _, eqV_stays _, eqV_stays _, eqV_stays _, eqV_stays _, eqV_stays _, trivial⟩) 28 rfl (by kernel_rfl) (by kernel_rfl) rfl rfl ?r1obl ?r1fin
      case r1obl =>
        refine And.intro ?r1o0 (And.intro ?r1o1 (And.intro ?r1o2 (And.intro ?r1o3 (And.intro ?r1o4 (And.intro ?r1o5 (And.intro ?r1o6 (And.intro ?r1o7 (And.intro ?r1o8 (And.intro ?r1o9 (And.intro ?r1o10 (True.intro)))))))))))
        case r1o0 =>
          intro w1 hG
          refine turn_on (by rfl) ?_
          intro K hK
          go_simp
          refine hK _ _ ⟨rfl, Kept.refl _, ?_⟩
          show _ = _
          simp only [gv1]
          rfl
        case r1o1 =>
          intro w1 hG
          refine turn_on (by rfl) ?_
          intro K hK
          go_simp
          refine hK _ _ ⟨rfl, Kept.refl _, ?_⟩
          show _ = _
          simp only [gv1]
          rfl
        case r1o2 =>
          intro w1 hG
          intro v0 h0
          change _ = _ at h0
          subst h0
          intro v1 h1
          change _ = _ at h1
          subst h1
          refine turn_on (by rfl) ?_
          intro K hK
          simp only [gv2]
          go_simp
          refine hK _ _ ⟨rfl, Kept.refl _, ?_⟩
          show _ = _
          simp only [gv1]
          rfl
        case r1o3 =>
          intro w1 hG
          intro v2 h2
          change _ = _ at h2
          subst h2
          refine turn_on (by rfl) ?_
          intro K hK
          simp only [gv2]
          have hc := (Below.cell hG (block_lt_of_cell hc1)).trans hc1
          go_simp
          refine hK _ _ ⟨rfl, Kept.refl _, ?_⟩
          show _ = _
          simp only [gv1]
          rfl
        case r1o4 =>
          intro w1 hG
          intro v3 h3
          change _ = _ at h3
          subst h3
          refine turn_on (by rfl) ?_
          intro K hK
          simp only [gv2]
          refine wp_conv 21 rfl u8T s8 su _ rfl rfl (hr1.keptD hG) ?_
          refine hK _ _ ⟨rfl, Kept.refl _, ?_⟩
          show _ = _
          simp only [gv1]
          rfl
        case r1o5 =>
          intro w1 hG
          refine turn_on (by rfl) ?_
          intro K hK
          go_simp
          refine hK _ _ ⟨rfl, Kept.refl _, ?_⟩
          show _ = _
          simp only [gv1]
          rfl
        case r1o6 =>
          intro w1 hG
          refine turn_on (by rfl) ?_
          intro K hK
          go_simp
          refine hK _ _ ⟨rfl, Kept.refl _, ?_⟩
          show _ = _
          simp only [gv1]
          rfl
        case r1o7 =>
          intro w1 hG
          intro v5 h5
          change _ = _ at h5
          subst h5
          intro v6 h6
          change _ = _ at h6
          subst h6
          refine turn_on (by rfl) ?_
          intro K hK
          simp only [gv2]
          go_simp
          refine hK _ _ ⟨rfl, Kept.refl _, ?_⟩
          show _ = _
          simp only [gv1]
          rfl
        case r1o8 =>
          intro w1 hG
          intro v7 h7
          change _ = _ at h7
          subst h7
          refine turn_on (by rfl) ?_
          intro K hK
          simp only [gv2]
          have hc := (Below.cell hG (block_lt_of_cell hc2)).trans hc2
          go_simp
          refine hK _ _ ⟨rfl, Kept.refl _, ?_⟩
          show _ = _
          simp only [gv1]
          rfl
        case r1o9 =>
          intro w1 hG
          intro v8 h8
          change _ = _ at h8
          subst h8
          refine turn_on (by rfl) ?_
          intro K hK
          simp only [gv2]
          refine wp_conv 26 rfl u8T s8 su _ rfl rfl (hr2.keptD hG) ?_
          refine hK _ _ ⟨rfl, Kept.refl _, ?_⟩
          show _ = _
          simp only [gv1]
          rfl
        case r1o10 =>
          intro w1 hG
          intro v4 h4
          change _ = _ at h4
          subst h4
          intro v9 h9
          change _ = _ at h9
          subst h9
          refine turn_on (by rfl) ?_
          intro K hK
          simp only [gv2]
          go_simp
          refine hK _ _ ⟨rfl, Kept.refl _, ?_⟩
          show _ = _
          simp only [gv1]
          rfl
      intro w1 hG
      intro v0 h0
      change _ = _ at h0
      subst h0
      intro v1 h1
      change _ = _ at h1
      subst h1
      intro v2 h2
      change _ = _ at h2
      subst h2
      intro v3 h3
      change _ = _ at h3
      subst h3
      intro v4 h4
      change _ = _ at h4
      subst h4
      intro v5 h5
      change _ = _ at h5
      subst h5
      intro v6 h6
      change _ = _ at h6
      subst h6
      intro v7 h7
      change _ = _ at h7
      subst h7
      intro v8 h8
      change _ = _ at h8
      subst h8
      intro v9 h9
      change _ = _ at h9
      subst h9
      intro v10 h10
      change _ = _ at h10
      subst h10
      simp only [Given, gv2]
      have hne : ((strOfNums l).toList != (strOfNums l).toList) = false := by simp
      have B9 := Lib.hid (kept_undrew hG)
      go_wp2_with fail
      go_roundw
      case rel => exact ⟨k + 1, by omega, by go_num, hbw2.out.trans (B9.out.mono hbw2.out.size)⟩
      case measure => simp [intOf] <;> omega
    · obtain rfl : k = n2 := by omega
      have d1 : decide ((k : Int) < k) = false := decide_eq_false (by omega)
      go_wp2_with fail
      go_ret
      exact ⟨rfl, hbw⟩
end Go.Proofs.Ytlhpdkapddnbcaa

namespace Go.Proofs.Ytlhpdkapddnbcaa
open Go.RowKit
set_option maxRecDepth 100000 in
theorem secI : (Try.prog.info? 36).map (fun i => (i.zero, i.size, i.bytes)) = some (some (.slice none 0 0), 1, 24) := by kernel_rfl
set_option maxRecDepth 100000 in
theorem mk_secs (n : Nat) (hn : n ≤ 1000000) (w : World) : (Instr.makeSlice 28 (.int .i64 (n : Int)) (.int .i64 (n : Int))).run Try.prog w = .ok (.slice (some ⟨w.heap.size, 0, none⟩) n n) (w.alloc (.cells (List.replicate n (.slice none 0 0)).toArray 36)) := by
  obtain ⟨i, hi, hz, hs, hb⟩ := info_parts secI
  have hr := run_make (P := Try.prog) w 28 36 i (.slice none 0 0) secT hi hz .i64 .i64 n n (by omega) (Int.le_refl _) (by rw [hb]; omega) (by omega)
  rw [hr, hs, Int.toNat_natCast, Nat.mul_one]
  congr 4
  rw [show (Value.slice none 0 0).cells = #[.slice none 0 0] from rfl, ← toList_madeCells_one]
def rightB (n size : Int) : Bool := decide (1 ≤ n) && decide (n ≤ 65536) && decide (64 ≤ size) && decide (size ≤ 4096)
def dk0 (n size : Nat) : Dk := ⟨false, 0, [], size, List.replicate n (List.replicate size 0), [], 0, 0⟩
set_option linter.unusedSimpArgs false in
set_option linter.unusedVariables false in
set_option maxRecDepth 100000 in
set_option maxHeartbeats 2000000 in
theorem right_any (n size : Int) (w : World) : Calls Try.prog 39 #[.int .i64 n, .int .i64 size] w fun e w' => e = .returned (.bool (rightB n size)) ∧ w = w' := by
  have hE : rightB n size = (decide (1 ≤ n) && decide (n ≤ 65536) && decide (64 ≤ size) && decide (size ≤ 4096)) := rfl
  rw [hE]
  clear hE
  have key : ∀ b1 b2 b3 b4 : Bool, decide (1 ≤ n) = b1 → decide (n ≤ 65536) = b2 → decide (64 ≤ size) = b3 → decide (size ≤ 4096) = b4 → Calls Try.prog 39 #[.int .i64 n, .int .i64 size] w fun e w' => e = .returned (.bool (b1 && b2 && b3 && b4)) ∧ w = w' := by
    intro b1 b2 b3 b4 h1 h2 h3 h4
    cases b1 <;> cases b2 <;> cases b3 <;> cases b4
    all_goals
      go_enter Try.func39, Try.ntmps39
      go_wp2
      go_ret
      exact ⟨rfl, rfl⟩
  exact key _ _ _ _ rfl rfl rfl rfl
set_option maxRecDepth 100000 in
theorem new_no (n size : Int) (w : World) (h : rightB n size = false) : Calls Try.prog 13 #[.int .i64 n, .int .i64 size] w fun e w' => e = .returned (.tuple #[.pointer none, .int .i64 1]) ∧ w = w' := by
  go_enter Try.func13, Try.ntmps13
  go_wp2_with fail
  refine (right_any _ _ _).mono ?_
  rintro e w1 ⟨rfl, rfl⟩
  rw [h]
  go_wp2_with fail
  go_ret2
  exact ⟨rfl, rfl⟩
theorem dk0_ok (n size : Nat) (h : rightB n size = true) : DkOk (dk0 n size) := by
  unfold rightB at h
  simp only [Bool.and_eq_true, decide_eq_true_eq] at h
  refine ⟨⟨by show 64 ≤ size; omega, by show size ≤ 4096; omega⟩, ⟨?_, ?_⟩, fun l hl => ?_, (fun _ h => by cases h), ⟨(show (0:Int) ≤ 0 by decide), (show (0:Int) ≤ 9223372036854775807 by decide)⟩, Nat.zero_le _, ⟨(show (0:Int) ≤ 0 by decide), (show (0:Int) ≤ 4611686018427387904 by decide)⟩, ⟨(show (0:Int) ≤ 0 by decide), (show (0:Int) ≤ 4611686018427387904 by decide)⟩⟩
  · show 1 ≤ (List.replicate n _).length
    rw [List.length_replicate]; omega
  · show (List.replicate n _).length ≤ 65536
    rw [List.length_replicate]; omega
  · rw [List.eq_of_mem_replicate (show l ∈ List.replicate n _ from hl), List.length_replicate]
    rfl
theorem dk0_at (n size : Nat) (w : World) (h : rightB n size = true) (kb mb d : Nat) (hkb : kb < w.heap.size) (hmb : mb < w.heap.size) (hd : d < w.heap.size) (B : Nat) (hB : B ≤ kb ∧ B ≤ mb ∧ B ≤ d) (hne : d ≠ kb ∧ d ≠ mb ∧ kb ≠ mb)
    (hk : w.heap[kb]? = some (.cells (List.replicate n (.slice none 0 0)).toArray 36 (0, 0))) (hm : MapAt w mb (fun _ => none))
    (hr : w.heap[d]? = some (.cells #[.bool false, .int .i64 0, .slice none 0 0, .int .i64 size, .slice (some ⟨kb, 0, none⟩) n n, .slice none 0 0, .map (some mb), .int .i64 0, .int .i64 0] 51 (0, 0))) :
    DkIn w (fun k => B ≤ k ∧ k < w.heap.size) d (dk0 n size) := by
  refine ⟨fun k hk => hk.2, kb, mb, .slice none 0 0, .slice none 0 0, List.replicate n (.slice none 0 0), [], ?_, hk, ?_, World.ownsRow_nil _ _ _ _, All2.nil _, hm.congr (fun _ => rfl), ⟨none, 0, 0, rfl, ⟨rfl, Nat.le_refl _, by unfold maxLen; omega, fun i hi => by omega, fun _ => rfl⟩, fun q hq => by cases hq⟩, hne, (fun g hg => by cases hg), fun b hb => ?_, dk0_ok n size h⟩
  · rw [hr]
    show _ = some (Obj.cells #[_, _, _, _, .slice _ (List.replicate n _).length (List.replicate n _).length, _, _, _, _] _ _)
    rw [List.length_replicate]
    rfl
  · refine ⟨by show _ = (List.replicate n _).length; simp, fun i a b ha hb => ?_⟩
    have hb' : (List.replicate n (List.replicate size (0 : Int)))[i]? = some b := hb
    rw [List.getElem?_replicate] at ha hb'
    by_cases hi : i < n
    · rw [if_pos hi] at ha hb'
      injection ha with ha
      injection hb' with hb'
      exact .inl ⟨ha.symm, hb'.symm⟩
    · rw [if_neg hi] at ha
      cases ha
  · rcases hb with hb | hb | hb | hb
    · subst hb; exact ⟨hB.2.2, hd⟩
    · subst hb; exact ⟨hB.1, hkb⟩
    · subst hb; exact ⟨hB.2.1, hmb⟩
    · cases hb
set_option linter.unusedSimpArgs false in
set_option linter.unusedVariables false in
set_option maxRecDepth 100000 in
set_option maxHeartbeats 2000000 in
theorem new_any (n size : Nat) (w : World) (h : rightB n size = true) : Calls Try.prog 13 #[.int .i64 n, .int .i64 size] w fun e w' => ∃ d Z, e = .returned (.tuple #[.pointer (some ⟨d, 0, none⟩), .int .i64 0]) ∧ DkIn w' Z d (dk0 n size) ∧ (∀ k, Z k → w.heap.size ≤ k) ∧ Below w.heap.size w w' := by
  have hn : n ≤ 1000000 := by
    unfold rightB at h
    simp only [Bool.and_eq_true, decide_eq_true_eq] at h
    omega
  have hmk := mk_secs n hn
  have hmm := @run_makeMap Try.prog
  have H := Lib.hid h
  clear h
  go_enter Try.func13, Try.ntmps13
  go_wp2_with fail
  refine (right_any _ _ _).mono ?_
  rintro e w1 ⟨rfl, rfl⟩
  rw [H.out]
  go_wp2_with fail
  go_ret2
  generalize hA : (w.alloc (.cells (Array.replicate n (.slice none 0 0)) 36)) = wA
  have hsA : wA.heap.size = w.heap.size + 1 := by rw [← hA]; simp
  have hbA : Below w.heap.size w wA := by rw [← hA]; exact (Below.refl _ _).alloc (Nat.le_refl _) _
  have hkA : wA.heap[w.heap.size]? = some (.cells (List.replicate n (.slice none 0 0)).toArray 36 (0, 0)) := by
    rw [← hA, List.toArray_replicate]; exact heap_alloc_new _ _
  generalize hB : wA.alloc (.map #[] 0) = wB
  have hsB : wB.heap.size = w.heap.size + 1 + 1 := by rw [← hB]; simp [hsA]
  have hbB : Below wA.heap.size wA wB := by rw [← hB]; exact (Below.refl _ _).alloc (Nat.le_refl _) _
  have hmB : MapAt wB (w.heap.size + 1) (fun _ => none) := by rw [← hB, ← hsA]; exact map_made wA
  generalize hC : wB.alloc (.cells #[.bool false, .int .i64 0, .slice none 0 0, .int .i64 size, .slice (some ⟨w.heap.size, 0, none⟩) n n, .slice none 0 0, .map (some (w.heap.size + 1)), .int .i64 0, .int .i64 0] 51) = wC
  have hsC : wC.heap.size = w.heap.size + 1 + 1 + 1 := by rw [← hC]; simp [hsB]
  have hbC : Below wB.heap.size wB wC := by rw [← hC]; exact (Below.refl _ _).alloc (Nat.le_refl _) _
  have hrC := heap_alloc_new wB (.cells #[.bool false, .int .i64 0, .slice none 0 0, .int .i64 size, .slice (some ⟨w.heap.size, 0, none⟩) n n, .slice none 0 0, .map (some (w.heap.size + 1)), .int .i64 0, .int .i64 0] 51)
  rw [hC, hsB] at hrC
  refine ⟨w.heap.size + 1 + 1, _, rfl, dk0_at n size wC H.out w.heap.size (w.heap.size + 1) _ (by omega) (by omega) (by omega) w.heap.size ⟨by omega, by omega, by omega⟩ ⟨by omega, by omega, by omega⟩ ?_ ?_ hrC, fun k hk => hk.1, ?_⟩
  · exact row_keep (row_keep hkA hbB) hbC
  · exact hmB.at (hbC.block _ (by omega))
  · exact Below.call (Below.call hbA hbB) hbC
def armS (st : Dk) (n : Int) (keep : List Bool) : Dk := { st with armed := if n < 1 then 1 else n, keep := keep }
set_option linter.unusedSimpArgs false in
set_option linter.unusedVariables false in
set_option maxRecDepth 100000 in
set_option maxHeartbeats 2000000 in
theorem armP {w w' : World} {Z : Nat → Prop} {d kb mb : Nat} {pv kv : Value} {vals pvs : List Value} {st : Dk} (p : DkP w Z d kb mb pv kv vals pvs st) (hoth : ∀ x, Z x → x ≠ d → w'.heap[x]? = w.heap[x]?) (n : Int)
    (row : w'.heap[d]? = some (.cells #[.bool st.off, .int .i64 (if n < 1 then 1 else n), .slice none 0 0, .int .i64 st.size, .slice (some ⟨kb, 0, none⟩) st.kept.length st.kept.length, pv, .map (some mb), .int .i64 st.writes, .int .i64 st.reads] 51 (0, 0))) (h2 : n ≤ 9223372036854775807) :
    DkP w' Z d kb mb pv (.slice none 0 0) vals pvs (armS st n []) := by
  have hm : ∀ x, Z x → ¬ MutD d kb mb pv x → w'.heap[x]? = w.heap[x]? := fun x hx h => hoth x hx (fun e => h (.inl e))
  refine ⟨row, ?_, ?_, ?_, ?_, ?_, ⟨none, 0, 0, rfl, ⟨rfl, Nat.le_refl _, by unfold maxLen; omega, fun i hi => by omega, fun _ => rfl⟩, fun q hq => by cases hq⟩, p.ne, p.rm, p.z, ⟨p.ok.size, p.ok.n, p.ok.kept, p.ok.pend, ?_, p.ok.few, p.ok.writes, p.ok.reads⟩⟩
  · rw [hoth kb (p.z kb (.inr (.inl rfl))) p.ne.1.symm]; exact p.krow
  · exact p.kvals.imp fun v l h => h.at hm (fun _ _ h => h) (fun _ h => h)
  · exact ownsRow_at p.prow (fun g hg => hoth g (p.z g (.inr (.inr (.inr hg)))) (p.rm g hg).1)
  · exact p.pvals.imp fun v l h => h.at hm (fun _ _ h => h) (fun _ h => h)
  · exact p.map.at (hoth mb (p.z mb (.inr (.inr (.inl rfl)))) p.ne.2.1.symm)
  · show 0 ≤ (if n < 1 then 1 else n) ∧ (if n < 1 then 1 else n) ≤ 9223372036854775807
    split <;> omega
set_option maxRecDepth 100000 in
theorem clone_nil (w : World) : Calls Try.prog 44 #[.slice none 0 0] w fun e w' => e = .returned (.slice none 0 0) ∧ w = w' := by
  have hnil := fun (w : World) (a : Option Addr) (n c : Nat) => Lib.run_eql_slice_nil (P := Try.prog) w 38 4 a n c 0 0 Try.underlying38
  go_enter Try.func44, Try.ntmps44
  go_wp2
  go_ret
  exact ⟨rfl, rfl⟩
set_option linter.unusedSimpArgs false in
set_option linter.unusedVariables false in
set_option maxRecDepth 100000 in
set_option maxHeartbeats 2000000 in
theorem arm_nil (Z : Nat → Prop) (d : Nat) (st : Dk) (n : Int) (w : World) (h : DkIn w Z d st) (h1 : -9223372036854775808 ≤ n) (h2 : n ≤ 9223372036854775807) : Calls Try.prog 15 #[.pointer (some ⟨d, 0, none⟩), .int .i64 n, .slice none 0 0] w fun e w' => e = .returned (.tuple #[]) ∧ DkIn w' Z d (armS st n []) ∧ Tnd Z Z w w' := by
  obtain ⟨hz, kb, mb, pv, kv, vals, pvs, p⟩ := h
  obtain ⟨c0, c1, c2, c3, c4, c5, c6, c7, c8, cf⟩ := cellsD p.row
  have P := Lib.hid p
  have hZm := p.z
  clear p
  by_cases hn1 : n < 1
  · have e1 : (if n < 1 then 1 else n) = 1 := if_pos hn1
    have e2 : (max n 1 : Int) = 1 := by omega
    go_enter Try.func15, Try.ntmps15
    go_wp2_with fail
    refine (clone_nil _).mono ?_
    rintro e w1 ⟨rfl, rfl⟩
    go_wp2_with fail
    go_end0
    have hoth : ∀ x, x ≠ d → ((w.setCell ⟨d, 1, none⟩ (.int .i64 1)).setCell ⟨d, 2, none⟩ (.slice none 0 0)).heap[x]? = w.heap[x]? := fun x hne => by
      rw [heap_setCell_other _ ⟨d, 2, none⟩ x _ hne, heap_setCell_other w ⟨d, 1, none⟩ x _ hne]
    have hrow : ((w.setCell ⟨d, 1, none⟩ (.int .i64 1)).setCell ⟨d, 2, none⟩ (.slice none 0 0)).heap[d]? = some (.cells #[.bool st.off, .int .i64 1, .slice none 0 0, .int .i64 st.size, .slice (some ⟨kb, 0, none⟩) st.kept.length st.kept.length, pv, .map (some mb), .int .i64 st.writes, .int .i64 st.reads] 51 (0, 0)) := by
      rw [heap_setCell_same _ d 2 _ _ _ (heap_setCell_same w d 1 _ _ _ P.out.row)]
      simp
    refine ⟨rfl, ⟨fun x hx => by simpa using hz x hx, kb, mb, pv, .slice none 0 0, vals, pvs, armP P.out (fun x _ hne => hoth x hne) n (by rw [e1]; exact hrow) (by omega)⟩, ⟨rfl, rfl, rfl, by simp, fun x _ hzx => hoth x (fun e => hzx (by rw [e]; exact hZm d (.inl rfl))), fun x h => .inl h⟩⟩
  · have e1 : (if n < 1 then 1 else n) = n := if_neg hn1
    go_enter Try.func15, Try.ntmps15
    go_wp2_with fail
    refine (clone_nil _).mono ?_
    rintro e w1 ⟨rfl, rfl⟩
    go_wp2_with fail
    go_end0
    have hoth : ∀ x, x ≠ d → ((w.setCell ⟨d, 1, none⟩ (.int .i64 n)).setCell ⟨d, 2, none⟩ (.slice none 0 0)).heap[x]? = w.heap[x]? := fun x hne => by
      rw [heap_setCell_other _ ⟨d, 2, none⟩ x _ hne, heap_setCell_other w ⟨d, 1, none⟩ x _ hne]
    have hrow : ((w.setCell ⟨d, 1, none⟩ (.int .i64 n)).setCell ⟨d, 2, none⟩ (.slice none 0 0)).heap[d]? = some (.cells #[.bool st.off, .int .i64 n, .slice none 0 0, .int .i64 st.size, .slice (some ⟨kb, 0, none⟩) st.kept.length st.kept.length, pv, .map (some mb), .int .i64 st.writes, .int .i64 st.reads] 51 (0, 0)) := by
      rw [heap_setCell_same _ d 2 _ _ _ (heap_setCell_same w d 1 _ _ _ P.out.row)]
      simp
    refine ⟨rfl, ⟨fun x hx => by simpa using hz x hx, kb, mb, pv, .slice none 0 0, vals, pvs, armP P.out (fun x _ hne => hoth x hne) n (by rw [e1]; exact hrow) (by omega)⟩, ⟨rfl, rfl, rfl, by simp, fun x _ hzx => hoth x (fun e => hzx (by rw [e]; exact hZm d (.inl rfl))), fun x h => .inl h⟩⟩
end Go.Proofs.Ytlhpdkapddnbcaa

namespace Go.Proofs.Ytlhpdkapddnbcaa
open Go.RowKit
theorem bools_open {H : Type} {enc : TypeId × Value → H} {P : Program} {w : World} {base : Nat} {held : Bool} {t e : TypeId} {a : Option Addr} {len cap : Nat} {d : DataW H} {p : List MemPlace} (ht : P.underlying t = some (.slice e)) (he : P.underlying e = some .bool) (hc : P.cellsOf e = 1)
    (h : ∃ n, DataW.trod enc P w base (fun _ => true) held n t (Value.slice a len cap).cells.toList = some (d, p)) : ∃ z, RdB w a len cap z := by
  obtain ⟨n, hn⟩ := h
  rcases Go.Deep.open_bools ht he hc hn with ⟨hcs, _⟩ | ⟨x, l, c, B, hcs, _, hl, hm, _, hcell⟩
  · simp [Value.cells] at hcs
    obtain ⟨rfl, rfl, rfl⟩ := hcs
    exact ⟨[], rfl, Nat.le_refl _, by unfold maxLen; omega, fun i hi => by omega, fun _ => rfl⟩
  · simp [Value.cells] at hcs
    obtain ⟨rfl, rfl, rfl⟩ := hcs
    refine ⟨(List.range len).map B, by simp, hl, hm, fun i hi => ?_, fun h => by cases h⟩
    obtain ⟨b, o, sp⟩ := x
    have h0 := hcell 0 (by omega)
    have hsp : sp = none := by simpa [Addr.add] using World.cell?_spot h0
    subst hsp
    refine ⟨b, o, rfl, ?_⟩
    have := hcell i (by omega)
    rw [List.getD_eq_getElem?_getD, List.getElem?_map, List.getElem?_range hi]
    rw [show (Addr.mk b o none).add i = ⟨b, o + i, none⟩ by simp [Addr.add] <;> omega] at this
    simpa using this
theorem RdB.lt {w : World} {a : Option Addr} {n c : Nat} {l : List Bool} (h : RdB w a n c l) : ∀ x, a = some x → 0 < n → x.block < w.heap.size := fun x hx hn => by
  obtain ⟨b, o, e, hc⟩ := h.cell 0 hn
  rw [hx] at e
  injection e with e
  subst e
  exact block_lt_of_cell hc
end Go.Proofs.Ytlhpdkapddnbcaa

namespace Go.Proofs.Ytlhpdkapddnbcaa
open Go.RowKit
def boolInfo : Prop := (Try.prog.info? 4).map (fun i => (i.zero, i.size, i.bytes)) = some (some (.bool false), 1, 1)
theorem boolI : boolInfo := by unfold boolInfo; kernel_rfl
set_option maxRecDepth 100000 in
theorem boolsT : Try.prog.underlying 38 = some (.slice 4) := Try.underlying38
/-- A slice of bools in a new block. -/
structure NewB (w w' : World) (v : Value) (n : Nat) (l : List Bool) : Prop where
  ex : ∃ a c, v = .slice a n c ∧ RdB w' a n c l ∧ ∀ q, a = some q → 0 < n → w.heap.size ≤ q.block ∧ q.block < w'.heap.size
  below : Below w.heap.size w w'
theorem NewB.past {w w' : World} {o : Obj} {v : Value} {n : Nat} {l : List Bool} (h : NewB (w.alloc o) w' v n l) : NewB w w' v n l := by
  obtain ⟨a, c, hv, hr, hq⟩ := h.ex
  exact ⟨⟨a, c, hv, hr, fun q h1 h2 => ⟨by have := (hq q h1 h2).1; simp at this; omega, (hq q h1 h2).2⟩⟩, ((Below.refl _ _).alloc (Nat.le_refl _) o).trans (h.below.mono (by simp))⟩
set_option maxRecDepth 100000 in
theorem run_app_bools (ty : TypeId) (w : World) (x0 : Addr) (xo : Option Addr) (n c : Nat) (l : List Bool) (hr : RdB w xo n c l) (hn : n ≤ 1099511627776) :
    ∃ v w', (Builtin.append_ #[38, 38] ty #[.slice (some x0) 0 0, .slice xo n c]).run Try.prog w = .ok v w' ∧ NewB w w' v n l := by
  have hlen := hr.len
  by_cases h0 : n = 0
  · subst h0
    have hl0 : l = [] := List.eq_nil_of_length_eq_zero hlen
    obtain ⟨i, hi, hz0, hz1, hz2⟩ : ∃ i, Try.prog.info? 4 = some i ∧ i.zero = some (.bool false) ∧ i.size = 1 ∧ i.bytes = 1 := by
      have := boolI
      unfold boolInfo at this
      cases h : Try.prog.info? 4 with
      | none => rw [h] at this; cases this
      | some i => rw [h] at this; simp at this; exact ⟨i, rfl, this.1, this.2.1, this.2.2⟩
    refine ⟨.slice (some x0) 0 0, w, ?_, ⟨some x0, 0, rfl, ⟨hlen, Nat.le_refl _, by unfold maxLen; omega, fun i hi => by omega, fun h => by cases h⟩, fun q _ h => by omega⟩, Below.refl _ _⟩
    cases xo <;> simp [Builtin.append_, run_underlying boolsT, sizeOf, typeInfo, hi, Builtin.lenOf, Builtin.firstCells, loadCells, loadCellsFrom, storeCells]
  · obtain ⟨i, hi, hz0, hz1, hz2⟩ : ∃ i, Try.prog.info? 4 = some i ∧ i.zero = some (.bool false) ∧ i.size = 1 ∧ i.bytes = 1 := by
      have := boolI
      unfold boolInfo at this
      cases h : Try.prog.info? 4 with
      | none => rw [h] at this; cases this
      | some i => rw [h] at this; simp at this; exact ⟨i, rfl, this.1, this.2.1, this.2.2⟩
    obtain ⟨x, rfl⟩ : ∃ x, xo = some x := by
      obtain ⟨b, o, e, _⟩ := hr.cell 0 (by omega)
      exact ⟨_, e⟩
    have hcell : ∀ j v, (l.map Value.bool)[j]? = some v → w.cell? (x.add j) = some v := by
      intro j v hv
      have hj : j < n := by have := (List.getElem?_eq_some_iff.1 hv).1; simpa [hlen] using this
      obtain ⟨b, o, e, hc⟩ := hr.cell j hj
      injection e with e
      subst e
      rw [Addr.add_lit, hc]
      rw [List.getElem?_map, List.getElem?_eq_getElem (by omega)] at hv
      rw [List.getD_eq_getElem?_getD, List.getElem?_eq_getElem (by omega)]; exact hv
    have hrun := run_append_grow (P := Try.prog) w 38 ty 4 i (.bool false) boolsT hi hz0 x0 0 0 [] (by simp) (by simp) x n c (l.map Value.bool) (by simp [hlen, hz1]) hcell (by omega) (by omega) (growslice_fits (by omega) (by rw [hz2]; omega))
    rw [Nat.zero_add] at hrun
    refine ⟨_, _, hrun, ⟨_, _, rfl, ⟨hlen, ?_, ?_, fun j hj => ⟨w.heap.size, 0, rfl, ?_⟩, fun h => by cases h⟩, fun q hq _ => ?_⟩, ?_⟩
    · exact grownCap_ge w n 0 4
    · exact grownCap_le_maxLen w n 0 4 (by unfold maxLen; omega)
    · rw [Nat.zero_add, show w.heap.size = w.drew.heap.size from rfl, cell_of_row _ _ _ _ _ _ (heap_alloc_new w.drew _), Array.getElem?_append_left (by simp; omega)]
      simp [hlen, hj, List.getD_eq_getElem?_getD]
    · injection hq with hq
      subst hq
      exact ⟨Nat.le_refl _, by simp⟩
    · exact ((⟨rfl, rfl, rfl, Nat.le_refl _, fun _ _ => rfl⟩ : Below w.heap.size w w.drew)).alloc (Nat.le_refl _) _
section
variable {ops : Array Oper} {rest : List Oper} {o : Oper} {a : Act} {Q : Exit → Act → World → Prop}
set_option maxRecDepth 100000 in
theorem app_bools (hg : o.guard = none) (s x : Operand) (ho : o.op = .call { callee := .builtin .append, args := #[s, x], argTypes := #[38, 38] }) (w : World) (y0 : Addr) (y : Option Addr) (n c : Nat) (l : List Bool)
    (hs : a.eval s = .slice (some y0) 0 0) (hx : a.eval x = .slice y n c) (hr : RdB w y n c l) (hn : n ≤ 1099511627776)
    (h : ∀ v w', NewB w w' v n l → wpList Try.prog ops Q rest (a.put o.dst v) w') : wpList Try.prog ops Q (o :: rest) a w := by
  refine wpList_plain hg fun K hK => ?_
  obtain ⟨v', w', hrun, h1⟩ := run_app_bools o.type w y0 y n c l hr hn
  unfold Oper.wp execOp
  simp only [ho, resolve, invoke, builtin, Sem.run_bind, Sem.run_pure, Result.andThen_ok, List.map_toArray, List.map_cons, List.map_nil, hs, hx, hrun]
  exact hK _ _ (h v' w' h1)
end
/-- Ends with a new slice of bools. -/
def GivesB (n : Nat) (l : List Bool) (w : World) (e : Ending) (w' : World) : Prop := ∃ v, e = .returned v ∧ NewB w w' v n l
set_option maxRecDepth 100000 in
theorem cloneB_any (a : Option Addr) (n c : Nat) (l : List Bool) (w : World) (h : RdB w a n c l) (hn : n ≤ 1000000000) :
    Calls Try.prog 44 #[.slice a n c] w (GivesB n l w) := by
  cases a with
  | none =>
    obtain rfl : c = 0 := h.void rfl
    have hcap := h.cap
    obtain rfl : n = 0 := by omega
    exact (clone_nil w).mono fun e w' ⟨he, hw⟩ => ⟨_, he, ⟨none, 0, rfl, by rw [← hw]; exact h, fun q hq => by cases hq⟩, by rw [← hw]; exact Below.refl _ _⟩
  | some x =>
    have hnil := fun (w : World) (a : Option Addr) (n c : Nat) => Lib.run_eql_slice_nil (P := Try.prog) w 38 4 a n c 0 0 Try.underlying38
    have H := Lib.hid h
    clear h
    go_enter Try.func44, Try.ntmps44
    go_wp2_with (at_builtin; refine app_bools rfl _ _ rfl _ _ _ _ _ l rfl rfl (RdB.kept H.out (fun q hq h0 => heap_alloc_keep w _ (H.out.lt q hq h0))) (by omega) ?_; intro x1 w1 hb1)
    go_ret
    exact ⟨_, rfl, NewB.past hb1⟩
theorem armQ {w w1 w' : World} {Z : Nat → Prop} {d kb mb : Nat} {pv kv : Value} {vals pvs : List Value} {st : Dk} (p : DkP w Z d kb mb pv kv vals pvs st) (hz : ∀ k, Z k → k < w.heap.size) (hb : Below w.heap.size w w1) (kv2 : Value) (n : Nat) (kl : List Bool) (hk : NewB w w1 kv2 n kl)
    (hoth : ∀ x, x ≠ d → w'.heap[x]? = w1.heap[x]?) (hsz : w'.heap.size = w1.heap.size) (z : Int)
    (row : w'.heap[d]? = some (.cells #[.bool st.off, .int .i64 (if z < 1 then 1 else z), kv2, .int .i64 st.size, .slice (some ⟨kb, 0, none⟩) st.kept.length st.kept.length, pv, .map (some mb), .int .i64 st.writes, .int .i64 st.reads] 51 (0, 0))) (h2 : z ≤ 9223372036854775807) :
    DkIn w' (fun x => Z x ∨ (w.heap.size ≤ x ∧ x < w'.heap.size)) d (armS st z kl) := by
  have ho : ∀ x, Z x → x ≠ d → w'.heap[x]? = w.heap[x]? := fun x hx hne => by rw [hoth x hne, hb.block x (hz x hx)]
  have hm : ∀ x, Z x → ¬ MutD d kb mb pv x → w'.heap[x]? = w.heap[x]? := fun x hx h => ho x hx (fun e => h (.inl e))
  refine ⟨fun x hx => ?_, kb, mb, pv, kv2, vals, pvs, row, ?_, ?_, ?_, ?_, ?_, ?_, p.ne, p.rm, fun x hx => .inl (p.z x hx), ⟨p.ok.size, p.ok.n, p.ok.kept, p.ok.pend, ?_, p.ok.few, p.ok.writes, p.ok.reads⟩⟩
  · rcases hx with hx | hx
    · rw [hsz]; exact Nat.lt_of_lt_of_le (hz x hx) hb.size
    · exact hx.2
  · rw [ho kb (p.z kb (.inr (.inl rfl))) p.ne.1.symm]; exact p.krow
  · exact p.kvals.imp fun v l h => h.at hm (fun _ _ h => h) (fun _ h => .inl h)
  · exact ownsRow_at p.prow (fun g hg => ho g (p.z g (.inr (.inr (.inr hg)))) (p.rm g hg).1)
  · exact p.pvals.imp fun v l h => h.at hm (fun _ _ h => h) (fun _ h => .inl h)
  · exact p.map.at (ho mb (p.z mb (.inr (.inr (.inl rfl)))) p.ne.2.1.symm)
  · obtain ⟨a, c, hv, hr, hq⟩ := hk.ex
    have hdw : d < w.heap.size := hz d (p.z d (.inl rfl))
    refine ⟨a, n, c, hv, hr.kept (fun x hx h0 => hoth _ (fun e => ?_)), fun q hqa h0 => ⟨fun hmm => ?_, .inr ⟨(hq q hqa h0).1, ?_⟩⟩⟩
    · have := (hq x hx h0).1
      omega
    · have := hz _ (p.z _ hmm)
      have := (hq q hqa h0).1
      omega
    · rw [hsz]; exact (hq q hqa h0).2
  · show 0 ≤ (if z < 1 then 1 else z) ∧ (if z < 1 then 1 else z) ≤ 9223372036854775807
    split <;> omega
set_option linter.unusedSimpArgs false in
set_option linter.unusedVariables false in
set_option maxRecDepth 100000 in
set_option maxHeartbeats 2000000 in
theorem arm_any (Z : Nat → Prop) (d : Nat) (st : Dk) (z : Int) (a : Option Addr) (n c : Nat) (kl : List Bool) (w : World) (h : DkIn w Z d st) (hk : RdB w a n c kl) (hn : n ≤ 1000000000) (h1 : -9223372036854775808 ≤ z) (h2 : z ≤ 9223372036854775807) :
    Calls Try.prog 15 #[.pointer (some ⟨d, 0, none⟩), .int .i64 z, .slice a n c] w fun e w' => e = .returned (.tuple #[]) ∧ ∃ Z', DkIn w' Z' d (armS st z kl) ∧ Tnd Z Z' w w' := by
  obtain ⟨hz, kb, mb, pv, kv, vals, pvs, p⟩ := h
  have P := Lib.hid p
  have K := Lib.hid hk
  have hZd := hz d (p.z d (.inl rfl))
  have HD := Lib.hid (p.z d (.inl rfl))
  by_cases hn1 : z < 1
  · have e1 : (if z < 1 then 1 else z) = 1 := if_pos hn1
    have e2 : (max z 1 : Int) = 1 := by omega
    clear p hk
    go_enter Try.func15, Try.ntmps15
    go_wp2_with fail
    refine (cloneB_any a n c kl _ K.out hn).mono ?_
    rintro e w1 ⟨v, rfl, hnb⟩
    obtain ⟨a1, c1, hv, _⟩ := hnb.ex
    subst hv
    have NB := Lib.hid hnb
    have hrow := row_keep P.out.row hnb.below
    obtain ⟨y0, y1, y2, y3, y4, y5, y6, y7, y8, cf⟩ := cellsD hrow
    have HROW := Lib.hid hrow
    have HE := Lib.hid e1
    clear hnb hrow e1
    go_wp2_with fail

    go_end0
    have hoth : ∀ x, x ≠ d → ((w1.setCell ⟨d, 1, none⟩ (.int .i64 1)).setCell ⟨d, 2, none⟩ (.slice a1 n c1)).heap[x]? = w1.heap[x]? := fun x hne => by
      rw [heap_setCell_other _ ⟨d, 2, none⟩ x _ hne, heap_setCell_other w1 ⟨d, 1, none⟩ x _ hne]
    refine ⟨rfl, _, armQ P.out hz NB.out.below (.slice a1 n c1) n kl NB.out hoth (by simp) z (by
      rw [HE.out, heap_setCell_same _ d 2 _ _ _ (heap_setCell_same w1 d 1 _ _ _ HROW.out)]
      simp) h2, ⟨NB.out.below.os, NB.out.below.tape, NB.out.below.output, by simpa using NB.out.below.size, fun x hx hzx => ?_, fun x h => h.imp id (·.1)⟩⟩
    rw [hoth x (fun e => hzx (by rw [e]; exact HD.out))]
    exact NB.out.below.block x hx
  · have e1 : (if z < 1 then 1 else z) = z := if_neg hn1
    clear p hk
    go_enter Try.func15, Try.ntmps15
    go_wp2_with fail
    refine (cloneB_any a n c kl _ K.out hn).mono ?_
    rintro e w1 ⟨v, rfl, hnb⟩
    obtain ⟨a1, c1, hv, _⟩ := hnb.ex
    subst hv
    have NB := Lib.hid hnb
    have hrow := row_keep P.out.row hnb.below
    obtain ⟨y0, y1, y2, y3, y4, y5, y6, y7, y8, cf⟩ := cellsD hrow
    have HROW := Lib.hid hrow
    have HE := Lib.hid e1
    clear hnb hrow e1
    go_wp2_with fail

    go_end0
    have hoth : ∀ x, x ≠ d → ((w1.setCell ⟨d, 1, none⟩ (.int .i64 z)).setCell ⟨d, 2, none⟩ (.slice a1 n c1)).heap[x]? = w1.heap[x]? := fun x hne => by
      rw [heap_setCell_other _ ⟨d, 2, none⟩ x _ hne, heap_setCell_other w1 ⟨d, 1, none⟩ x _ hne]
    refine ⟨rfl, _, armQ P.out hz NB.out.below (.slice a1 n c1) n kl NB.out hoth (by simp) z (by
      rw [HE.out, heap_setCell_same _ d 2 _ _ _ (heap_setCell_same w1 d 1 _ _ _ HROW.out)]
      simp) h2, ⟨NB.out.below.os, NB.out.below.tape, NB.out.below.output, by simpa using NB.out.below.size, fun x hx hzx => ?_, fun x h => h.imp id (·.1)⟩⟩
    rw [hoth x (fun e => hzx (by rw [e]; exact HD.out))]
    exact NB.out.below.block x hx
end Go.Proofs.Ytlhpdkapddnbcaa

namespace Go.Proofs.Ytlhpdkapddnbcaa
open Go.RowKit
set_option linter.unusedSimpArgs false in
set_option linter.unusedVariables false in
set_option maxRecDepth 100000 in
set_option maxHeartbeats 2000000 in
theorem ropen_no (Z : Nat → Prop) (d : Nat) (st : Dk) (lo n : Nat) (w0 : World) (h : DkIn w0 Z d st) (h4 : 4 ≤ n) (hn : n ≤ st.kept.length) (hn2 : st.kept.length < lo + n) (hlo : lo ≤ 1000000) :
    Calls Try.prog 19 #[.pointer (some ⟨d, 0, none⟩), .int .i64 (lo : Int), .int .i64 (n : Int)] w0 fun e w' => (∃ v, e = .returned (.tuple #[.pointer none, .slice none 0 0, v]) ∧ FailAt w' v 1) ∧ Below w0.heap.size w0 w' := by
  have HON := Lib.hid (ron_no Z d st lo n w0 h h4 hn hn2 hlo)
  clear h h4 hn hn2 hlo
  go_enter Try.func19, Try.ntmps19
  go_wp2_with fail
  go_step3
  go_wp2_with fail
  refine HON.out.mono ?_
  rintro e w1 ⟨rfl, hb1⟩
  have B1 := Lib.hid hb1
  clear hb1
  go_wp2_with fail
  refine (fail_any 1 w1).mono ?_
  rintro e w4 ⟨rfl, rfl⟩
  go_wp2_with fail
  rw [Exit.noGoto_ret]
  go_ret3
  have hba : Below w1.heap.size w1 (w1.alloc (.cells #[.int .i64 1] 112)) := (Below.refl _ _).alloc (Nat.le_refl _) _
  refine ⟨⟨_, rfl, w1.heap.size, rfl, ?_⟩, B1.out.trans (hba.mono B1.out.size)⟩
  rw [cell_of_row _ _ _ _ _ _ (heap_alloc_new w1 (.cells #[.int .i64 1] 112))]
  rfl
end Go.Proofs.Ytlhpdkapddnbcaa

namespace Go.Proofs.Ytlhpdkapddnbcaa
open Go.RowKit
def bgT (n size : Nat) : Int := fmT n (fun k => secB (dk0 (n + 4) size) (2 + k)) 2
/-- The world of a play, as begun makes it. -/
structure Begun (w0 w : World) (g d r : Nat) (Q : Nat → Prop) (n size : Nat) : Prop where
  row : w.heap[g]? = some (.cells #[.pointer (some ⟨d, 0, none⟩), .pointer (some ⟨r, 0, none⟩), .int .i64 2, .int .i64 (n : Int), .slice none 0 0, .int .u64 1, .bool false, .slice none 0 0, .int .u64 0] 31 (0, 0))
  ri : RiIn w Q r d (fmS (dk0 (n + 4) size) 2 size (bgT n size)) (fmJ 2 n size (bgT n size))
  ng : ¬ Q g
  base : ∀ k, Q k → w0.heap.size ≤ k
  gb : w0.heap.size ≤ g
  below : Below w0.heap.size w0 w
set_option linter.unusedSimpArgs false in
set_option linter.unusedVariables false in
set_option maxRecDepth 100000 in
set_option maxHeartbeats 2000000 in
theorem begun_any (n size : Nat) (w0 : World) (hn4 : 4 ≤ n) (hn : n ≤ 60) (hs : 64 ≤ size) (hs2 : size ≤ 512) :
    Calls Try.prog 10 #[.int .i64 (size : Int), .int .i64 (n : Int)] w0 fun e w' => ∃ g d r Q, e = .returned (.pointer (some ⟨g, 0, none⟩)) ∧ Begun w0 w' g d r Q n size := by
  have hrb : rightB ((n + 4 : Nat) : Int) size = true := by unfold rightB; simp; omega
  have HNW := Lib.hid (new_any (n + 4) size w0 hrb)
  have HFM : Hid (∀ (Z : Nat → Prop) (d : Nat) (w : World), DkIn w Z d (dk0 (n + 4) size) → Calls Try.prog 14 #[.pointer (some ⟨d, 0, none⟩), .int .i64 2, .int .i64 (n : Int)] w fun e w' => ∃ r, e = .returned (.tuple #[.pointer (some ⟨r, 0, none⟩), .nilIface]) ∧ ∃ Q', RiIn w' Q' r d (fmS (dk0 (n + 4) size) 2 size (bgT n size)) (fmJ 2 n size (bgT n size)) ∧ Tnd Z Q' w w') := fun Z d w h => format_any Z d (dk0 (n + 4) size) 2 n w h hn4 (by show 2 + n ≤ (List.replicate (n + 4) _).length; rw [List.length_replicate]; omega) rfl rfl rfl (by show (0 : Int) + 2 ≤ _; omega) (by show (0 : Int) + 2 ≤ _; omega)
  have hw : IntKind.i64.wrap ((n : Int) + 4) = ((n + 4 : Nat) : Int) := by rw [i64_small] <;> omega
  replace HNW : Hid (Calls Try.prog 13 #[.int .i64 ((n : Int) + 4), .int .i64 size] w0 fun e w' => ∃ d Z, e = .returned (.tuple #[.pointer (some ⟨d, 0, none⟩), .int .i64 0]) ∧ DkIn w' Z d (dk0 (n + 4) size) ∧ (∀ k, Z k → w0.heap.size ≤ k) ∧ Below w0.heap.size w0 w') := HNW
  clear hrb hw
  go_enter Try.func10, Try.ntmps10
  go_wp2_with fail
  refine HNW.out.mono ?_
  rintro e w1 ⟨d, Z, rfl, hd1, hz1, hb1⟩
  have D1 := Lib.hid hd1
  have Z1 := Lib.hid hz1
  have B1 := Lib.hid hb1
  clear hd1 hz1 hb1
  go_wp2_with fail
  refine (HFM.out Z d w1 D1.out).mono ?_
  rintro e w2 ⟨r, rfl, Q, hr2, ht2⟩
  have R2 := Lib.hid hr2
  have B2 := Lib.hid (B1.out.trans (ht2.below Z1.out B1.out.size))
  have Q2 := Lib.hid (ht2.base Z1.out B1.out.size)
  clear hr2 ht2
  go_wp2_with fail
  go_ret
  have hba : Below w2.heap.size w2 (w2.alloc (.cells #[.pointer (some ⟨d, 0, none⟩), .pointer (some ⟨r, 0, none⟩), .int .i64 2, .int .i64 (n : Int), .slice none 0 0, .int .u64 1, .bool false, .slice none 0 0, .int .u64 0] 31)) := (Below.refl _ _).alloc (Nat.le_refl _) _
  exact ⟨w2.heap.size, d, r, Q, rfl, heap_alloc_new _ _, R2.out.below hba, fun hq => Nat.lt_irrefl _ (R2.out.lt _ hq), Q2.out, B2.out.size, B2.out.trans (hba.mono B2.out.size)⟩
end Go.Proofs.Ytlhpdkapddnbcaa
