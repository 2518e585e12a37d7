/- segs: the document's New, Take, Add, Release, Count. -/
import Derived.Test.YthikpggndjfeaaaSgRf
import Derived.Test.YthikpggndjfeaaaSgCount
import Derived.OwnWalk
namespace Go.Proofs.Ythikpggndjfeaaa
open Go.RowKit
set_option maxRecDepth 100000 in
theorem segI : (Try.prog.info? 55).map (fun i => (i.zero, i.size, i.bytes)) = some (some (.agg #[.int .i64 0, .int .i64 0, .int .i64 0]), 3, 24) := by kernel_rfl
set_option maxRecDepth 100000 in
theorem segT : Try.prog.underlying 51 = some (.slice 55) := Try.underlying51
theorem rc_zeros : ∀ n : Nat, (List.replicate n ent0).flatMap Ent.rc = List.replicate (n * 3) (.int .i64 0)
  | 0 => rfl
  | n + 1 => by
    rw [List.replicate_succ, List.flatMap_cons, rc_zeros n, show (n + 1) * 3 = n * 3 + 1 + 1 + 1 by omega, List.replicate_succ, List.replicate_succ, List.replicate_succ]
    rfl
theorem made_zeros (n : Nat) : madeCells #[.int .i64 0, .int .i64 0, .int .i64 0] n = (List.replicate n (Value.int .i64 0)).toArray := by
  apply Array.ext
  · simp [madeCells]
  · intro i h1 h2
    have h3 : i % 3 = 0 ∨ i % 3 = 1 ∨ i % 3 = 2 := by omega
    rcases h3 with h | h | h <;> simp [madeCells, h]
set_option maxRecDepth 100000 in
theorem mk_segs (n : Nat) (hn : n ≤ 1000000) (w : World) : (Instr.makeSlice 51 (.int .i64 (n : Int)) (.int .i64 (n : Int))).run Try.prog w = .ok (.slice (some ⟨w.heap.size, 0, none⟩) n n) (w.alloc (.cells ((List.replicate n ent0).flatMap Ent.rc).toArray 55)) := by
  obtain ⟨i, hi, hz, hs, hb⟩ := info_parts segI
  have hr := run_make (P := Try.prog) w 51 55 i (.agg #[.int .i64 0, .int .i64 0, .int .i64 0]) segT hi hz .i64 .i64 n n (by omega) (Int.le_refl _) (by rw [hb]; omega) (by omega)
  rw [hr, hs, Int.toNat_natCast, rc_zeros]
  rw [show (Value.agg #[.int .i64 0, .int .i64 0, .int .i64 0]).cells = #[.int .i64 0, .int .i64 0, .int .i64 0] from rfl, made_zeros]
set_option maxRecDepth 100000 in
theorem refnew_no (n : Int) (w : World) (h : n < 1 ∨ 65536 < n) : Calls Try.prog 18 #[.int .i64 n] w fun e w' => e = .returned (.tuple #[.pointer none, .int .i64 1]) ∧ w = w' := by
  by_cases h1 : n < 1
  · have d1 : decide (n < 1) = true := decide_eq_true h1
    go_enter Try.func18, Try.ntmps18
    go_wp2
    go_ret2
    exact ⟨rfl, rfl⟩
  · have d1 : decide (n < 1) = false := decide_eq_false h1
    have d2 : decide (65536 < n) = true := decide_eq_true (by omega)
    go_enter Try.func18, Try.ntmps18
    go_wp2
    go_ret2
    exact ⟨rfl, rfl⟩
set_option maxRecDepth 100000 in
theorem refnew_any (n : Nat) (w : World) (h1 : 1 ≤ n) (h2 : n ≤ 65536) :
    Calls Try.prog 18 #[.int .i64 n] w fun e w' => e = .returned (.tuple #[.pointer (some ⟨w.heap.size + 1, 0, none⟩), .int .i64 0]) ∧ RtIn w' (w.heap.size + 1) w.heap.size (List.replicate n ent0) ∧ Below w.heap.size w w' := by
  have d1 : decide ((n : Int) < 1) = false := decide_eq_false (by omega)
  have d2 : decide ((65536 : Int) < n) = false := decide_eq_false (by omega)
  have hmk := mk_segs n (by omega) w
  obtain ⟨w1, hw1⟩ : ∃ z, w.alloc (.cells ((List.replicate n ent0).flatMap Ent.rc).toArray 55) = z := ⟨_, rfl⟩
  have hsz : w1.heap.size = w.heap.size + 1 := by rw [← hw1]; simp
  have hrow := heap_alloc_new w (.cells ((List.replicate n ent0).flatMap Ent.rc).toArray 55)
  have hb : Below w.heap.size w w1 := by rw [← hw1]; exact (Below.refl _ _).alloc (Nat.le_refl _) _
  rw [hw1] at hmk hrow
  have HR := Lib.hid hrow
  have HB := Lib.hid hb
  have HS := Lib.hid hsz
  clear hrow hb hw1 hsz
  go_enter Try.func18, Try.ntmps18
  go_wp2
  go_ret2
  have hrd := heap_alloc_new w1 (.cells #[.slice (some ⟨w.heap.size, 0, none⟩) n n] 53)
  rw [HS.out] at hrd
  refine ⟨by rw [← HS.out]; rfl, ⟨by rw [hrd, List.length_replicate], row_keep HR.out ((Below.refl _ _).alloc (Nat.le_refl _) _), rep_ok h1 h2, by omega⟩, HB.out.alloc (by rw [HS.out]; omega) _⟩
set_option linter.unusedSimpArgs false in
set_option linter.unusedVariables false in
set_option maxRecDepth 100000 in
set_option maxHeartbeats 2000000 in
theorem reftake_any (d g : Nat) (L : List Ent) (w : World) (h : RtIn w d g L) :
    Calls Try.prog 33 #[.pointer (some ⟨d, 0, none⟩)] w fun e w' => e = .returned (.tuple #[.int .i64 (takeR L), .int .i64 (takeX L)]) ∧ RtIn w' d g (takeS L) ∧ w.grownBy w' (some g) := by
  have H := Lib.hid h
  have c0 := h.c0
  obtain ⟨n, hn⟩ : ∃ n, L.length = n := ⟨_, rfl⟩
  have hn2 := h.ok.n
  rw [hn] at c0 hn2
  obtain ⟨q, hq⟩ : ∃ q, freeI L = q := ⟨_, rfl⟩
  have hqn : q ≤ n := by rw [← hq, ← hn]; exact freeI_le L
  have HQ := Lib.hid hq
  have HN := Lib.hid hn
  clear h hn hq
  go_enter Try.func33, Try.ntmps33
  go_wp2_with fail
  go_loopw [4] (fun i wr => ∃ k : Nat, k ≤ q ∧ i = .int .i64 k ∧ w = wr) (fun i _ => n - (intOf i).toNat)
  case atStart => exact ⟨0, by omega, rfl, rfl⟩
  case round =>
    obtain ⟨k, hk, rfl, rfl⟩ := hrel
    by_cases hkn : k < n
    · have hkl : k < L.length := by rw [HN.out]; exact hkn
      obtain ⟨x0, x1, x2⟩ := H.out.get k hkl
      have hf := H.out.frz
      by_cases hkq : k = q
      · subst hkq
        have h0 : (getE L k).st = 0 := by
          have := freeI_at L (by rw [HQ.out, HN.out]; omega)
          rw [HQ.out] at this
          rw [getE_nat]
          exact this
        have hz := (getE_ok H.out.ok (k : Int)).zero h0
        obtain ⟨r1, r2⟩ := H.out.set k 0 ⟨1, 0, 0⟩ (.int .i64 1) hkl (by omega) (by rw [hz]; rfl) (set_ok H.out.ok k ⟨fun q => absurd q (show (1 : Int) ≠ 0 by decide), by decide⟩)
        have e1 : takeR L = k := by unfold takeR; rw [HQ.out, HN.out, if_pos (by omega)]
        have e2 : takeX L = 0 := by unfold takeX; rw [HQ.out, HN.out, if_pos (by omega)]
        have e3 : takeS L = setE L k ⟨1, 0, 0⟩ := by unfold takeS; rw [HQ.out, HN.out, if_pos (by omega)]
        rw [← e3] at r1
        rw [h0] at x0
        have E1 := Lib.hid e1
        have E2 := Lib.hid e2
        have R1 := Lib.hid r1
        have R2 := Lib.hid r2
        clear h0 hz e1 e2 e3 r1 r2 hkl
        go_wp2
        go_ret2
        exact ⟨by rw [E1.out, E2.out]; rfl, R1.out, R2.out⟩
      · have h0 : (getE L k).st ≠ 0 := by
          rw [getE_nat]
          exact freeI_lt L k (by rw [HQ.out]; omega)
        obtain ⟨S, hS⟩ : ∃ S, (getE L k).st = S := ⟨_, rfl⟩
        rw [hS] at x0 h0
        have d0 : (S == 0) = false := by simpa using h0
        clear h0 hS hkl
        go_wp2
        go_roundw
        case rel => exact ⟨k + 1, by omega, by go_num, by trivial⟩
        case measure => simp [intOf] <;> omega
    · have e1 : takeR L = 0 := by unfold takeR; rw [HQ.out, HN.out, if_neg (by omega)]
      have e2 : takeX L = 10 := by unfold takeX; rw [HQ.out, HN.out, if_neg (by omega)]
      have e3 : takeS L = L := by unfold takeS; rw [HQ.out, HN.out, if_neg (by omega)]
      have E1 := Lib.hid e1
      have E2 := Lib.hid e2
      have E3 := Lib.hid e3
      clear e1 e2 e3
      go_wp2
      go_ret2
      exact ⟨by rw [E1.out, E2.out]; rfl, by rw [E3.out]; exact H.out, World.grownBy.refl _ _⟩
set_option linter.unusedSimpArgs false in
set_option linter.unusedVariables false in
set_option maxRecDepth 100000 in
set_option maxHeartbeats 2000000 in
theorem refcount_any (d g : Nat) (L : List Ent) (s : Int) (w : World) (h : RtIn w d g L) :
    Calls Try.prog 39 #[.pointer (some ⟨d, 0, none⟩), .int .i64 s] w fun e w' => e = .returned (.int .i64 (cntL L s)) ∧ w = w' := by
  have H := Lib.hid h
  have c0 := h.c0
  obtain ⟨n, hn⟩ : ∃ n, L.length = n := ⟨_, rfl⟩
  have hn2 := h.ok.n
  rw [hn] at c0 hn2
  have HN := Lib.hid hn
  clear h hn
  go_enter Try.func39, Try.ntmps39
  go_wp2_with fail
  go_loopw [5, 6] (fun z i wr => ∃ k : Nat, k ≤ n ∧ i = .int .i64 k ∧ z = .int .i64 (cntL (L.take k) s) ∧ w = wr) (fun _ i _ => n - (intOf i).toNat)
  case atStart => exact ⟨0, by omega, rfl, rfl, rfl⟩
  case round =>
    obtain ⟨k, hk, rfl, rfl, rfl⟩ := hrel
    by_cases hkn : k < n
    · have hkl : k < L.length := by rw [HN.out]; exact hkn
      obtain ⟨x0, x1, x2⟩ := H.out.get k hkl
      have hct := cnt_take (s := s) hkl
      have hcl : cntL (L.take k) s ≤ 65536 := by
        have h1 := cnt_le (L.take k) s
        rw [List.length_take] at h1
        omega
      obtain ⟨C, hC⟩ : ∃ C, cntL (L.take k) s = C := ⟨_, rfl⟩
      obtain ⟨S, hS⟩ : ∃ S, (getE L k).st = S := ⟨_, rfl⟩
      rw [hC] at hct hcl
      rw [hS] at hct x0
      rw [hC]
      have wr : IntKind.i64.wrap ((C : Int) + 1) = (C : Int) + 1 := IntWalk.i64_in _ (by omega)
      by_cases he : S = s
      · rw [if_pos he] at hct
        subst he
        have HCT := Lib.hid hct
        clear hct hC hS hkl hcl
        go_wp2
        go_roundw
        case rel => exact ⟨k + 1, by omega, by go_num, by rw [HCT.out]; go_num, by trivial⟩
        case measure => simp [intOf] <;> omega
      · rw [if_neg he] at hct
        have HCT := Lib.hid hct
        have d0 : (S == s) = false := by simpa using he
        clear hct hC hS hkl hcl he
        go_wp2
        go_roundw
        case rel => exact ⟨k + 1, by omega, by go_num, by rw [HCT.out]; rfl, by trivial⟩
        case measure => simp [intOf] <;> omega
    · obtain rfl : k = n := by omega
      have e : L.take k = L := List.take_of_length_le (by rw [HN.out]; exact Nat.le_refl _)
      rw [e]
      clear e
      go_wp2
      go_ret
      exact ⟨rfl, rfl⟩
end Go.Proofs.Ythikpggndjfeaaa
