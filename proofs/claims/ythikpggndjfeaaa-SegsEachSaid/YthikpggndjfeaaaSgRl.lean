/- segs: the document's Load. -/
import Derived.Test.YthikpggndjfeaaaSgRh
namespace Go.Proofs.Ythikpggndjfeaaa
open Go.RowKit
theorem loadP_ok {l : List Bool} {j : Nat} (h1 : 1 ≤ l.length) (h2 : l.length ≤ 65536) (hj : j ≤ l.length) : LOk (loadP l j) := by
  refine ⟨by rw [loadP_len hj]; exact ⟨h1, h2⟩, fun e he => ?_⟩
  unfold loadP at he
  rcases List.mem_append.1 he with h | h
  · obtain ⟨b, _, rfl⟩ := List.mem_map.1 h
    unfold loadE
    split
    · exact ⟨fun q => absurd q (by decide), by decide⟩
    · exact ent0_ok
  · rw [(List.mem_replicate.1 h).2]
    exact ent0_ok
theorem loadP_get {l : List Bool} {j : Nat} (h : j < l.length) : getE (loadP l j) j = ent0 := by
  rw [getE_nat]
  unfold loadP
  rw [List.getElem?_append_right (by rw [List.length_map, List.length_take]; omega), List.length_map, List.length_take, show j - min j l.length = 0 by omega, List.getElem?_replicate, if_pos (by omega)]
  rfl
/-- A table of the document's that was made behind w. -/
structure RtW (w wr : World) (d g : Nat) (L : List Ent) : Prop where
  t : RtIn wr d g L
  b : Below w.heap.size w wr
  d0 : w.heap.size ≤ d
  g0 : w.heap.size ≤ g
theorem RtW.step {w wr w' : World} {d g : Nat} {L L' : List Ent} (h : RtW w wr d g L) (ht : RtIn w' d g L') (hg : wr.grownBy w' (some g)) : RtW w w' d g L' :=
  ⟨ht, Below.grown h.b hg h.b.size (fun k e => by injection e with e; have := h.g0; omega), h.d0, h.g0⟩
theorem RtW.more {w wr w' : World} {d g : Nat} {L : List Ent} (h : RtW w wr d g L) (hb : Below wr.heap.size wr w') : RtW w w' d g L :=
  ⟨h.t.below hb, Below.call h.b hb, h.d0, h.g0⟩
theorem RtIn.congr0 {w : World} {d g g2 : Nat} {L : List Ent} (h : RtIn w d g L) (e : g = g2) : RtIn w d g2 L := by rw [← e]; exact h
set_option linter.unusedSimpArgs false in
set_option linter.unusedVariables false in
set_option maxRecDepth 100000 in
set_option maxHeartbeats 2000000 in
theorem refload_no (a : Option Addr) (n c : Nat) (w : World) (h : n < 1 ∨ 65536 < n) : Calls Try.prog 24 #[.slice a n c] w fun e w' => e = .returned (.tuple #[.pointer none, .int .i64 1]) ∧ Below w.heap.size w w' := by
  go_enter Try.func24, Try.ntmps24
  go_wp2_with fail
  refine (refnew_no (n : Int) w (by omega)).mono ?_
  rintro e w1 ⟨rfl, rfl⟩
  go_wp2_with fail
  go_loopw [6] (fun i wr => i = .int .i64 0 ∧ w = wr) (fun _ _ => 0)
  case atStart => exact ⟨rfl, rfl⟩
  case round =>
    obtain ⟨rfl, rfl⟩ := hrel
    by_cases h0 : n = 0
    · subst h0
      go_wp2
      go_ret2
      exact ⟨rfl, Below.refl _ _⟩
    · have d1 : decide ((0 : Int) < (n : Int)) = true := decide_eq_true (by omega)
      have d2 : decide (0 < n) = true := decide_eq_true (by omega)
      go_wp2
      go_ret2
      exact ⟨rfl, Below.refl _ _⟩
set_option linter.unusedSimpArgs false in
set_option linter.unusedVariables false in
set_option maxRecDepth 100000 in
set_option maxHeartbeats 2000000 in
theorem refload_any (a : Option Addr) (n c : Nat) (l : List Bool) (w : World) (h : RdB w a n c l) (h1 : 1 ≤ n) (h2 : n ≤ 65536) :
    Calls Try.prog 24 #[.slice a n c] w fun e w' => ∃ d g, e = .returned (.tuple #[.pointer (some ⟨d, 0, none⟩), .int .i64 0]) ∧ RtW w w' d g (loadL l) := by
  have HL := Lib.hid h
  clear h
  go_enter Try.func24, Try.ntmps24
  go_wp2_with fail
  refine (refnew_any n w h1 h2).mono ?_
  rintro e w1 ⟨rfl, ht, hb⟩
  obtain ⟨d, hd⟩ : ∃ d, w.heap.size + 1 = d := ⟨_, rfl⟩
  obtain ⟨g, hmb⟩ : ∃ g, w.heap.size = g := ⟨_, rfl⟩
  have S2 : Hid (RtW w w1 d g (loadP l 0)) := by
    have e : loadP l 0 = List.replicate n ent0 := by unfold loadP; rw [HL.out.len]; rfl
    rw [e]
    show RtW w w1 d g _
    rw [← hd]
    exact ⟨ht.congr0 hmb, hb, by omega, by omega⟩
  rw [hd]
  clear ht hb hd hmb
  go_wp2_with fail
  go_loopw [6] (fun i wr => ∃ j : Nat, j ≤ n ∧ i = .int .i64 j ∧ Hid (RtW w wr d g (loadP l j))) (fun i _ => n - (intOf i).toNat)
  case atStart => exact ⟨0, by omega, rfl, S2⟩
  case round =>
    clear S2
    obtain ⟨j, hj, rfl, S⟩ := hrel
    have c0 := S.out.t.c0
    rw [loadP_len (by rw [HL.out.len]; exact hj), HL.out.len] at c0
    by_cases hjn : j < n
    · obtain ⟨ab, o, ea, hc⟩ := (HL.out.below S.out.b).cell j hjn
      subst ea
      have hjl : j < l.length := by rw [HL.out.len]; exact hjn
      have hjp : j < (loadP l j).length := by rw [loadP_len (Nat.le_of_lt hjl)]; exact hjl
      cases hv : l.getD j false with
      | true =>
        rw [hv] at hc
        obtain ⟨x0, x1, x2⟩ := S.out.t.get j hjp
        have hf := S.out.t.frz
        have e := loadP_next hjl
        rw [hv] at e
        replace e : setE (loadP l j) j KF = loadP l (j + 1) := e
        obtain ⟨r1, r2⟩ := S.out.t.set j 0 KF (.int .i64 2) hjp (by omega) (by rw [loadP_get hjl]; rfl) (by rw [e]; exact loadP_ok (by omega) (by rw [HL.out.len]; exact h2) hjl)
        rw [e] at r1
        have S3 := Lib.hid (S.out.step r1 r2)
        clear e hv r1 r2 S hjl hjp
        go_wp2_with fail
        go_roundw
        case rel => exact ⟨j + 1, by omega, by go_num, S3⟩
        case measure => simp [intOf] <;> omega
      | false =>
        rw [hv] at hc
        have S3 : Hid (RtW w wr d g (loadP l (j + 1))) := by rw [← loadP_same hjl hv]; exact S
        clear hv S hjl hjp
        go_wp2_with fail
        go_roundw
        case rel => exact ⟨j + 1, by omega, by go_num, S3⟩
        case measure => simp [intOf] <;> omega
    · obtain rfl : j = n := by omega
      have S3 : Hid (RtW w wr d g (loadL l)) := by
        have e := loadP_end l
        rw [HL.out.len] at e
        rw [← e]
        exact S
      clear S
      go_wp2_with fail
      go_ret2
      exact ⟨d, g, rfl, S3.out⟩
end Go.Proofs.Ythikpggndjfeaaa
