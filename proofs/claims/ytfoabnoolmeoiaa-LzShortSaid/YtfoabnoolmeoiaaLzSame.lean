/- lz's same, key, literal, copied: their contracts. -/
import Derived.Test.YtfoabnoolmeoiaaLzPkLaw
import Derived.Test.YtfoabnoolmeoiaaGet
import Derived.Test.YtfoabnoolmeoiaaClone
import Derived.Test.YtfoabnoolmeoiaaFree
import Derived.BigQuiet
namespace Go.Proofs.Ytfoabnoolmeoiaa
open Go.RowKit
theorem belowN {B : Nat} {a w : World} (h : Below B a w) (n : Nat) : Below B a (w.drewN n) := ⟨h.os, h.tape, h.output, h.size, h.block⟩
set_option linter.unusedSimpArgs false in
set_option linter.unusedVariables false in
set_option maxRecDepth 100000 in
set_option maxHeartbeats 1000000 in
theorem same_any (a : Option Addr) (n c : Nat) (b : List Int) (i j : Nat) (w : World) (h : RdAt .u8 w a n c b) (hij : i < j) (hj : j ≤ n) (hn : n ≤ 100000) :
    Calls Try.prog 23 #[.slice a n c, .int .i64 i, .int .i64 j] w fun e w' => e = .returned (.int .i64 (sameN b i j : Nat)) ∧ Below w.heap.size w w' := by
  have H := Lib.hid h
  have HL := Lib.hid h.len
  clear h
  go_enter Try.func23, Try.ntmps23
  go_wp2
  go_loopw [7] (fun v wr => ∃ k : Nat, k ≤ n - j ∧ v = .int .i64 k ∧ Below w.heap.size w wr ∧ Hid (sameN b i j = sameF b i j (n - j - k) k)) (fun v _ => n - (intOf v).toNat)
  case atStart => exact ⟨0, Nat.zero_le _, rfl, Below.refl _ _, by show _ = _; unfold sameN; rw [HL.out]; rfl⟩
  case round =>
    obtain ⟨k, hk, rfl, hb, hs⟩ := hrel
    have HB := Lib.hid hb
    clear hb
    by_cases p1 : j + k < n
    · have e1 : decide ((j : Int) + (k : Int) < (n : Int)) = true := decide_eq_true (by omega)
      have HR := Lib.hid (H.out.below HB.out)
      obtain ⟨g, o, rfl, c1⟩ := HR.out.cell (i + k) (by omega)
      obtain ⟨g', o', he, c2⟩ := HR.out.cell (j + k) (by omega)
      injection he with he
      injection he with e2 e3
      subst e2 e3
      by_cases p2 : nth b (i + k) = nth b (j + k)
      · have HS : Hid (sameN b i j = sameF b i j (n - j - (k + 1)) (k + 1)) := by
          show _ = _
          rw [hs.out, show n - j - k = (n - j - (k + 1)) + 1 by omega, sameF, if_pos p2]
        rw [p2] at c1
        clear p2 hs
        go_wp2
        go_quiet (fail)
        go_wp2
        go_roundw
        case rel => exact ⟨k + 1, by omega, by go_num, Below.call HB.out (belowN (Below.refl _ _) _), HS⟩
        case measure => simp [intOf] <;> omega
      · have HS : Hid (sameN b i j = k) := by
          show _ = _
          rw [hs.out, show n - j - k = (n - j - (k + 1)) + 1 by omega, sameF, if_neg p2]
        have e4 : (nth b (i + k) == nth b (j + k)) = false := beq_eq_false_iff_ne.2 p2
        clear hs
        go_wp2
        go_quiet (fail)
        go_wp2
        go_ret
        exact ⟨by rw [HS.out]; rfl, Below.call HB.out (belowN (Below.refl _ _) _)⟩
    · have e1 : decide ((j : Int) + (k : Int) < (n : Int)) = false := decide_eq_false (by omega)
      have HS : Hid (sameN b i j = k) := by
        show _ = _
        rw [hs.out, show n - j - k = 0 by omega]
        rfl
      clear hs
      go_wp2
      go_quiet (fail)
      go_wp2
      go_ret
      exact ⟨by rw [HS.out]; rfl, Below.call HB.out (belowN (Below.refl _ _) _)⟩
/-- A part of what reads so. -/
theorem RdAt.part {kd : IntKind} {w : World} {g o n c : Nat} {l : List Int} (h : RdAt kd w (some ⟨g, o, none⟩) n c l) (lo k c' : Nat) (hk : lo + k ≤ n) (hc : k ≤ c') (hc' : c' ≤ c) : RdAt kd w (some ⟨g, o + lo, none⟩) k c' ((l.drop lo).take k) := by
  have hl := h.len
  have hcap := h.cap
  refine ⟨by rw [List.length_take, List.length_drop]; omega, hc, Nat.le_trans hc' h.max, fun i hi => ?_, fun x hx => h.wf x (List.mem_of_mem_drop (List.mem_of_mem_take hx)), fun e => by cases e⟩
  obtain ⟨b', o', e, hcell⟩ := h.cell (lo + i) (by omega)
  injection e with e
  injection e with e1 e2
  subst e1 e2
  refine ⟨g, o + lo, rfl, ?_⟩
  rw [Nat.add_assoc, hcell]
  unfold nth
  simp only [List.getD, List.getElem?_take, List.getElem?_drop, if_pos hi]
theorem keyL_bd (b : List Int) (at' : Nat) (h : ∀ x ∈ b, 0 ≤ x ∧ x ≤ 255) : 0 ≤ keyL b at' ∧ keyL b at' ≤ 4294967295 := by
  have := getK_bd ((b.drop at').take 4) 4 (fun i hi => by
    by_cases hl : i < ((b.drop at').take 4).length
    · rw [nth_eq hl]
      exact h _ (List.mem_of_mem_drop (List.mem_of_mem_take (List.getElem_mem _)))
    · rw [nth_out (by omega)]; omega)
  unfold keyL
  omega
set_option linter.unusedSimpArgs false in
set_option linter.unusedVariables false in
set_option maxRecDepth 100000 in
set_option maxHeartbeats 1000000 in
theorem key_any (a : Option Addr) (n c : Nat) (b : List Int) (i : Nat) (w : World) (h : RdAt .u8 w a n c b) (hi : i + 4 ≤ n) (hn : n ≤ 100000) :
    Calls Try.prog 21 #[.slice a n c, .int .i64 i] w fun e w' => e = .returned (.int .u32 (keyL b i)) ∧ w = w' := by
  obtain ⟨g, o, rfl, _⟩ := h.cell 0 (by omega)
  have hr := h.part i 4 4 (by omega) (by omega) (by have := h.cap; omega)
  have hk := keyL_bd b i (fun x hx => wf_u8_bd (h.wf x hx))
  have hV : Hid (getV ((b.drop i).take 4) 4 4 = keyL b i ∧ getOk 4 4 = true) := by
    have h4 : getOk 4 4 = true := by decide
    exact ⟨getV_yes (m := 4) h4, h4⟩
  obtain ⟨q, hq⟩ : ∃ q, keyL b i = q := ⟨_, rfl⟩
  rw [hq] at hk hV
  have hcap := h.cap
  have hw : IntKind.u32.wrap q = q := IntWalk.u32_in _ (by omega)
  rw [hq]
  clear hq h
  go_enter Try.func21, Try.ntmps21
  go_wp2_with fail
  refine (get_any _ _ _ _ 4 _ hr).mono ?_
  rintro e w1 ⟨rfl, rfl⟩
  rw [hV.out.1, hV.out.2]
  go_wp2_with fail
  go_ret
  exact ⟨rfl, rfl⟩
end Go.Proofs.Ytfoabnoolmeoiaa
