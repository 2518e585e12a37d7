/- The contract of the document's Burst. -/
import Derived.Test.YtpgncmoagmkcmaaCells
import Derived.Test.YtpgncmoagmkcmaaClone
namespace Go.Proofs.Ytpgncmoagmkcmaa
open Go.RowKit
set_option maxRecDepth 100000 in
set_option maxHeartbeats 1000000 in
theorem refburst_in (a : Option Addr) (n c : Nat) (l : List Int) (bit : Nat) (p : BitVec 32) (w : World) (h : RdAt .u8 w a n c l) (hn : n ≤ 1000000000) (hb : bit < 8 * n) :
    Calls Try.prog 46 #[.slice a n c, .int .i64 bit, .int .u32 (rnum p)] w (GivesBytes (burstK l bit p 32) w) := by
  have hby := h.bytes
  have HL := Lib.hid h.len
  have hd1 : decide ((bit : Int) < 0) = false := decide_eq_false (by omega)
  have hd2 : decide (8 * (n : Int) ≤ bit) = false := decide_eq_false (by omega)
  go_enter Try.func46, Try.ntmps46
  go_wp2_with (at_builtin; refine app_all u8T u8I (by decide) rfl _ _ rfl _ w.heap.size _ [] rfl (Owns.empty _ _ _ _ _ _) _ _ _ l rfl (h.below ((Below.refl _ _).alloc (Nat.le_refl _) _)) (by simp; omega) (by simp) ?_; intro v w1 ho hg0; have hbe := hg0.fromEmpty; obtain ⟨av, cv, rfl⟩ := ho.shapeN n HL.out)
  go_loopw [8] (fun i wr => ∃ k : Nat, k ≤ 32 ∧ i = .int .i64 k ∧ Owns .u8 5 wr w.heap.size (.slice av n cv) (burstK l bit p k) ∧ Below w.heap.size w wr) (fun i _ => 32 - (intOf i).toNat)
  case atStart => exact ⟨0, by omega, rfl, ho, hbe⟩
  case round =>
    clear ho hbe
    obtain ⟨k, hk, rfl, ho, hbe⟩ := hrel
    have HKL := Lib.hid (burstK_len l bit p k)
    by_cases hp : k < 32
    · by_cases hin : bit + k < 8 * n
      · by_cases hbt : p.getLsbD k = true
        · have ht := bit_yes hbt
          have HX : Hid (burstK l bit p (k + 1) = tog (burstK l bit p k) (bit + k)) := by show _ = _; rw [burstK, if_pos ⟨by rw [HL.out]; exact hin, hbt⟩]
          clear hbt
          have hkb := burstK_bytes hby bit p k
          obtain ⟨g, rfl, hg1, hg2, hcell, hfz⟩ := ho.cellAt ((bit + k) / 8) (by rw [HKL.out, HL.out]; omega)
          have ho2 := set_tog ho (bit + k) hkb
          generalize burstK l bit p k = r at *
          have e4 := pow_u8 (bit + k)
          go_wp2
          go_roundw
          case rel => exact ⟨k + 1, by omega, by go_num, by rw [HX.out]; exact ho2, hbe.setCell hg1 _⟩
          case measure => simp [intOf] <;> omega
        · have ht := bit_no hbt
          have HX : Hid (burstK l bit p (k + 1) = burstK l bit p k) := by show _ = _; rw [burstK, if_neg (fun h => hbt h.2)]
          clear hbt
          go_wp2
          go_roundw
          case rel => exact ⟨k + 1, by omega, by go_num, by rw [HX.out]; exact ho, hbe⟩
          case measure => simp [intOf] <;> omega
      · have HX := Lib.hid (burstK_far l bit p (by rw [HL.out]; omega) hk)
        go_wp2
        go_ret
        exact ⟨_, rfl, by rw [HX.out]; exact ho, hbe⟩
    · have HX : Hid (burstK l bit p 32 = burstK l bit p k) := by show _ = _; rw [show k = 32 by omega]
      clear hk
      go_wp2
      go_ret
      exact ⟨_, rfl, by rw [HX.out]; exact ho, hbe⟩
set_option maxRecDepth 100000 in
theorem refburst_any (a : Option Addr) (n c : Nat) (l : List Int) (bit : Int) (p : BitVec 32) (w : World) (h : RdAt .u8 w a n c l) (hn : n ≤ 1000000000) :
    Calls Try.prog 46 #[.slice a n c, .int .i64 bit, .int .u32 (rnum p)] w (GivesBytes (burstV l bit p) w) := by
  have HL := Lib.hid h.len
  by_cases hc : 0 ≤ bit ∧ bit < 8 * n
  · obtain ⟨bit, rfl⟩ := Int.eq_ofNat_of_zero_le hc.1
    have e : burstV l bit p = burstK l bit p 32 := by unfold burstV; rw [if_pos (by rw [h.len]; exact hc), Int.toNat_natCast]
    rw [e]
    exact refburst_in a n c l bit p w h hn (by omega)
  · have e : burstV l bit p = l := by unfold burstV; rw [if_neg (by rw [h.len]; exact hc)]
    rw [e]
    clear e
    by_cases h0 : bit < 0
    · go_enter Try.func46, Try.ntmps46
      go_wp2_with (at_builtin; refine app_all u8T u8I (by decide) rfl _ _ rfl _ w.heap.size _ [] rfl (Owns.empty _ _ _ _ _ _) _ _ _ l rfl (h.below ((Below.refl _ _).alloc (Nat.le_refl _) _)) (by simp; omega) (by simp) ?_; intro v w1 ho hg0; have hbe := hg0.fromEmpty; obtain ⟨av, cv, rfl⟩ := ho.shapeN n HL.out)
      go_ret
      exact ⟨_, rfl, ho, hbe⟩
    · have h1 : 8 * (n : Int) ≤ bit := by omega
      clear hc
      go_enter Try.func46, Try.ntmps46
      go_wp2_with (at_builtin; refine app_all u8T u8I (by decide) rfl _ _ rfl _ w.heap.size _ [] rfl (Owns.empty _ _ _ _ _ _) _ _ _ l rfl (h.below ((Below.refl _ _).alloc (Nat.le_refl _) _)) (by simp; omega) (by simp) ?_; intro v w1 ho hg0; have hbe := hg0.fromEmpty; obtain ⟨av, cv, rfl⟩ := ho.shapeN n HL.out)
      go_ret
      exact ⟨_, rfl, ho, hbe⟩
end Go.Proofs.Ytpgncmoagmkcmaa
