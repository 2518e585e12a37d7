/- The contracts of slices.Clone, of crc.Burst and of the document's. -/
import Derived.Test.YtendhldpgkdhnaaBurstLaw
import Derived.Test.YtendhldpgkdhnaaFieldLaw
import Derived.Test.YtendhldpgkdhnaaSquareLaw
import Derived.Test.YtendhldpgkdhnaaU8
import Derived.WalkSpells
import Derived.Laws.OwnMore
import Derived.RegionTactic
import Derived.ChangeAlike
namespace Go.Proofs.Ytendhldpgkdhnaa
open Go.RowKit
/-- Ends with bytes of its own. -/
def GivesBytes (l : List Int) (w : World) (e : Ending) (w' : World) : Prop := ∃ v, e = .returned v ∧ Owns .u8 5 w' w.heap.size v l ∧ Below w.heap.size w w'
theorem clone_any (a : Option Addr) (n c : Nat) (l : List Int) (w : World) (h : RdAt .u8 w a n c l) (hn : n ≤ 1000000000) :
    Calls Try.prog 20 #[.slice a n c] w (GivesBytes l w) := by
  cases a with
  | none =>
    obtain rfl : c = 0 := h.void rfl
    have hcap := h.cap
    obtain rfl : n = 0 := by omega
    obtain rfl : l = [] := List.eq_nil_of_length_eq_zero h.len
    have hnil := fun (w : World) (a : Option Addr) (n c : Nat) => Lib.run_eql_slice_nil (P := Try.prog) w 22 5 a n c 0 0 Try.underlying22
    go_enter Try.func20, Try.ntmps20
    go_wp2
    go_ret
    exact ⟨_, rfl, Owns.nil _ _ _ _, Below.refl _ _⟩
  | some x =>
    have hnil := fun (w : World) (a : Option Addr) (n c : Nat) => Lib.run_eql_slice_nil (P := Try.prog) w 22 5 a n c 0 0 Try.underlying22
    go_enter Try.func20, Try.ntmps20
    go_wp2_with (at_builtin; refine app_all u8T u8I (by decide) rfl _ _ rfl _ w.heap.size _ [] rfl (Owns.empty _ _ _ _ _ _) _ _ _ l rfl (h.below ((Below.refl _ _).alloc (Nat.le_refl _) _)) (by simp; omega) (by simp) ?_; intro x1 w1 ho1 hg0)
    go_ret
    exact ⟨_, rfl, ho1, hg0.fromEmpty⟩
theorem Owns.cellAt {k : IntKind} {e : TypeId} {w : World} {base : Nat} {a : Option Addr} {n c : Nat} {l : List Int} (h : Owns k e w base (.slice a n c) l) (i : Nat) (hi : i < l.length) :
    ∃ g, a = some ⟨g, 0, none⟩ ∧ base ≤ g ∧ g < w.heap.size ∧ w.cell? ⟨g, i, none⟩ = some (.int k (nth l i)) ∧ w.frozen? ⟨g, i, none⟩ = false := by
  rcases h.2 with ⟨rfl, _⟩ | h2
  · simp at hi
  · have h3 := h2
    rcases h3.2 with ⟨hv, hn⟩ | ⟨g, cap, cur, hv, hb, hg, _⟩
    · omega
    · injection hv with q1 q2 q3
      subst q1 q2 q3
      refine ⟨g, rfl, hb, (Array.getElem?_eq_some_iff.1 hg).1, ?_, h2.frozenAt i⟩
      rw [h2.cellAt i (by omega), List.getElem?_map, List.getElem?_eq_getElem hi, nth_eq hi]
      rfl
theorem Owns.stored {k : IntKind} {e : TypeId} {w : World} {base : Nat} {g n c : Nat} {l : List Int} (h : Owns k e w base (.slice (some ⟨g, 0, none⟩) n c) l) (i : Nat) (x : Int) (hx : (Lit.int k x).wf = true) :
    Owns k e (w.setCell ⟨g, i, none⟩ (.int k x)) base (.slice (some ⟨g, 0, none⟩) n c) (l.set i x) := by
  refine ⟨fun y hy => ?_, ?_⟩
  · rcases List.mem_or_eq_of_mem_set hy with hy | hy
    · exact h.1 y hy
    · rw [hy]; exact hx
  · rcases h.2 with ⟨rfl, a, hv, ha⟩ | h2
    · exact .inl ⟨rfl, a, hv, ha⟩
    · refine .inr ?_
      obtain ⟨a', c', hv⟩ := h.shape
      injection hv with q1 q2 q3
      subst q2
      have := (h2.stored i (.int k x)).1
      rw [List.length_set, List.map_set]
      exact this
theorem set_tog {w : World} {base g n c : Nat} {l : List Int} (h : Owns .u8 5 w base (.slice (some ⟨g, 0, none⟩) n c) l) (j : Nat) (hb : Bytes l) :
    Owns .u8 5 (w.setCell ⟨g, j / 8, none⟩ (.int .u8 (bits .xor .u8 (nth l (j / 8)) (2 ^ (j % 8))))) base (.slice (some ⟨g, 0, none⟩) n c) (tog l j) :=
  h.stored _ _ (WalkArith.wf_u8 (tog_bd hb j))
theorem pow_u8 (j : Nat) : (2 : Int) ^ (j % 8) % 256 = 2 ^ (j % 8) := by
  obtain ⟨e, hlt⟩ := pow8 j
  rw [e]
  exact Int.emod_eq_of_lt (Int.natCast_nonneg _) (Int.ofNat_lt.2 hlt)
theorem shr_three (m : Nat) : (m : Int).fdiv (2 ^ min (Int.toNat 3) IntKind.i64.bits) = ((m / 8 : Nat) : Int) := by
  rw [show (2 : Int) ^ min (Int.toNat 3) IntKind.i64.bits = 8 from by decide, Int.fdiv_eq_ediv_of_nonneg _ (by omega)]
  omega

set_option maxRecDepth 100000 in
set_option maxHeartbeats 1000000 in
theorem burst_in (a : Option Addr) (n c : Nat) (l : List Int) (bit : Nat) (p : BitVec 32) (w : World) (h : RdAt .u8 w a n c l) (hn : n ≤ 1000000000) (hb : bit < 8 * n) :
    Calls Try.prog 11 #[.slice a n c, .int .i64 bit, .int .u32 (rnum p)] w (GivesBytes (burstK l bit p 32) w) := by
  have hby := h.bytes
  have HL := Lib.hid h.len
  have hd1 : decide ((bit : Int) < 0) = false := decide_eq_false (by omega)
  go_enter Try.func11, Try.ntmps11
  go_wp2_with (go_at_call 20; refine (clone_any _ _ _ _ _ h hn).mono ?_; rintro e w1 ⟨v, rfl, ho, hbe⟩)
  go_loopw [14] (fun i wr => ∃ k : Nat, k ≤ 32 ∧ i = .int .i64 k ∧ Owns .u8 5 wr w.heap.size v (burstK l bit p k) ∧ Below w.heap.size w wr) (fun i _ => 32 - (intOf i).toNat)
  case atStart => exact ⟨0, by omega, rfl, ho, hbe⟩
  case round =>
    clear ho hbe
    obtain ⟨k, hk, rfl, ho, hbe⟩ := hrel
    have HKL := Lib.hid (burstK_len l bit p k)
    by_cases hp : k < 32
    · by_cases hin : bit + k < 8 * n
      · by_cases hbt : p.getLsbD k = true
        · have ht := bit_yes hbt
          have HX : Hid (burstK l bit p (k + 1) = tog (burstK l bit p k) (bit + k)) := by show _ = _; rw [burstK, if_pos ⟨by rw [HL.out]; exact hin, hbt⟩]
          clear hbt
          have hkb := burstK_bytes hby bit p k
          obtain ⟨av, cv, rfl⟩ := ho.shapeN n (by rw [HKL.out, HL.out])
          obtain ⟨g, rfl, hg1, hg2, hcell, hfz⟩ := ho.cellAt ((bit + k) / 8) (by rw [HKL.out, HL.out]; omega)
          have ho2 := set_tog ho (bit + k) hkb
          generalize burstK l bit p k = r at *
          have e1 := shr_three (bit + k)
          have e2 := i64_and_7 ((bit + k : Nat) : Int) (by omega) (by omega)
          have e3 : ((bit + k : Nat) : Int) % 8 = ((bit + k) % 8 : Nat) := by omega
          rw [e3] at e2
          rw [Int.natCast_add] at e1 e2
          have e4 := pow_u8 (bit + k)
          clear e3
          go_wp2
          go_region
          go_wp2
          go_roundw
          case rel => exact ⟨k + 1, by omega, by go_num, by rw [HX.out]; exact ho2.drew, (hbe.setCell hg1 _).drew⟩
          case measure => simp [intOf] <;> omega
        · have ht := bit_no hbt
          have HX : Hid (burstK l bit p (k + 1) = burstK l bit p k) := by show _ = _; rw [burstK, if_neg (fun h => hbt h.2)]
          clear hbt
          go_wp2
          go_roundw
          case rel => exact ⟨k + 1, by omega, by go_num, by rw [HX.out]; exact ho, hbe⟩
          case measure => simp [intOf] <;> omega
      · have HX := Lib.hid (burstK_far l bit p (by rw [HL.out]; omega) hk)
        go_wp2
        go_ret
        exact ⟨_, rfl, by rw [HX.out]; exact ho, hbe⟩
    · have HX : Hid (burstK l bit p 32 = burstK l bit p k) := by show _ = _; rw [show k = 32 by omega]
      clear hk
      go_wp2
      go_ret
      exact ⟨_, rfl, by rw [HX.out]; exact ho, hbe⟩
set_option maxRecDepth 100000 in
theorem burst_any (a : Option Addr) (n c : Nat) (l : List Int) (bit : Int) (p : BitVec 32) (w : World) (h : RdAt .u8 w a n c l) (hn : n ≤ 1000000000) :
    Calls Try.prog 11 #[.slice a n c, .int .i64 bit, .int .u32 (rnum p)] w (GivesBytes (burstV l bit p) w) := by
  by_cases hc : 0 ≤ bit ∧ bit < 8 * n
  · obtain ⟨bit, rfl⟩ := Int.eq_ofNat_of_zero_le hc.1
    have e : burstV l bit p = burstK l bit p 32 := by unfold burstV; rw [if_pos (by rw [h.len]; exact hc), Int.toNat_natCast]
    rw [e]
    exact burst_in a n c l bit p w h hn (by omega)
  · have e : burstV l bit p = l := by unfold burstV; rw [if_neg (by rw [h.len]; exact hc)]
    rw [e]
    clear e
    by_cases h0 : bit < 0
    · go_enter Try.func11, Try.ntmps11
      go_wp2_with (go_at_call 20; refine (clone_any _ _ _ _ _ h hn).mono ?_; rintro e w1 ⟨v, rfl, ho, hbe⟩)
      go_ret
      exact ⟨_, rfl, ho, hbe⟩
    · have h1 : 8 * (n : Int) ≤ bit := by omega
      clear hc
      go_enter Try.func11, Try.ntmps11
      go_wp2_with (go_at_call 20; refine (clone_any _ _ _ _ _ h hn).mono ?_; rintro e w1 ⟨v, rfl, ho, hbe⟩)
      go_loopw [14] (fun i wr => i = .int .i64 0 ∧ Owns .u8 5 wr w.heap.size v l ∧ Below w.heap.size w wr) (fun i _ => 32 - (intOf i).toNat)
      case atStart => exact ⟨rfl, ho, hbe⟩
      case round =>
        clear ho hbe
        obtain ⟨rfl, ho, hbe⟩ := hrel
        go_wp2
        go_ret
        exact ⟨_, rfl, ho, hbe⟩
end Go.Proofs.Ytendhldpgkdhnaa
