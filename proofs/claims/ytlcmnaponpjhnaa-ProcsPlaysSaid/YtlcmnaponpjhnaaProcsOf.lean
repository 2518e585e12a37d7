/- procs.Of and the reference's: contracts. -/
import Derived.Test.YtlcmnaponpjhnaaRSetBits
import Derived.Deep.QuietTactic
import Derived.BigQuiet
namespace Go.Proofs.Ytlcmnaponpjhnaa
open Go.RowKit
/-- What Of answers. -/
def OfPost (n : Int) (r : Option (BitVec 64)) (w : World) (e : Ending) (w' : World) : Prop :=
  Below w.heap.size w w' ∧ ((r = none ∧ e = .returned (.tuple #[.pointer none, .int .i64 1])) ∨ ∃ v g, r = some v ∧ e = .returned (.tuple #[.pointer (some ⟨g, 0, none⟩), .int .i64 0]) ∧ w.heap.size ≤ g ∧ SetAt w' g n v)
def ROfPost (n : Nat) (r : Option (BitVec 64)) (w : World) (e : Ending) (w' : World) : Prop :=
  Below w.heap.size w w' ∧ ((r = none ∧ e = .returned (.tuple #[.pointer none, .int .i64 1])) ∨ ∃ v g h, r = some v ∧ e = .returned (.tuple #[.pointer (some ⟨g, 0, none⟩), .int .i64 0]) ∧ w.heap.size ≤ g ∧ w.heap.size ≤ h ∧ RSetAt w' g h n v)
theorem belowN {B : Nat} {a w : World} (h : Below B a w) (n : Nat) : Below B a (w.drewN n) := ⟨h.os, h.tape, h.output, h.size, h.block⟩
theorem RSetAt.drawN {w : World} {g h n : Nat} {v : BitVec 64} (r : RSetAt w g h n v) (k : Nat) : RSetAt (w.drewN k) g h n v := ⟨r.row, r.own, r.ne⟩
theorem ofL_drop {n : Int} {v : BitVec 64} {l : List Int} {k : Nat} (hk : k < l.length) :
    ofL n v (l.drop k) = if 0 ≤ nth l k ∧ nth l k < n ∧ v.getLsbD (nth l k).toNat = false then ofL n (v ||| qbit (nth l k).toNat) (l.drop (k + 1)) else none := by
  rw [List.drop_eq_getElem_cons hk, ← nth_eq hk]; rfl
set_option linter.unusedVariables false in
set_option maxRecDepth 100000 in
set_option maxHeartbeats 1000000 in
theorem of_any (n : Nat) (a : Option Addr) (np cp : Nat) (lp : List Int) (w : World) (hr : RdAt .i64 w a np cp lp) (h1 : 1 ≤ n) (h2 : n ≤ 64) (R : Option (BitVec 64)) (hR : ofL n 0#64 lp = R) :
    Calls Try.prog 13 #[.int .i64 n, .slice a np cp] w (OfPost n R w) := by
  have hlen := hr.len
  have hmax := hr.max
  have hcap := hr.cap
  unfold maxLen at hmax
  have HR := Lib.hid hr
  have HL := Lib.hid hlen
  have HRR := Lib.hid hR
  clear hr hlen hR
  go_enter Try.func13, Try.ntmps13
  go_wp2_with fail
  refine (newset_yes n w (by omega) (by omega)).mono ?_
  rintro e w1 ⟨rfl, hs, hb⟩
  have HS := Lib.hid hs
  clear hs
  go_wp2_with fail
  go_loopw [20] (fun i wr => ∃ (k : Nat) (v : BitVec 64), k ≤ np ∧ i = .int .i64 k ∧ SetAt wr w.heap.size n v ∧ Below w.heap.size w wr ∧ Hid (ofL n v (lp.drop k) = R)) (fun i _ => np - (intOf i).toNat)
  case atStart => exact ⟨0, _, by omega, rfl, HS.out, hb, HRR⟩
  case round =>
    clear HS hb
    obtain ⟨k, v, hk, rfl, hs, hb, HO⟩ := hrel
    obtain ⟨c0, c1, cf⟩ := hs.cells
    have HS := Lib.hid hs
    have hb' := hb
    have HB := Lib.hid hb
    clear hs hb
    by_cases hp : k < np
    · obtain ⟨b, ad, rfl, hcell⟩ := (HR.out.below hb').cell k hp
      have hpw := wf_i64_bd (HR.out.wfAt k hp)
      have hst := ofL_drop (n := n) (v := v) (l := lp) (k := k) (by rw [HL.out]; exact hp)
      obtain ⟨p, hpe⟩ : ∃ p, nth lp k = p := ⟨_, rfl⟩
      rw [hpe] at hcell hpw hst
      clear hpe hb'
      have no : ¬ (0 ≤ p ∧ p < n ∧ v.getLsbD p.toNat = false) → R = none := by
        intro hn
        rw [if_neg hn] at hst
        rw [← HO.out, hst]
      by_cases hp0 : p < 0
      · have hd0 : decide (p < 0) = true := decide_eq_true hp0
        have hno := no (by omega)
        clear no hst
        subst hno
        go_wp2_with fail
        go_ret2
        exact ⟨HB.out, .inl ⟨rfl, rfl⟩⟩
      · have hd0 : decide (p < 0) = false := decide_eq_false hp0
        obtain ⟨q, rfl⟩ := Int.eq_ofNat_of_zero_le (show 0 ≤ p by omega)
        by_cases hpn : (q : Int) < n
        · have hd1 : decide ((n : Int) ≤ q) = false := decide_eq_false (by omega)
          have hd1n : decide (n ≤ q) = false := decide_eq_false (by omega)
          have hqn : q < n := by omega
          by_cases hv : v.getLsbD q = true
          · have hbk : hasB n v q = true := by rw [hasB_nat hqn]; exact hv
            have hno := no (by rw [Int.toNat_natCast, hv]; simp)
            clear no hst hv
            subst hno
            go_wp2_with (go_at_call 11; refine (has_any _ _ _ _ _ HS.out (by omega)).mono ?_; rintro e w' ⟨rfl, rfl⟩)
            go_ret2
            exact ⟨HB.out, .inl ⟨rfl, rfl⟩⟩
          · rw [Bool.not_eq_true] at hv
            have hbk : hasB n v q = false := by rw [hasB_nat hqn]; exact hv
            have HQ := Lib.hid (q_put' v q (by omega))
            rw [Int.toNat_natCast, hv, if_pos ⟨by omega, by omega, rfl⟩] at hst
            have HST := Lib.hid hst
            clear hst no hv
            go_wp2_with (go_at_call 11; refine (has_any _ _ _ _ _ HS.out (by omega)).mono ?_; rintro e w' ⟨rfl, rfl⟩)
            go_region
            go_wp2_with fail
            go_roundw
            case rel => exact ⟨k + 1, _, by omega, by go_num, HS.out.put _ _ HQ.out, (HB.out.setCell (Nat.le_refl _) _).drew, by rw [← HO.out, HST.out]; exact Lib.hid rfl⟩
            case measure => simp [intOf] <;> omega
        · have hd1 : decide ((n : Int) ≤ q) = true := decide_eq_true (by omega)
          have hd1n : decide (n ≤ q) = true := decide_eq_true (by omega)
          have hno := no (by omega)
          clear no hst
          subst hno
          go_wp2_with fail
          go_ret2
          exact ⟨HB.out, .inl ⟨rfl, rfl⟩⟩
    · obtain rfl : k = np := by omega
      have hRv : R = some v := by rw [← HO.out, List.drop_of_length_le (by rw [HL.out]; exact Nat.le_refl _)]; rfl
      subst hRv
      clear hb'
      go_wp2_with fail
      go_ret2
      exact ⟨HB.out, .inr ⟨v, _, rfl, rfl, Nat.le_refl _, HS.out⟩⟩
set_option maxRecDepth 100000 in
theorem of_bad (n : Int) (a : Option Addr) (np cp : Nat) (w : World) (h : n < 1 ∨ 64 < n) :
    Calls Try.prog 13 #[.int .i64 n, .slice a np cp] w fun e w' => e = .returned (.tuple #[.pointer none, .int .i64 1]) ∧ w = w' := by
  go_enter Try.func13, Try.ntmps13
  go_wp2_with (go_at_call 6; refine (newset_no _ _ h).mono ?_; rintro e w' ⟨rfl, rfl⟩)
  go_ret2
  exact ⟨rfl, rfl⟩
set_option maxRecDepth 100000 in
theorem rof_bad (n : Int) (a : Option Addr) (np cp : Nat) (w : World) (h : n < 1 ∨ 64 < n) :
    Calls Try.prog 14 #[.int .i64 n, .slice a np cp] w fun e w' => e = .returned (.tuple #[.pointer none, .int .i64 1]) ∧ w = w' := by
  go_enter Try.func14, Try.ntmps14
  go_wp2_with (go_at_call 12; refine (rnew_no _ _ h).mono ?_; rintro e w' ⟨rfl, rfl⟩)
  go_loop [8] (fun i => i = .int .i64 0) (fun _ => 0)
  case atStart => rfl
  case round =>
    obtain rfl := hrel
    by_cases hp : 0 < np
    · have hd : decide ((0 : Int) < np) = true := decide_eq_true (by omega)
      have hdn : decide (0 < np) = true := decide_eq_true (by omega)
      go_wp2_with fail
      go_ret2
      exact ⟨rfl, rfl⟩
    · obtain rfl : np = 0 := by omega
      go_wp2_with fail
      go_ret2
      exact ⟨rfl, rfl⟩
set_option linter.unusedVariables false in
set_option maxRecDepth 100000 in
set_option maxHeartbeats 1000000 in
theorem rof_any (n : Nat) (a : Option Addr) (np cp : Nat) (lp : List Int) (w : World) (hr : RdAt .i64 w a np cp lp) (h1 : 1 ≤ n) (h2 : n ≤ 64) (R : Option (BitVec 64)) (hR : ofL n 0#64 lp = R) :
    Calls Try.prog 14 #[.int .i64 n, .slice a np cp] w (ROfPost n R w) := by
  have hlen := hr.len
  have hmax := hr.max
  have hcap := hr.cap
  unfold maxLen at hmax
  have HR := Lib.hid hr
  have HL := Lib.hid hlen
  have HRR := Lib.hid hR
  clear hr hlen hR
  go_enter Try.func14, Try.ntmps14
  go_wp2_with fail
  refine (rnew_yes n w (by omega) (by omega)).mono ?_
  rintro e w1 ⟨g, h, rfl, hg, hh, hs, hb⟩
  have HS := Lib.hid hs
  clear hs
  go_wp2_with fail
  go_loopw [8] (fun i wr => ∃ (k : Nat) (v : BitVec 64), k ≤ np ∧ i = .int .i64 k ∧ RSetAt wr g h n v ∧ Below w.heap.size w wr ∧ Hid (ofL n v (lp.drop k) = R)) (fun i _ => np - (intOf i).toNat)
  case atStart => exact ⟨0, _, by omega, rfl, HS.out, hb, HRR⟩
  case round =>
    clear HS hb
    obtain ⟨k, v, hk, rfl, hs, hb, HO⟩ := hrel
    have c0 := hs.head
    have HS := Lib.hid hs
    have hb' := hb
    have HB := Lib.hid hb
    clear hs hb
    by_cases hp : k < np
    · obtain ⟨b, ad, rfl, hcell⟩ := (HR.out.below hb').cell k hp
      have hpw := wf_i64_bd (HR.out.wfAt k hp)
      have hst := ofL_drop (n := n) (v := v) (l := lp) (k := k) (by rw [HL.out]; exact hp)
      obtain ⟨p, hpe⟩ : ∃ p, nth lp k = p := ⟨_, rfl⟩
      rw [hpe] at hcell hpw hst
      clear hpe hb'
      have no : ¬ (0 ≤ p ∧ p < n ∧ v.getLsbD p.toNat = false) → R = none := by
        intro hn
        rw [if_neg hn] at hst
        rw [← HO.out, hst]
      by_cases hp0 : p < 0
      · have hd0 : decide (p < 0) = true := decide_eq_true hp0
        have hno := no (by omega)
        clear no hst
        subst hno
        go_wp2_with fail
        go_quiet (fail)
        go_wp2_with fail
        go_ret2
        exact ⟨belowN HB.out _, .inl ⟨rfl, rfl⟩⟩
      · have hd0 : decide (p < 0) = false := decide_eq_false hp0
        obtain ⟨q, rfl⟩ := Int.eq_ofNat_of_zero_le (show 0 ≤ p by omega)
        by_cases hpn : (q : Int) < n
        · have hd1 : decide ((n : Int) ≤ q) = false := decide_eq_false (by omega)
          have hd1n : decide (n ≤ q) = false := decide_eq_false (by omega)
          have hqn : q < n := by omega
          have c1 := HS.out.bit hqn
          have cf := HS.out.free q
          by_cases hv : v.getLsbD q = true
          · have hno := no (by rw [Int.toNat_natCast, hv]; simp)
            rw [hv] at c1
            clear no hst hv
            subst hno
            go_wp2_with fail
            go_quiet (fail)
            go_wp2_with fail
            go_ret2
            exact ⟨belowN HB.out _, .inl ⟨rfl, rfl⟩⟩
          · rw [Bool.not_eq_true] at hv
            rw [hv] at c1
            rw [Int.toNat_natCast, hv, if_pos ⟨by omega, by omega, rfl⟩] at hst
            have HST := Lib.hid hst
            have HP := Lib.hid (bvals_put v h2 hqn)
            clear hst no hv
            go_wp2_with fail
            go_quiet (fail)
            go_wp2_with fail
            go_region
            go_wp2_with fail
            go_roundw
            case rel => exact ⟨k + 1, _, by omega, by go_num, (HS.out.drawN _).set _ _ HP.out, (belowN HB.out _).setCell hh _, by rw [← HO.out, HST.out]; exact Lib.hid rfl⟩
            case measure => simp [intOf] <;> omega
        · have hd1 : decide ((n : Int) ≤ q) = true := decide_eq_true (by omega)
          have hd1n : decide (n ≤ q) = true := decide_eq_true (by omega)
          have hno := no (by omega)
          clear no hst
          subst hno
          go_wp2_with fail
          go_quiet (fail)
          go_wp2_with fail
          go_ret2
          exact ⟨belowN HB.out _, .inl ⟨rfl, rfl⟩⟩
    · obtain rfl : k = np := by omega
      have hRv : R = some v := by rw [← HO.out, List.drop_of_length_le (by rw [HL.out]; exact Nat.le_refl _)]; rfl
      subst hRv
      clear hb'
      go_wp2_with fail
      go_ret2
      exact ⟨HB.out, .inr ⟨v, _, _, rfl, rfl, hg, hh, HS.out⟩⟩
end Go.Proofs.Ytlcmnaponpjhnaa
