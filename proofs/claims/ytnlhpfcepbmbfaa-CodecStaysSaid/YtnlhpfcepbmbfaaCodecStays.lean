/- The walk of almanaclaw3.CodecStays. -/
import Derived.Test.YtnlhpfcepbmbfaaKnown3
import Derived.Test.YtnlhpfcepbmbfaaCTry
namespace Go.Proofs.Ytnlhpfcepbmbfaa
open Go.RowKit
theorem grown_below {B : Nat} {w0 w w' : World} {h : Nat} (hb : Below B w0 w) (hg : w.grownBy w' (some h)) (hB : B ≤ w.heap.size) (hh : B ≤ h) : Below B w0 w' :=
  hb.grown hg hB (fun k hk => by injection hk with hk; omega)
set_option linter.unusedSimpArgs false in
set_option linter.unusedVariables false in
set_option maxRecDepth 100000 in
set_option maxHeartbeats 2000000 in
theorem codecStays_walk (a : Option Addr) (n c : Nat) (l : List Int) (most : Int) (w : World) (hr : RdAt .u8 w a n c l) (_ : (Lit.int .i64 most).wf = true) :
    Calls Try.prog 6 #[.slice a n c, .int .i64 most] w fun e w' => e = .returned (.bool true) ∧ Below w.heap.size w w' := by
  have H := Lib.hid hr
  have HL := Lib.hid hr.len
  clear hr
  by_cases hn : 8192 < n
  · have hd1 : decide ((8192 : Int) < n) = true := decide_eq_true (by omega)
    go_enter Try.func6, Try.ntmps6
    go_wp2_with (go_at_call 9; refine (known3 _).mono ?_; rintro e w1 ⟨rfl, hb⟩)
    go_ret
    exact ⟨rfl, hb⟩
  · have hd1 : decide ((8192 : Int) < n) = false := decide_eq_false (by omega)
    go_enter Try.func6, Try.ntmps6
    go_wp2_with (go_at_call 9; refine (known3 _).mono ?_; rintro e w1 ⟨rfl, hb⟩)
    refine (newreader_any _ _ _ l _ (H.out.below hb) (by omega)).mono ?_
    rintro e w2 ⟨h, rfl, hh, hr, hb2⟩
    have HB2 := Lib.hid (hb.trans (hb2.mono hb.size))
    have hh0 : w.heap.size ≤ h := Nat.le_trans hb.size hh
    have HR2 := Lib.hid hr
    clear hb hb2 hr hh
    go_wp2_with fail
    go_loopw [6] (fun i wr => ∃ (k : Nat) (l' : List Int) (e' : Int), k ≤ n + 1 ∧ i = .int .i64 k ∧ RIn wr h l' e' ∧ Below w.heap.size w wr ∧ (e' = 0 → l'.length + k ≤ n) ∧ l'.length ≤ n) (fun i _ => n + 1 - (intOf i).toNat)
    case atStart => exact ⟨0, l, 0, by omega, rfl, HR2.out, HB2.out, fun _ => by rw [HL.out]; omega, by rw [HL.out]; exact Nat.le_refl _⟩
    case round =>
      clear HR2 HB2
      obtain ⟨k, l', e', hk, rfl, hr, hb, hle, hln⟩ := hrel
      have HR := Lib.hid hr
      have HB := Lib.hid hb
      have HLE := Lib.hid hle
      clear hr hb hle
      by_cases hp : k ≤ n
      · have hd2 : decide (k ≤ n) = true := decide_eq_true hp
        go_wp2_with fail
        refine (rInt_any h l' e' _ HR.out).mono ?_
        rintro e w3 ⟨hg, hr3, v, rfl, hv⟩
        replace hv : v = .int .i64 _ := hv
        subst hv
        have HB3 := Lib.hid (grown_below HB.out hg HB.out.size hh0)
        have HR3 := Lib.hid hr3
        have HS : Hid (((rdFrom e' 0 l' (rdInt l')).e = 0 → (rdFrom e' 0 l' (rdInt l')).l.length + (k + 1) ≤ n) ∧ (rdFrom e' 0 l' (rdInt l')).l.length ≤ n) := by
          show _ ∧ _
          by_cases h0 : e' = 0
          · subst h0
            rw [rdFrom_ok]
            have h1 := HLE.out rfl
            by_cases h2 : (rdInt l').e = 0
            · have := rdInt_len h2
              exact ⟨fun _ => by omega, by omega⟩
            · refine ⟨fun h => absurd h h2, ?_⟩
              by_cases h3 : rvE l' l'.length = 0
              · rw [rdInt_ok h3] at h2
                exact absurd rfl h2
              · rw [rdInt_bad h3]; exact hln
          · rw [rdFrom_bad _ _ _ h0]
            exact ⟨fun h => absurd h h0, hln⟩
        clear hg hr3
        go_wp2_with fail
        go_roundw
        case rel => exact ⟨k + 1, _, _, by omega, by go_num, HR3.out, HB3.out, HS.out.1, HS.out.2⟩
        case measure => simp [intOf] <;> omega
      · obtain rfl : k = n + 1 := by omega
        have hE : e' ≠ 0 := fun h => by have := HLE.out h; omega
        have hE2 : (e' != 0) = true := by simpa using hE
        have HE := Lib.hid hE
        clear hE
        go_wp2_with fail
        refine (rEnd_any h l' e' _ HR.out).mono ?_
        rintro e w3 ⟨rfl, rfl⟩
        have hend : rdEnd e' l' = e' := by unfold rdEnd; rw [if_neg (fun h => HE.out h.1)]
        rw [hend]
        clear hend
        go_wp2_with fail
        refine (rInt_any h l' e' _ HR.out).mono ?_
        rw [rdFrom_bad _ _ _ HE.out]
        rintro e w3 ⟨hg, hr3, v, rfl, hv⟩
        replace hv : v = .int .i64 0 := hv
        subst hv
        have HB3 := Lib.hid (grown_below HB.out hg HB.out.size hh0)
        have HR3 := Lib.hid hr3
        clear hg hr3 HR HB
        go_wp2_with fail
        refine (rBetween_any h 1 5 l' e' _ HR3.out).mono ?_
        rw [rdFrom_bad _ _ _ HE.out]
        rintro e w4 ⟨hg, hr4, v, rfl, hv⟩
        replace hv : v = .int .i64 0 := hv
        subst hv
        have HB4 := Lib.hid (grown_below HB3.out hg HB3.out.size hh0)
        have HR4 := Lib.hid hr4
        clear hg hr4 HR3 HB3
        go_wp2_with fail
        refine (rBytes_any h most l' e' _ HR4.out (by omega)).mono ?_
        rw [rdFrom_bad _ _ _ HE.out]
        rintro e w5 ⟨hg, hr5, v, rfl, hv⟩
        obtain ⟨a5, c5, rfl⟩ := Owns.shapeN hv 0 rfl
        have HB5 := Lib.hid (grown_below HB4.out hg HB4.out.size hh0)
        have HR5 := Lib.hid hr5
        clear hg hr5 HR4 HB4 hv
        go_wp2_with fail
        refine (rList_any h most l' e' _ HR5.out (by omega)).mono ?_
        rw [rdFrom_bad _ _ _ HE.out]
        rintro e w6 ⟨hg, hr6, v, rfl, hv⟩
        obtain ⟨a6, c6, rfl⟩ := Owns.shapeN hv 0 rfl
        have HB6 := Lib.hid (grown_below HB5.out hg HB5.out.size hh0)
        have HR6 := Lib.hid hr6
        clear hg hr6 HR5 HB5 hv
        go_wp2_with fail
        refine (rEnd_any h l' e' _ HR6.out).mono ?_
        rintro e w7 ⟨rfl, rfl⟩
        have hend : rdEnd e' l' = e' := by unfold rdEnd; rw [if_neg (fun h => HE.out h.1)]
        rw [hend]
        clear hend
        go_wp2_with fail
        go_ret
        exact ⟨rfl, HB6.out⟩
end Go.Proofs.Ytnlhpfcepbmbfaa
