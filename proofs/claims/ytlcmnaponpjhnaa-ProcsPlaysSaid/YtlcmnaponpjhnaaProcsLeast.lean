/- The walk of almanaclaw17.ProcsLeast. -/
import Derived.Test.YtlcmnaponpjhnaaSet
namespace Go.Proofs.Ytlcmnaponpjhnaa
open Go.RowKit
theorem below_put {w0 w w' : World} {g : Nat} (hb : Below w0.heap.size w0 w) (hg : w0.heap.size ≤ g) (h : w.grownBy w' (some g)) : Below w0.heap.size w0 w' :=
  hb.grown h hb.size (fun k hk => by injection hk with hk; omega)
set_option maxRecDepth 100000 in
set_option maxHeartbeats 1000000 in
theorem known17 (w : World) : Calls Try.prog 5 #[] w fun e w' => e = .returned (.bool true) ∧ Below w.heap.size w w' := by
  have f1 : firstF 0#64 3 = 0 := by decide
  have f2 : firstF (0#64 ||| qbit 0) 3 = 1 := by decide
  have f3 : hasB ((3 : Nat) : Int) (0#64 ||| qbit 0 ||| qbit 1) ((0 : Nat) : Int) = true := by decide
  have f4 : firstF ((0#64 ||| qbit 0 ||| qbit 1) &&& ~~~ qbit 0) 3 = 0 := by decide
  have f5 : qnum (((0#64 ||| qbit 0 ||| qbit 1) &&& ~~~ qbit 0) ||| qbit 0) = 3 := by decide
  have f6 : (pidsK (((0#64 ||| qbit 0 ||| qbit 1) &&& ~~~ qbit 0) ||| qbit 0) 3).length = 2 := by decide
  have F1 := Lib.hid f1
  have F2 := Lib.hid f2
  have F3 := Lib.hid f3
  have F4 := Lib.hid f4
  have F5 := Lib.hid f5
  have F6 := Lib.hid f6
  clear f1 f2 f3 f4 f5 f6
  go_enter Try.func5, Try.ntmps5
  go_wp2_with fail
  refine (newset_yes 3 _ (by omega) (by omega)).mono ?_
  rintro e w1 ⟨rfl, hs, hb⟩
  replace hs : SetAt w1 w.heap.size ((3 : Nat) : Int) 0#64 := hs
  have hg : w.heap.size ≤ w.heap.size := Nat.le_refl _
  have HG := Lib.hid hg
  clear hg
  go_wp2_with fail
  refine (take_yes _ 3 0 _ _ hs (by omega) F1.out (by omega)).mono ?_
  rintro e w2 ⟨rfl, hs2, hw2⟩
  replace hb := below_put hb HG.out hw2
  clear hs hw2
  go_wp2_with fail
  refine (take_yes _ 3 1 _ _ hs2 (by omega) F2.out (by omega)).mono ?_
  rintro e w3 ⟨rfl, hs3, hw3⟩
  replace hb := below_put hb HG.out hw3
  clear hs2 hw3
  go_wp2_with fail
  refine (free_yes _ _ _ 0 _ hs3 (by omega) F3.out).mono ?_
  rintro e w4 ⟨rfl, hs4, hw4⟩
  replace hb := below_put hb HG.out hw4
  clear hs3 hw4
  go_wp2_with fail
  refine (take_yes _ 3 0 _ _ hs4 (by omega) F4.out (by omega)).mono ?_
  rintro e w5 ⟨rfl, hs5, hw5⟩
  replace hb := below_put hb HG.out hw5
  clear hs4 hw5
  go_wp2_with fail
  refine (bits_any _ _ _ _ hs5).mono ?_
  rintro e w6 ⟨he, rfl⟩
  rw [F5.out] at he
  subst he
  go_wp2_with fail
  refine (len_any _ 3 _ _ hs5 (by omega)).mono ?_
  rintro e w6 ⟨he, hb6⟩
  rw [F6.out] at he
  subst he
  replace hb := hb.trans (hb6.mono hb.size)
  go_wp2_with fail
  go_ret
  exact ⟨rfl, hb⟩
theorem first_low {N k : Nat} (hN : N ≤ 64) (hk : k ≤ N) : firstF (lowN k) N = k :=
  firstF_eq hk (fun j hj => by rw [lowN_get j (by omega), decide_eq_true hj]) (fun h => by rw [lowN_get k (by omega), decide_eq_false (by omega)])
set_option maxRecDepth 100000 in
set_option maxHeartbeats 2000000 in
theorem least_in (N : Nat) (a : Option Addr) (np cp : Nat) (lp : List Int) (w : World) (hr : RdAt .i64 w a np cp lp) (h1 : 1 ≤ N) (h2 : N ≤ 64) (h3 : np ≤ 100) :
    Calls Try.prog 3 #[.int .i64 N, .slice a np cp] w fun e w' => e = .returned (.bool true) ∧ Below w.heap.size w w' := by
  have hd1 : decide ((N : Int) < 1) = false := decide_eq_false (by omega)
  have hd2 : decide ((64 : Int) < N) = false := decide_eq_false (by omega)
  have hd3 : decide ((100 : Int) < np) = false := decide_eq_false (by omega)
  go_enter Try.func3, Try.ntmps3
  go_wp2_with (go_at_call 5; refine (known17 _).mono ?_; rintro e w1 ⟨rfl, hb⟩)
  have hg0 := hb.size
  refine (newset_yes N _ (by omega) (by omega)).mono ?_
  rintro e w2 ⟨rfl, hs, hb2⟩
  replace hb := hb.trans (hb2.mono hb.size)
  generalize hgd : w1.heap.size = g at *
  clear hgd hb2
  go_wp2_with fail
  go_loopw [7] (fun i wr => ∃ k : Nat, k ≤ N ∧ i = .int .i64 k ∧ SetAt wr g N (lowN k) ∧ Below w.heap.size w wr) (fun i _ => N - (intOf i).toNat)
  case atStart => exact ⟨0, by omega, rfl, hs, hb⟩
  case round =>
    clear hs hb
    obtain ⟨k, hk, rfl, hs, hb⟩ := hrel
    by_cases hp : k < N
    · have HF := Lib.hid (first_low h2 hk)
      have HS := Lib.hid hs
      clear hs
      go_wp2_with (go_at_call 7; refine (take_yes _ N k _ _ HS.out h2 HF.out hp).mono ?_; rintro e w3 ⟨rfl, hs3, hw3⟩)
      go_roundw
      case rel => exact ⟨k + 1, by omega, by go_num, hs3, below_put hb hg0 hw3⟩
      case measure => simp [intOf] <;> omega
    · generalize lowN k = v0 at *
      go_wp2_with fail
      obtain ⟨wo, hwo⟩ : ∃ wo : World, wo = wr := ⟨_, rfl⟩
      subst hwo
      go_loopw [8] (fun i wr => ∃ (k : Nat) (v : BitVec 64), k ≤ np ∧ i = .int .i64 k ∧ SetAt wr g N v ∧ Below w.heap.size w wr) (fun i _ => np - (intOf i).toNat)
      case atStart => exact ⟨0, v0, by omega, rfl, hs, hb⟩
      case round =>
        clear hs hb
        obtain ⟨q, v, hq, rfl, hs, hb⟩ := hrel
        have HS := Lib.hid hs
        clear hs
        by_cases hq2 : q < np
        · obtain ⟨b, o, rfl, hc⟩ := (hr.below hb).cell q hq2
          generalize nth lp q = x at *
          cases hhas : hasB N v x with
          | false =>
            have HH := Lib.hid hhas
            clear hhas
            go_wp2_with (go_at_call 8; refine (free_no _ _ _ _ _ HS.out (by omega) HH.out).mono ?_; rintro e w3 ⟨rfl, rfl⟩)
            go_roundw
            case rel => exact ⟨q + 1, v, by omega, by go_num, HS.out, hb⟩
            case measure => simp [intOf] <;> omega
          | true =>
            obtain ⟨p, rfl⟩ : ∃ p : Nat, x = p := by
              unfold hasB at hhas
              simp only [Bool.and_eq_true, decide_eq_true_eq] at hhas
              exact ⟨x.toNat, by omega⟩
            have HH := Lib.hid hhas
            clear hhas
            go_wp2_with (go_at_call 8; refine (free_yes _ _ _ _ _ HS.out (by omega) HH.out).mono ?_; rintro e w3 ⟨rfl, hs3, hw3⟩)
            go_roundw
            case rel => exact ⟨q + 1, _, by omega, by go_num, hs3, below_put hb hg0 hw3⟩
            case measure => simp [intOf] <;> omega
        · have hle := firstF_le v N
          go_wp2_with fail
          refine (bits_any _ _ _ _ HS.out).mono ?_
          rintro e w4 ⟨rfl, rfl⟩
          by_cases hfull : firstF v N = N
          · have HL : Hid ((pidsK v N).length = N) := by show _ = _; exact pidsK_all N (fun j hj => firstF_below v N j (by rw [hfull]; exact hj))
            have HF := Lib.hid hfull
            clear hfull hle
            go_wp2_with fail
            refine (take_no _ N _ _ HS.out h2 HF.out).mono ?_
            rintro e w5 ⟨rfl, rfl⟩
            go_wp2_with fail
            refine (len_any _ N _ _ HS.out h2).mono ?_
            rintro e w5 ⟨he, hb5⟩
            rw [HL.out] at he
            subst he
            have HS5 := Lib.hid (HS.out.below hb5)
            replace hb := hb.trans (hb5.mono hb.size)
            go_wp2_with fail
            refine (bits_any _ _ _ _ HS5.out).mono ?_
            rintro e w6 ⟨rfl, rfl⟩
            go_wp2_with fail
            go_ret
            exact ⟨rfl, hb⟩
          · obtain ⟨k0, hk0⟩ : ∃ k0, firstF v N = k0 := ⟨_, rfl⟩
            rw [hk0] at hle hfull
            have hklt : k0 < N := by omega
            have HF := Lib.hid hk0
            have hfree := firstF_at v N (by rw [hk0]; exact hklt)
            rw [hk0] at hfree
            have HFB : Hid (∀ j, j < k0 → v.getLsbD j = true) := by intro j hj; exact firstF_below v N j (by rw [hk0]; exact hj)
            have HT : Hid (bits .and .u64 (qnum v / 2 ^ k0) 1 = 0) := by show _ = _; rw [q_test, hfree]; rfl
            have HP := Lib.hid (q_put' v k0 (by omega))
            have HD := Lib.hid (put_drop hfree)
            clear hfree hfull hk0 hle
            go_wp2_with fail
            refine (take_yes _ N k0 _ _ HS.out h2 HF.out hklt).mono ?_
            rintro e w5 ⟨rfl, hs5, hw5⟩
            have HS5 := Lib.hid hs5
            replace hb := below_put hb hg0 hw5
            clear hs5 hw5
            go_wp2_with fail
            go_loop [12] (fun i => ∃ k : Nat, k ≤ k0 ∧ i = .int .i64 k) (fun i => k0 - (intOf i).toNat)
            case atStart => exact ⟨0, by omega, rfl⟩
            case round =>
              obtain ⟨j, hj, rfl⟩ := hrel
              by_cases hj2 : j < k0
              · have hh : hasB N (v ||| qbit k0) j = true := by rw [hasB_nat (by omega), put_get _ _ _ (by omega), HFB.out j hj2]; rfl
                go_wp2_with (go_at_call 11; refine (has_any _ _ _ _ _ HS5.out (by omega)).mono ?_; rintro e w' ⟨rfl, rfl⟩)
                go_round
                case rel => exact ⟨j + 1, by omega, by go_num⟩
                case measure => simp [intOf] <;> omega
              · have hh : hasB N (v ||| qbit k0) k0 = true := by rw [hasB_nat hklt, put_get _ _ _ (by omega), decide_eq_true rfl, Bool.or_true]
                have HH := Lib.hid hh
                clear hh
                have ht := HT.out
                have hpp := HP.out
                go_wp2_with fail
                refine (bits_any _ _ _ _ HS5.out).mono ?_
                rintro e w6 ⟨rfl, rfl⟩
                go_wp2_with fail
                refine (free_yes _ _ _ _ _ HS5.out (by omega) HH.out).mono ?_
                rintro e w7 ⟨rfl, hs7, hw7⟩
                rw [HD.out] at hs7
                replace hb := below_put hb hg0 hw7
                go_wp2_with fail
                refine (bits_any _ _ _ _ hs7).mono ?_
                rintro e w8 ⟨rfl, rfl⟩
                go_wp2_with fail
                go_ret
                exact ⟨rfl, hb⟩
theorem procsLeast_walk (n : Int) (a : Option Addr) (np cp : Nat) (lp : List Int) (w : World) (_ : (Lit.int .i64 n).wf = true) (hr : RdAt .i64 w a np cp lp) :
    Calls Try.prog 3 #[.int .i64 n, .slice a np cp] w fun e w' => e = .returned (.bool true) ∧ Below w.heap.size w w' := by
  by_cases h1 : n < 1
  · have hd1 : decide (n < 1) = true := decide_eq_true h1
    go_enter Try.func3, Try.ntmps3
    go_wp2_with (go_at_call 5; refine (known17 _).mono ?_; rintro e w1 ⟨rfl, hb⟩)
    go_ret
    exact ⟨rfl, hb⟩
  have hd1 : decide (n < 1) = false := decide_eq_false h1
  by_cases h2 : 64 < n
  · have hd2 : decide (64 < n) = true := decide_eq_true h2
    go_enter Try.func3, Try.ntmps3
    go_wp2_with (go_at_call 5; refine (known17 _).mono ?_; rintro e w1 ⟨rfl, hb⟩)
    go_ret
    exact ⟨rfl, hb⟩
  by_cases h3 : 100 < np
  · have hd2 : decide (64 < n) = false := decide_eq_false h2
    have hd3 : decide ((100 : Int) < np) = true := decide_eq_true (by omega)
    go_enter Try.func3, Try.ntmps3
    go_wp2_with (go_at_call 5; refine (known17 _).mono ?_; rintro e w1 ⟨rfl, hb⟩)
    go_ret
    exact ⟨rfl, hb⟩
  obtain ⟨N, rfl⟩ := Int.eq_ofNat_of_zero_le (by omega : 0 ≤ n)
  exact least_in N a np cp lp w hr (by omega) (by omega) (by omega)
end Go.Proofs.Ytlcmnaponpjhnaa
