/- Joined: RingRooms: the walk. RingRooms: for every input the law returns true, and every argument reads as it did: the row round the walk. -/
import Derived.Deep.CutBlock
import Derived.Deep.DeepCutAuto
import Derived.Test.YtlhpdkapddnbcaaJo14
import Derived.Test.YtlhpdkapddnbcaaRows
import Derived.WalkKit
import Derived.ProofKit
import Derived.OpenShut
import Derived.ShutString
import Derived.ChangeOld
import Derived.Below
namespace Go.Proofs.Ytlhpdkapddnbcaa
open Go.RowKit
/-- A record that takes at most so many sectors. -/
theorem rm_fit {J : Jr} {n size left k s : Nat} (hn : n ≤ 60) (hs : 64 ≤ size) (hs2 : size ≤ 512) (hjn : J.n = n) (hjs : J.size = size) (hsum : sumN J.ks + left + 3 ≤ n) (hk : k < 2 * size) (he : (k + size - 33) / (size - 32) + 1 = s) (hsl : s ≤ left) : ¬ roomN J < (k : Int) ∧ ndN size k ≤ s := by
  obtain ⟨R, hR⟩ : ∃ R, size - 32 = R := ⟨_, rfl⟩
  obtain ⟨q, hq⟩ : ∃ q, (k + size - 33) / (size - 32) = q := ⟨_, rfl⟩
  rw [hq] at he
  have h1 := Nat.div_add_mod (k + size - 33) (size - 32)
  have h2 := Nat.mod_lt (k + size - 33) (show 0 < size - 32 by omega)
  rw [hq, hR] at h1
  rw [hR] at h2
  obtain ⟨md, hmd⟩ : ∃ md, (k + size - 33) % R = md := ⟨_, rfl⟩
  rw [hmd] at h1 h2
  obtain ⟨p, hp⟩ : ∃ p, R * q = p := ⟨_, rfl⟩
  rw [hp] at h1
  have h3 : k ≤ p := by omega
  obtain ⟨f, hf⟩ : ∃ f, J.n - 2 - sumN J.ks = f := ⟨_, rfl⟩
  have h4 : p ≤ f * R := by rw [← hp, Nat.mul_comm]; exact Nat.mul_le_mul_right _ (by omega)
  refine ⟨?_, ?_⟩
  · unfold roomN
    rw [if_neg (by omega), hf, hjs, hR]
    omega
  · unfold ndN
    obtain ⟨S, hS⟩ : ∃ S, size - 18 = S := ⟨_, rfl⟩
    rw [hS]
    have h5 : p ≤ q * S := by rw [← hp, Nat.mul_comm]; exact Nat.mul_le_mul_left _ (by omega)
    have h6 : (k + S - 1) / S < q + 1 := by
      rw [Nat.div_lt_iff_lt_mul (by omega), Nat.add_mul]
      omega
    omega
theorem rm_full {J : Jr} {n size : Nat} (hn : n ≤ 60) (hs2 : size ≤ 512) (hjn : J.n = n) (hjs : J.size = size) : roomN J < 1048576 := by
  unfold roomN
  split
  · omega
  · have h : (J.n - 2 - sumN J.ks) * (J.size - 32) ≤ 60 * 512 := Nat.mul_le_mul (by omega) (by omega)
    omega
theorem rm_first {n size : Nat} {t : Int} (h4 : 4 ≤ n) (hn : n ≤ 60) (hs : 64 ≤ size) (hs2 : size ≤ 512) : ∃ R : Nat, roomN (fmJ 2 n size t) = R ∧ (n - 3) * (size - 32) ≤ R ∧ R ≤ 60 * 512 := by
  rw [fmJ_room h4]
  have h : (n - 2) * (size - 32) ≤ 60 * 512 := Nat.mul_le_mul (by omega) (by omega)
  have h2 : (n - 3) * (size - 32) ≤ (n - 2) * (size - 32) := Nat.mul_le_mul_right _ (by omega)
  exact ⟨(n - 2) * (size - 32), by omega, h2, h⟩

set_option linter.unusedSimpArgs false in
set_option linter.unusedVariables false in
set_option maxRecDepth 100000 in
set_option maxHeartbeats 4000000 in
theorem ringRooms_walk (a0 a1 : Int) (x2 : Option Addr) (nl cl : Nat) (l : List Int) (w0 : World) (hw0 : (Lit.int .i64 a0).wf = true) (hw1 : (Lit.int .i64 a1).wf = true) (hl : RdAt .i64 w0 x2 nl cl l) : Calls Try.prog 3 #[.int .i64 a0, .int .i64 a1, .slice x2 nl cl] w0 fun e w' => e = .returned (.bool true) ∧ Below w0.heap.size w0 w' := by
  obtain ⟨p0, p1⟩ := wf_i64_bd hw0
  obtain ⟨q0, q1⟩ := wf_i64_bd hw1
  have HKN := Lib.hid (known8 w0)
  have hcl : nl ≤ maxLen := Nat.le_trans hl.cap hl.max
  unfold maxLen at hcl
  have HL := Lib.hid hl
  clear hl
  by_cases hs : a0 < 64
  · have d0 : decide (a0 < 64) = true := decide_eq_true (by omega)
    go_enter Try.func3, Try.ntmps3
    go_wp2_with fail
    refine HKN.out.mono ?_
    rintro e w1 ⟨rfl, hb1⟩
    have B1 := Lib.hid hb1
    clear hb1
    go_wp2_with fail
    go_ret
    exact ⟨rfl, B1.out⟩
  have d0 : decide (a0 < 64) = false := decide_eq_false (by omega)
  by_cases hs2 : 512 < a0
  · have d1 : decide (512 < a0) = true := decide_eq_true (by omega)
    go_enter Try.func3, Try.ntmps3
    go_wp2_with fail
    refine HKN.out.mono ?_
    rintro e w1 ⟨rfl, hb1⟩
    have B1 := Lib.hid hb1
    clear hb1
    go_wp2_with fail
    go_ret
    exact ⟨rfl, B1.out⟩
  have d1 : decide (512 < a0) = false := decide_eq_false (by omega)
  by_cases hn : a1 < 4
  · have d2 : decide (a1 < 4) = true := decide_eq_true (by omega)
    go_enter Try.func3, Try.ntmps3
    go_wp2_with fail
    refine HKN.out.mono ?_
    rintro e w1 ⟨rfl, hb1⟩
    have B1 := Lib.hid hb1
    clear hb1
    go_wp2_with fail
    go_ret
    exact ⟨rfl, B1.out⟩
  have d2 : decide (a1 < 4) = false := decide_eq_false (by omega)
  by_cases hn2 : 60 < a1
  · have d3 : decide (60 < a1) = true := decide_eq_true (by omega)
    go_enter Try.func3, Try.ntmps3
    go_wp2_with fail
    refine HKN.out.mono ?_
    rintro e w1 ⟨rfl, hb1⟩
    have B1 := Lib.hid hb1
    clear hb1
    go_wp2_with fail
    go_ret
    exact ⟨rfl, B1.out⟩
  have d3 : decide (60 < a1) = false := decide_eq_false (by omega)
  by_cases hnl : 60 < nl
  · have d4 : decide (60 < (nl : Int)) = true := decide_eq_true (by omega)
    go_enter Try.func3, Try.ntmps3
    go_wp2_with fail
    refine HKN.out.mono ?_
    rintro e w1 ⟨rfl, hb1⟩
    have B1 := Lib.hid hb1
    clear hb1
    go_wp2_with fail
    go_ret
    exact ⟨rfl, B1.out⟩
  have d4 : decide (60 < (nl : Int)) = false := decide_eq_false (by omega)
  obtain ⟨size, rfl⟩ : ∃ size : Nat, a0 = size := Int.eq_ofNat_of_zero_le (by omega)
  obtain ⟨n, rfl⟩ : ∃ n : Nat, a1 = n := Int.eq_ofNat_of_zero_le (by omega)
  have h4 : 4 ≤ n := by omega
  have h60 : n ≤ 60 := by omega
  have h64 : 64 ≤ size := by omega
  have h512 : size ≤ 512 := by omega
  have hnl60 : nl ≤ 60 := by omega
  clear hs hs2 hn hn2 hnl p0 p1 q0 q1 hw0 hw1 hcl
  have HBG : Hid (∀ w1, Calls Try.prog 10 #[.int .i64 (size : Int), .int .i64 (n : Int)] w1 fun e w' => ∃ g d r Q, e = .returned (.pointer (some ⟨g, 0, none⟩)) ∧ Begun w1 w' g d r Q n size) := fun w1 => begun_any n size w1 h4 h60 h64 h512
  obtain ⟨R, hR, hR1, hR2⟩ := rm_first (t := bgT n size) h4 h60 h64 h512
  have HRV0 := Lib.hid hR
  clear hR
  obtain ⟨pm, hpm⟩ : ∃ pm, (n - 3) * (size - 32) = pm := ⟨_, rfl⟩
  rw [hpm] at hR1
  have hpm2 : ((n : Int) - 3) * ((size : Int) - 32) = pm := by rw [show (n : Int) - 3 = ((n - 3 : Nat) : Int) by omega, show (size : Int) - 32 = ((size - 32 : Nat) : Int) by omega, ← Int.natCast_mul, hpm]
  have e1 : wrap64 ((n : Int) - 3) = (n : Int) - 3 := by unfold wrap64; omega
  have e2 : wrap64 ((size : Int) - 32) = (size : Int) - 32 := by unfold wrap64; omega
  have d9 : decide ((R : Int) < wrap64 (((n : Int) - 3) * ((size : Int) - 32))) = false := by rw [hpm2]; exact decide_eq_false (by unfold wrap64; omega)
  clear hpm hpm2 e1 e2
  go_enter Try.func3, Try.ntmps3
  go_wp2_with fail
  refine HKN.out.mono ?_
  rintro e w1 ⟨rfl, hb1⟩
  have B1 := Lib.hid hb1
  clear hb1
  go_wp2_with fail
  refine (HBG.out w1).mono ?_
  rintro e w2 ⟨g, d, r, Q, rfl, hbg⟩
  have HRM := Lib.hid (hbg.rm.back B1.out)
  clear hbg
  have hc1 := HRM.out.cells
  go_upto_block 0 with (first | (go_at_call 11; refine HRM.out.room.mono ?_; rintro e w3 ⟨rfl, rfl⟩; rw [HRV0.out]))
  go_cut [] (fun wx => Below w0.heap.size w0 wx)
  case first =>
    go_wp2_with fail
    clear hc1 d9
    go_loopw [8, 9] (fun lf ix wr => ∃ (i left : Nat) (Q : Nat → Prop) (st : Dk) (J : Jr), i ≤ nl ∧ ix = .int .i64 i ∧ lf = .int .i64 left ∧ Hid (RmIn w0 wr g d r Q n size i st J) ∧ sumN J.ks + left + 3 ≤ n) (fun _ ix _ => nl - (intOf ix).toNat)
    case atStart => exact ⟨0, n - 3, Q, _, _, by omega, rfl, by go_num, HRM, by show 0 + (n - 3) + 3 ≤ n; omega⟩
    case round =>
      obtain ⟨i, left, Q, st, J, hi, rfl, rfl, HRM, hsum⟩ := hrel
      by_cases hin : i < nl
      · have din : decide ((i : Int) < nl) = true := decide_eq_true (by omega)
        obtain ⟨b, o, rfl, hcl⟩ := (HL.out.below HRM.out.below).cell i hin
        obtain ⟨x, hx⟩ : ∃ x, nth l i = x := ⟨_, rfl⟩
        have hxw := HL.out.wfAt i hin
        rw [hx] at hcl hxw
        obtain ⟨x0, x1⟩ := wf_i64_bd hxw
        obtain ⟨y, hy⟩ : ∃ y, x.tmod (2 * (size : Int)) = y := ⟨_, rfl⟩
        clear hxw hx
        have hy2 : -(2 * (size : Int)) < y ∧ y < 2 * (size : Int) := by
          have h1 := Int.tmod_lt_of_pos x (show (0 : Int) < 2 * size by omega)
          have h2 := Int.lt_tmod_of_pos x (show (0 : Int) < 2 * size by omega)
          omega
        have HY := Lib.hid hy
        have dz : ((wrap64 (2 * (size : Int)) == 0) = false) := by rw [beq_eq_false_iff_ne]; unfold wrap64; omega
        go_upto_region 13 with fail
        clear hy
        by_cases hy0 : y < 0
        · obtain ⟨k, rfl⟩ : ∃ k : Nat, y = -(k : Int) := ⟨y.natAbs, by omega⟩
          have hk0 : 0 < k := by omega
          have dy : decide (0 < (k : Int)) = true := decide_eq_true (by omega)
          obtain ⟨s, hs⟩ : ∃ s, (k + size - 33) / (size - 32) + 1 = s := ⟨_, rfl⟩
          have hsi : ((k : Int) + (size : Int) - 33) / ((size : Int) - 32) + 1 = s := by rw [← hs, show (k : Int) + (size : Int) - 33 = ((k + size - 33 : Nat) : Int) by omega, show (size : Int) - 32 = ((size - 32 : Nat) : Int) by omega]; omega
          have hs3 : s ≤ k + size := by have := Nat.div_le_self (k + size - 33) (size - 32); omega
          have HSW : Hid (wrap64 (((k : Int) + (size : Int) - 33) / ((size : Int) - 32) + 1) = (s : Int)) := by show _ = _; rw [hsi]; unfold wrap64; omega
          have HS := Lib.hid hs
          clear hs hsi
          have hk2 : k < 2 * size := by omega
          clear hy2 hy0
          go_upto_region 16 with fail
          rw [HSW.out]
          by_cases hsl : s ≤ left
          · obtain ⟨hft, hnd⟩ := rm_fit h60 h64 h512 HRM.out.jn HRM.out.jsz hsum hk2 HS.out hsl
            have HFT : Hid ((k : Int) ≤ roomN J) := by show _ ≤ _; omega
            clear hft
            have hi1000 : i ≤ 1000 := by omega
            obtain ⟨hb, hhb⟩ : ∃ hb, wr.heap.size = hb := ⟨_, rfl⟩
            have HQH : Hid (∀ x, Q x → x < hb) := fun x hx => by rw [← hhb]; exact HRM.out.ri.lt x hx
            go_wp2_with fail
            refine' reg_kill [(6, 5)] [eqV _, eqV _, eqV _, eqV _, eqV _, fun v w => ∃ b, v = Value.slice (some ⟨b, 0, none⟩) k k ∧ RdAt .u8 w (some ⟨b, 0, none⟩) k k (List.replicate k 0) ∧ hb ≤ b, fun v w => v = Value.tuple #[Value.int .u64 (1 + (i : Nat)), Value.int .i64 0] ∧ ∃ Q' st' J', RmIn w0 w g d r Q' n size (i + 1) st' J' ∧ J'.ks = J.ks ++ [ndN size k], eqV _, eqV _, eqV _, eqV _, eqV _] [(6, fun w w' => True)] [(3, fun w => RmIn w0 w g d r Q n size i st J), (5, fun w => hb ≤ w.heap.size), (6, fun w => RmIn w0 w g d r Q n size i st J)] [89, 90, 91, 92, 93, 94, 95, 88, 96, 97, 12, 13] [[], [0], [1], [2], [], [4], [3, 5], [6], [7], [7], [8], [9]] [0, 1, 2, 3, 4, 5, 6, 7, 8, 9, 10, 11] 12 (by kernel_rfl) (by kernel_rfl) ⟨eqV_stays _, eqV_stays _, eqV_stays _, eqV_stays _, eqV_stays _, fun _ _ _ p b => p.elim fun bb q => ⟨bb, q.1, q.2.1.below b, q.2.2⟩, fun _ _ _ p b => ⟨p.1, p.2.elim fun Q' q => q.elim fun st' q => q.elim fun J' q => ⟨Q', st', J', q.1.more b, q.2⟩⟩, eqV_stays _, eqV_stays _, eqV_stays _, eqV_stays _, eqV_stays _, trivial⟩ ⟨⟨.inl (eqV_stays _), .inl (eqV_stays _), .inl (eqV_stays _), .inl (eqV_stays _), .inl (eqV_stays _), .inr (.inr (.inr (by kernel_rfl))), .inr (.inr (.inl rfl)), .inl (eqV_stays _), .inl (eqV_stays _), .inl (eqV_stays _), .inl (eqV_stays _), .inl (eqV_stays _), trivial⟩, trivial⟩ ⟨fun _ _ p b => p.more b, fun _ _ p b => Nat.le_trans p b.size, fun _ _ p b => p.more b, trivial⟩ ⟨⟨.inr (.inl (by kernel_rfl)), .inr (.inl (by kernel_rfl)), .inr (.inr rfl), trivial⟩, trivial⟩ ⟨HRM.out.drew, Nat.le_of_eq hhb.symm, HRM.out.drew, trivial⟩ 137 rfl (by kernel_rfl) (by kernel_rfl) rfl rfl 12 rfl ?q1obl ?q1fin
            case q1obl =>
              refine And.intro ?q1o0 (And.intro ?q1o1 (And.intro ?q1o2 (And.intro ?q1o3 (And.intro ?q1o4 (And.intro ?q1o5 (And.intro ?q1o6 (And.intro ?q1o7 (And.intro ?q1o8 (And.intro ?q1o9 (And.intro ?q1o10 (And.intro ?q1o11 (True.intro))))))))))))
              case q1o0 =>
                intro w1 hI
                refine turn2_on (by rfl) ?_
                intro K hK
                go_simp
                refine hK _ _ ⟨rfl, Kept.refl _, ?_⟩
                show _ = _
                simp only [List.getD_cons_zero, List.getD_cons_succ, Array.getD_eq_getD_getElem?, List.getElem?_toArray, List.getElem?_cons_zero, List.getElem?_cons_succ, Option.getD_some]
                rfl
              case q1o1 =>
                intro w1 hI
                intro v0 h0
                change _ = _ at h0
                subst v0
                refine turn2_on (by rfl) ?_
                intro K hK
                simp only [List.getD_cons_zero, List.getD_cons_succ, List.setIfInBounds_toArray, List.set_cons_zero, List.set_cons_succ]
                go_simp
                refine hK _ _ ⟨rfl, Kept.refl _, ?_⟩
                show _ = _
                simp only [List.getD_cons_zero, List.getD_cons_succ, Array.getD_eq_getD_getElem?, List.getElem?_toArray, List.getElem?_cons_zero, List.getElem?_cons_succ, Option.getD_some]
                rfl
              case q1o2 =>
                intro w1 hI
                intro v1 h1
                change _ = _ at h1
                subst v1
                refine turn2_on (by rfl) ?_
                intro K hK
                simp only [List.getD_cons_zero, List.getD_cons_succ, List.setIfInBounds_toArray, List.set_cons_zero, List.set_cons_succ]
                go_simp
                refine hK _ _ ⟨rfl, Kept.refl _, ?_⟩
                show _ = _
                simp only [List.getD_cons_zero, List.getD_cons_succ, Array.getD_eq_getD_getElem?, List.getElem?_toArray, List.getElem?_cons_zero, List.getElem?_cons_succ, Option.getD_some]
                rfl
              case q1o3 =>
                intro w1 hI
                replace hI : (fun w => RmIn w0 w g d r Q n size i st J) w1 := hI
                intro v2 h2
                change _ = _ at h2
                subst v2
                refine turn2_on (by rfl) ?_
                intro K hK
                simp only [List.getD_cons_zero, List.getD_cons_succ, List.setIfInBounds_toArray, List.set_cons_zero, List.set_cons_succ]
                have hc1 := RmIn.cells hI
                go_simp
                refine hK _ _ ⟨rfl, Kept.refl _, ?_⟩
                show _ = _
                simp only [List.getD_cons_zero, List.getD_cons_succ, Array.getD_eq_getD_getElem?, List.getElem?_toArray, List.getElem?_cons_zero, List.getElem?_cons_succ, Option.getD_some]
                rfl
              case q1o4 =>
                intro w1 hI
                refine turn2_on (by rfl) ?_
                intro K hK
                go_simp
                refine hK _ _ ⟨rfl, Kept.refl _, ?_⟩
                show _ = _
                simp only [List.getD_cons_zero, List.getD_cons_succ, Array.getD_eq_getD_getElem?, List.getElem?_toArray, List.getElem?_cons_zero, List.getElem?_cons_succ, Option.getD_some]
                rfl
              case q1o5 =>
                intro w1 hI
                replace hI : (fun w => hb ≤ w.heap.size) w1 := hI
                intro v4 h4
                change _ = _ at h4
                subst v4
                refine turn2_on (by rfl) ?_
                intro K hK
                simp only [List.getD_cons_zero, List.getD_cons_succ, List.setIfInBounds_toArray, List.set_cons_zero, List.set_cons_succ]
                obtain ⟨vz, wz, hrz, hnz⟩ := mk_zeros k (by omega) w1
                obtain ⟨⟨bz, hvz, hlz, hgz⟩, hbz⟩ := hnz
                subst hvz
                go_simp
                refine hK _ _ ⟨rfl, hbz, ?_⟩
                show ∃ b, _ = Value.slice (some ⟨b, 0, none⟩) k k ∧ RdAt .u8 wz (some ⟨b, 0, none⟩) k k (List.replicate k 0) ∧ hb ≤ b
                simp only [List.getD_cons_zero, List.getD_cons_succ, Array.getD_eq_getD_getElem?, List.getElem?_toArray, List.getElem?_cons_zero, List.getElem?_cons_succ, Option.getD_some]
                exact ⟨bz, rfl, hlz, Nat.le_trans hI hgz⟩
              case q1o6 =>
                intro w1 hI
                replace hI : (fun w => RmIn w0 w g d r Q n size i st J) w1 := hI
                intro v3 h3
                change _ = _ at h3
                subst v3
                intro v5 h5
                obtain ⟨b5, rfl, h5, g5⟩ := h5
                refine turn2_on (by rfl) ?_
                intro K hK
                simp only [List.getD_cons_zero, List.getD_cons_succ, List.setIfInBounds_toArray, List.set_cons_zero, List.set_cons_succ]
                go_simp
                refine Calls.mono (RmIn.append hI (by omega) h5 (fun x hx _ hq => by injection hx with hx; subst hx; exact Nat.lt_irrefl _ (Nat.lt_of_lt_of_le (HQH.out _ hq) g5)) (by have := HFT.out; omega)) ?_
                rintro e w2 ⟨rfl, h2⟩
                refine hK _ _ ⟨rfl, trivial, ?_⟩
                show _ = Value.tuple #[Value.int .u64 (1 + (i : Nat)), Value.int .i64 0] ∧ ∃ Q' st' J', RmIn w0 w2 g d r Q' n size (i + 1) st' J' ∧ J'.ks = J.ks ++ [ndN size k]
                simp only [List.getD_cons_zero, List.getD_cons_succ, Array.getD_eq_getD_getElem?, List.getElem?_toArray, List.getElem?_cons_zero, List.getElem?_cons_succ, Option.getD_some]
                exact ⟨trivial, h2⟩
              case q1o7 =>
                intro w1 hI
                intro v6 h6
                obtain ⟨rfl, g6⟩ := h6
                refine turn2_on (by rfl) ?_
                intro K hK
                simp only [List.getD_cons_zero, List.getD_cons_succ, List.setIfInBounds_toArray, List.set_cons_zero, List.set_cons_succ]
                go_simp
                refine hK _ _ ⟨rfl, Kept.refl _, ?_⟩
                show _ = _
                simp only [List.getD_cons_zero, List.getD_cons_succ, Array.getD_eq_getD_getElem?, List.getElem?_toArray, List.getElem?_cons_zero, List.getElem?_cons_succ, Option.getD_some]
                rfl
              case q1o8 =>
                intro w1 hI
                intro v7 h7
                change _ = _ at h7
                subst v7
                refine turn2_on (by rfl) ?_
                intro K hK
                simp only [List.getD_cons_zero, List.getD_cons_succ, List.setIfInBounds_toArray, List.set_cons_zero, List.set_cons_succ]
                go_simp
                refine hK _ _ ⟨rfl, Kept.refl _, ?_⟩
                show _ = _
                simp only [List.getD_cons_zero, List.getD_cons_succ, Array.getD_eq_getD_getElem?, List.getElem?_toArray, List.getElem?_cons_zero, List.getElem?_cons_succ, Option.getD_some]
                rfl
              case q1o9 =>
                intro w1 hI
                intro v7 h7
                change _ = _ at h7
                subst v7
                refine turn2_on (by rfl) ?_
                intro K hK
                simp only [List.getD_cons_zero, List.getD_cons_succ, List.setIfInBounds_toArray, List.set_cons_zero, List.set_cons_succ]
                go_simp
                refine hK _ _ ⟨rfl, Kept.refl _, ?_⟩
                show _ = _
                simp only [List.getD_cons_zero, List.getD_cons_succ, Array.getD_eq_getD_getElem?, List.getElem?_toArray, List.getElem?_cons_zero, List.getElem?_cons_succ, Option.getD_some]
                rfl
              case q1o10 =>
                intro w1 hI
                intro v8 h8
                change _ = _ at h8
                subst v8
                refine turn2_on (by rfl) ?_
                intro K hK
                simp only [List.getD_cons_zero, List.getD_cons_succ, List.setIfInBounds_toArray, List.set_cons_zero, List.set_cons_succ]
                go_simp
                refine hK _ _ ⟨rfl, Kept.refl _, ?_⟩
                show _ = _
                simp only [List.getD_cons_zero, List.getD_cons_succ, Array.getD_eq_getD_getElem?, List.getElem?_toArray, List.getElem?_cons_zero, List.getElem?_cons_succ, Option.getD_some]
                rfl
              case q1o11 =>
                intro w1 hI
                intro v9 h9
                change _ = _ at h9
                subst v9
                refine turn2_on (by rfl) ?_
                intro K hK
                simp only [List.getD_cons_zero, List.getD_cons_succ, List.setIfInBounds_toArray, List.set_cons_zero, List.set_cons_succ]
                go_simp
                refine hK _ _ ⟨rfl, Kept.refl _, ?_⟩
                show _ = _
                simp only [List.getD_cons_zero, List.getD_cons_succ, Array.getD_eq_getD_getElem?, List.getElem?_toArray, List.getElem?_cons_zero, List.getElem?_cons_succ, Option.getD_some]
                rfl
            intro w9 hI
            intro v0 h0
            replace h0 := h0 (by kernel_rfl)
            change _ = _ at h0
            subst v0
            intro v1 h1
            replace h1 := h1 (by kernel_rfl)
            change _ = _ at h1
            subst v1
            intro v2 h2
            replace h2 := h2 (by kernel_rfl)
            change _ = _ at h2
            subst v2
            intro v3 h3
            replace h3 := h3 (by kernel_rfl)
            change _ = _ at h3
            subst v3
            intro v4 h4
            replace h4 := h4 (by kernel_rfl)
            change _ = _ at h4
            subst v4
            intro v5 _
            intro v6 h6
            replace h6 := h6 (by kernel_rfl)
            obtain ⟨rfl, g6⟩ := h6
            intro v7 h7
            replace h7 := h7 (by kernel_rfl)
            change _ = _ at h7
            subst v7
            intro v8 h8
            replace h8 := h8 (by kernel_rfl)
            change _ = _ at h8
            subst v8
            intro v9 h9
            replace h9 := h9 (by kernel_rfl)
            change _ = _ at h9
            subst v9
            intro v10 h10
            replace h10 := h10 (by kernel_rfl)
            change _ = _ at h10
            subst v10
            intro v11 h11
            replace h11 := h11 (by kernel_rfl)
            change _ = _ at h11
            subst v11
            simp only [Given, List.getD_cons_zero, List.getD_cons_succ, List.setIfInBounds_toArray, List.set_cons_zero, List.set_cons_succ]
            obtain ⟨Q', st', J', h2, hks⟩ := g6
            have HRM2 := Lib.hid h2
            have hsum2 : sumN J'.ks + (left - s) + 3 ≤ n := by
              rw [hks, sumN_app]
              show sumN J.ks + (ndN size k + 0) + (left - s) + 3 ≤ n
              omega
            clear h2 hks
            go_wp2_with fail
            go_roundw
            case rel => exact ⟨i + 1, left - s, Q', st', J', by omega, by go_num, by go_num, HRM2, hsum2⟩
            case measure => simp [intOf] <;> omega
          · go_wp2_with fail
            go_meet
            case rel => exact HRM.out.below
        · obtain ⟨k, rfl⟩ : ∃ k : Nat, y = (k : Int) := ⟨y.natAbs, by omega⟩
          have dy : decide ((k : Int) < 0) = false := decide_eq_false hy0
          obtain ⟨s, hs⟩ : ∃ s, (k + size - 33) / (size - 32) + 1 = s := ⟨_, rfl⟩
          have hsi : ((k : Int) + (size : Int) - 33) / ((size : Int) - 32) + 1 = s := by rw [← hs, show (k : Int) + (size : Int) - 33 = ((k + size - 33 : Nat) : Int) by omega, show (size : Int) - 32 = ((size - 32 : Nat) : Int) by omega]; omega
          have hs3 : s ≤ k + size := by have := Nat.div_le_self (k + size - 33) (size - 32); omega
          have HSW : Hid (wrap64 (((k : Int) + (size : Int) - 33) / ((size : Int) - 32) + 1) = (s : Int)) := by show _ = _; rw [hsi]; unfold wrap64; omega
          have HS := Lib.hid hs
          clear hs hsi
          have hk2 : k < 2 * size := by omega
          clear hy2 hy0
          go_upto_region 16 with fail
          rw [HSW.out]
          by_cases hsl : s ≤ left
          · obtain ⟨hft, hnd⟩ := rm_fit h60 h64 h512 HRM.out.jn HRM.out.jsz hsum hk2 HS.out hsl
            have HFT : Hid ((k : Int) ≤ roomN J) := by show _ ≤ _; omega
            clear hft
            have hi1000 : i ≤ 1000 := by omega
            obtain ⟨hb, hhb⟩ : ∃ hb, wr.heap.size = hb := ⟨_, rfl⟩
            have HQH : Hid (∀ x, Q x → x < hb) := fun x hx => by rw [← hhb]; exact HRM.out.ri.lt x hx
            go_wp2_with fail
            refine' reg_kill [(6, 5)] [eqV _, eqV _, eqV _, eqV _, eqV _, fun v w => ∃ b, v = Value.slice (some ⟨b, 0, none⟩) k k ∧ RdAt .u8 w (some ⟨b, 0, none⟩) k k (List.replicate k 0) ∧ hb ≤ b, fun v w => v = Value.tuple #[Value.int .u64 (1 + (i : Nat)), Value.int .i64 0] ∧ ∃ Q' st' J', RmIn w0 w g d r Q' n size (i + 1) st' J' ∧ J'.ks = J.ks ++ [ndN size k], eqV _, eqV _, eqV _, eqV _, eqV _] [(6, fun w w' => True)] [(3, fun w => RmIn w0 w g d r Q n size i st J), (5, fun w => hb ≤ w.heap.size), (6, fun w => RmIn w0 w g d r Q n size i st J)] [89, 90, 91, 92, 93, 94, 95, 88, 96, 97, 12, 13] [[], [0], [1], [2], [], [4], [3, 5], [6], [7], [7], [8], [9]] [0, 1, 2, 3, 4, 5, 6, 7, 8, 9, 10, 11] 12 (by kernel_rfl) (by kernel_rfl) ⟨eqV_stays _, eqV_stays _, eqV_stays _, eqV_stays _, eqV_stays _, fun _ _ _ p b => p.elim fun bb q => ⟨bb, q.1, q.2.1.below b, q.2.2⟩, fun _ _ _ p b => ⟨p.1, p.2.elim fun Q' q => q.elim fun st' q => q.elim fun J' q => ⟨Q', st', J', q.1.more b, q.2⟩⟩, eqV_stays _, eqV_stays _, eqV_stays _, eqV_stays _, eqV_stays _, trivial⟩ ⟨⟨.inl (eqV_stays _), .inl (eqV_stays _), .inl (eqV_stays _), .inl (eqV_stays _), .inl (eqV_stays _), .inr (.inr (.inr (by kernel_rfl))), .inr (.inr (.inl rfl)), .inl (eqV_stays _), .inl (eqV_stays _), .inl (eqV_stays _), .inl (eqV_stays _), .inl (eqV_stays _), trivial⟩, trivial⟩ ⟨fun _ _ p b => p.more b, fun _ _ p b => Nat.le_trans p b.size, fun _ _ p b => p.more b, trivial⟩ ⟨⟨.inr (.inl (by kernel_rfl)), .inr (.inl (by kernel_rfl)), .inr (.inr rfl), trivial⟩, trivial⟩ ⟨HRM.out.drew, Nat.le_of_eq hhb.symm, HRM.out.drew, trivial⟩ 137 rfl (by kernel_rfl) (by kernel_rfl) rfl rfl 12 rfl ?q2obl ?q2fin
            case q2obl =>
              refine And.intro ?q2o0 (And.intro ?q2o1 (And.intro ?q2o2 (And.intro ?q2o3 (And.intro ?q2o4 (And.intro ?q2o5 (And.intro ?q2o6 (And.intro ?q2o7 (And.intro ?q2o8 (And.intro ?q2o9 (And.intro ?q2o10 (And.intro ?q2o11 (True.intro))))))))))))
              case q2o0 =>
                intro w1 hI
                refine turn2_on (by rfl) ?_
                intro K hK
                go_simp
                refine hK _ _ ⟨rfl, Kept.refl _, ?_⟩
                show _ = _
                simp only [List.getD_cons_zero, List.getD_cons_succ, Array.getD_eq_getD_getElem?, List.getElem?_toArray, List.getElem?_cons_zero, List.getElem?_cons_succ, Option.getD_some]
                rfl
              case q2o1 =>
                intro w1 hI
                intro v0 h0
                change _ = _ at h0
                subst v0
                refine turn2_on (by rfl) ?_
                intro K hK
                simp only [List.getD_cons_zero, List.getD_cons_succ, List.setIfInBounds_toArray, List.set_cons_zero, List.set_cons_succ]
                go_simp
                refine hK _ _ ⟨rfl, Kept.refl _, ?_⟩
                show _ = _
                simp only [List.getD_cons_zero, List.getD_cons_succ, Array.getD_eq_getD_getElem?, List.getElem?_toArray, List.getElem?_cons_zero, List.getElem?_cons_succ, Option.getD_some]
                rfl
              case q2o2 =>
                intro w1 hI
                intro v1 h1
                change _ = _ at h1
                subst v1
                refine turn2_on (by rfl) ?_
                intro K hK
                simp only [List.getD_cons_zero, List.getD_cons_succ, List.setIfInBounds_toArray, List.set_cons_zero, List.set_cons_succ]
                go_simp
                refine hK _ _ ⟨rfl, Kept.refl _, ?_⟩
                show _ = _
                simp only [List.getD_cons_zero, List.getD_cons_succ, Array.getD_eq_getD_getElem?, List.getElem?_toArray, List.getElem?_cons_zero, List.getElem?_cons_succ, Option.getD_some]
                rfl
              case q2o3 =>
                intro w1 hI
                replace hI : (fun w => RmIn w0 w g d r Q n size i st J) w1 := hI
                intro v2 h2
                change _ = _ at h2
                subst v2
                refine turn2_on (by rfl) ?_
                intro K hK
                simp only [List.getD_cons_zero, List.getD_cons_succ, List.setIfInBounds_toArray, List.set_cons_zero, List.set_cons_succ]
                have hc1 := RmIn.cells hI
                go_simp
                refine hK _ _ ⟨rfl, Kept.refl _, ?_⟩
                show _ = _
                simp only [List.getD_cons_zero, List.getD_cons_succ, Array.getD_eq_getD_getElem?, List.getElem?_toArray, List.getElem?_cons_zero, List.getElem?_cons_succ, Option.getD_some]
                rfl
              case q2o4 =>
                intro w1 hI
                refine turn2_on (by rfl) ?_
                intro K hK
                go_simp
                refine hK _ _ ⟨rfl, Kept.refl _, ?_⟩
                show _ = _
                simp only [List.getD_cons_zero, List.getD_cons_succ, Array.getD_eq_getD_getElem?, List.getElem?_toArray, List.getElem?_cons_zero, List.getElem?_cons_succ, Option.getD_some]
                rfl
              case q2o5 =>
                intro w1 hI
                replace hI : (fun w => hb ≤ w.heap.size) w1 := hI
                intro v4 h4
                change _ = _ at h4
                subst v4
                refine turn2_on (by rfl) ?_
                intro K hK
                simp only [List.getD_cons_zero, List.getD_cons_succ, List.setIfInBounds_toArray, List.set_cons_zero, List.set_cons_succ]
                obtain ⟨vz, wz, hrz, hnz⟩ := mk_zeros k (by omega) w1
                obtain ⟨⟨bz, hvz, hlz, hgz⟩, hbz⟩ := hnz
                subst hvz
                go_simp
                refine hK _ _ ⟨rfl, hbz, ?_⟩
                show ∃ b, _ = Value.slice (some ⟨b, 0, none⟩) k k ∧ RdAt .u8 wz (some ⟨b, 0, none⟩) k k (List.replicate k 0) ∧ hb ≤ b
                simp only [List.getD_cons_zero, List.getD_cons_succ, Array.getD_eq_getD_getElem?, List.getElem?_toArray, List.getElem?_cons_zero, List.getElem?_cons_succ, Option.getD_some]
                exact ⟨bz, rfl, hlz, Nat.le_trans hI hgz⟩
              case q2o6 =>
                intro w1 hI
                replace hI : (fun w => RmIn w0 w g d r Q n size i st J) w1 := hI
                intro v3 h3
                change _ = _ at h3
                subst v3
                intro v5 h5
                obtain ⟨b5, rfl, h5, g5⟩ := h5
                refine turn2_on (by rfl) ?_
                intro K hK
                simp only [List.getD_cons_zero, List.getD_cons_succ, List.setIfInBounds_toArray, List.set_cons_zero, List.set_cons_succ]
                go_simp
                refine Calls.mono (RmIn.append hI (by omega) h5 (fun x hx _ hq => by injection hx with hx; subst hx; exact Nat.lt_irrefl _ (Nat.lt_of_lt_of_le (HQH.out _ hq) g5)) (by have := HFT.out; omega)) ?_
                rintro e w2 ⟨rfl, h2⟩
                refine hK _ _ ⟨rfl, trivial, ?_⟩
                show _ = Value.tuple #[Value.int .u64 (1 + (i : Nat)), Value.int .i64 0] ∧ ∃ Q' st' J', RmIn w0 w2 g d r Q' n size (i + 1) st' J' ∧ J'.ks = J.ks ++ [ndN size k]
                simp only [List.getD_cons_zero, List.getD_cons_succ, Array.getD_eq_getD_getElem?, List.getElem?_toArray, List.getElem?_cons_zero, List.getElem?_cons_succ, Option.getD_some]
                exact ⟨trivial, h2⟩
              case q2o7 =>
                intro w1 hI
                intro v6 h6
                obtain ⟨rfl, g6⟩ := h6
                refine turn2_on (by rfl) ?_
                intro K hK
                simp only [List.getD_cons_zero, List.getD_cons_succ, List.setIfInBounds_toArray, List.set_cons_zero, List.set_cons_succ]
                go_simp
                refine hK _ _ ⟨rfl, Kept.refl _, ?_⟩
                show _ = _
                simp only [List.getD_cons_zero, List.getD_cons_succ, Array.getD_eq_getD_getElem?, List.getElem?_toArray, List.getElem?_cons_zero, List.getElem?_cons_succ, Option.getD_some]
                rfl
              case q2o8 =>
                intro w1 hI
                intro v7 h7
                change _ = _ at h7
                subst v7
                refine turn2_on (by rfl) ?_
                intro K hK
                simp only [List.getD_cons_zero, List.getD_cons_succ, List.setIfInBounds_toArray, List.set_cons_zero, List.set_cons_succ]
                go_simp
                refine hK _ _ ⟨rfl, Kept.refl _, ?_⟩
                show _ = _
                simp only [List.getD_cons_zero, List.getD_cons_succ, Array.getD_eq_getD_getElem?, List.getElem?_toArray, List.getElem?_cons_zero, List.getElem?_cons_succ, Option.getD_some]
                rfl
              case q2o9 =>
                intro w1 hI
                intro v7 h7
                change _ = _ at h7
                subst v7
                refine turn2_on (by rfl) ?_
                intro K hK
                simp only [List.getD_cons_zero, List.getD_cons_succ, List.setIfInBounds_toArray, List.set_cons_zero, List.set_cons_succ]
                go_simp
                refine hK _ _ ⟨rfl, Kept.refl _, ?_⟩
                show _ = _
                simp only [List.getD_cons_zero, List.getD_cons_succ, Array.getD_eq_getD_getElem?, List.getElem?_toArray, List.getElem?_cons_zero, List.getElem?_cons_succ, Option.getD_some]
                rfl
              case q2o10 =>
                intro w1 hI
                intro v8 h8
                change _ = _ at h8
                subst v8
                refine turn2_on (by rfl) ?_
                intro K hK
                simp only [List.getD_cons_zero, List.getD_cons_succ, List.setIfInBounds_toArray, List.set_cons_zero, List.set_cons_succ]
                go_simp
                refine hK _ _ ⟨rfl, Kept.refl _, ?_⟩
                show _ = _
                simp only [List.getD_cons_zero, List.getD_cons_succ, Array.getD_eq_getD_getElem?, List.getElem?_toArray, List.getElem?_cons_zero, List.getElem?_cons_succ, Option.getD_some]
                rfl
              case q2o11 =>
                intro w1 hI
                intro v9 h9
                change _ = _ at h9
                subst v9
                refine turn2_on (by rfl) ?_
                intro K hK
                simp only [List.getD_cons_zero, List.getD_cons_succ, List.setIfInBounds_toArray, List.set_cons_zero, List.set_cons_succ]
                go_simp
                refine hK _ _ ⟨rfl, Kept.refl _, ?_⟩
                show _ = _
                simp only [List.getD_cons_zero, List.getD_cons_succ, Array.getD_eq_getD_getElem?, List.getElem?_toArray, List.getElem?_cons_zero, List.getElem?_cons_succ, Option.getD_some]
                rfl
            intro w9 hI
            intro v0 h0
            replace h0 := h0 (by kernel_rfl)
            change _ = _ at h0
            subst v0
            intro v1 h1
            replace h1 := h1 (by kernel_rfl)
            change _ = _ at h1
            subst v1
            intro v2 h2
            replace h2 := h2 (by kernel_rfl)
            change _ = _ at h2
            subst v2
            intro v3 h3
            replace h3 := h3 (by kernel_rfl)
            change _ = _ at h3
            subst v3
            intro v4 h4
            replace h4 := h4 (by kernel_rfl)
            change _ = _ at h4
            subst v4
            intro v5 _
            intro v6 h6
            replace h6 := h6 (by kernel_rfl)
            obtain ⟨rfl, g6⟩ := h6
            intro v7 h7
            replace h7 := h7 (by kernel_rfl)
            change _ = _ at h7
            subst v7
            intro v8 h8
            replace h8 := h8 (by kernel_rfl)
            change _ = _ at h8
            subst v8
            intro v9 h9
            replace h9 := h9 (by kernel_rfl)
            change _ = _ at h9
            subst v9
            intro v10 h10
            replace h10 := h10 (by kernel_rfl)
            change _ = _ at h10
            subst v10
            intro v11 h11
            replace h11 := h11 (by kernel_rfl)
            change _ = _ at h11
            subst v11
            simp only [Given, List.getD_cons_zero, List.getD_cons_succ, List.setIfInBounds_toArray, List.set_cons_zero, List.set_cons_succ]
            obtain ⟨Q', st', J', h2, hks⟩ := g6
            have HRM2 := Lib.hid h2
            have hsum2 : sumN J'.ks + (left - s) + 3 ≤ n := by
              rw [hks, sumN_app]
              show sumN J.ks + (ndN size k + 0) + (left - s) + 3 ≤ n
              omega
            clear h2 hks
            go_wp2_with fail
            go_roundw
            case rel => exact ⟨i + 1, left - s, Q', st', J', by omega, by go_num, by go_num, HRM2, hsum2⟩
            case measure => simp [intOf] <;> omega
          · go_wp2_with fail
            go_meet
            case rel => exact HRM.out.below
      · have din : decide ((i : Int) < nl) = false := decide_eq_false (by omega)
        go_wp2_with fail
        go_meet
        case rel => exact HRM.out.below
  case rest =>
    have BX : Hid (Below w0.heap.size w0 wc) := hcut
    clear HRM hc1 d9
    go_wp2_with fail
    refine (HBG.out wc).mono ?_
    rintro e w3 ⟨g, d, r, Q, rfl, hbg⟩
    have hrm := hbg.rm.back BX.out
    clear hbg
    obtain ⟨st, hst⟩ : ∃ st, fmS (dk0 (n + 4) size) 2 size (bgT n size) = st := ⟨_, rfl⟩
    obtain ⟨J, hJ⟩ : ∃ J, fmJ 2 n size (bgT n size) = J := ⟨_, rfl⟩
    rw [hst, hJ] at hrm
    rw [hJ] at HRV0
    clear hst hJ
    have HRM := Lib.hid hrm
    have HRV := HRV0
    clear hrm
    have HFT : Hid ((R : Int) ≤ roomN J) := by show _ ≤ _; rw [HRV.out]; exact Int.le_refl _
    obtain ⟨hb, hhb⟩ : ∃ hb, w3.heap.size = hb := ⟨_, rfl⟩
    have HQH : Hid (∀ x, Q x → x < hb) := fun x hx => by rw [← hhb]; exact HRM.out.ri.lt x hx
    go_wp2_with fail
    refine' reg_kill [(10, 9)] [eqV _, eqV _, eqV _, eqV _, eqV _, eqV _, eqV _, eqV _, eqV _, fun v w => ∃ b, v = Value.slice (some ⟨b, 0, none⟩) R R ∧ RdAt .u8 w (some ⟨b, 0, none⟩) R R (List.replicate R 0) ∧ hb ≤ b, fun v w => v = Value.tuple #[Value.int .u64 (1 + (0 : Nat)), Value.int .i64 0] ∧ ∃ Q' st' J', RmIn w0 w g d r Q' n size (0 + 1) st' J' ∧ J'.ks = J.ks ++ [ndN size R], eqV _, eqV _, eqV _, eqV _, eqV _] [(10, fun w w' => True)] [(3, fun w => RmIn w0 w g d r Q n size 0 st J), (7, fun w => RmIn w0 w g d r Q n size 0 st J), (8, fun w => RmIn w0 w g d r Q n size 0 st J), (9, fun w => hb ≤ w.heap.size), (10, fun w => RmIn w0 w g d r Q n size 0 st J)] [109, 110, 111, 112, 113, 114, 115, 116, 117, 118, 119, 108, 120, 121, 15, 16] [[], [0], [1], [2], [], [4], [5], [6], [7], [8], [3, 9], [10], [11], [11], [12], [13]] [0, 1, 2, 3, 4, 5, 6, 7, 8, 9, 10, 11, 12, 13, 14, 15] 16 (by kernel_rfl) (by kernel_rfl) ⟨eqV_stays _, eqV_stays _, eqV_stays _, eqV_stays _, eqV_stays _, eqV_stays _, eqV_stays _, eqV_stays _, eqV_stays _, fun _ _ _ p b => p.elim fun bb q => ⟨bb, q.1, q.2.1.below b, q.2.2⟩, fun _ _ _ p b => ⟨p.1, p.2.elim fun Q' q => q.elim fun st' q => q.elim fun J' q => ⟨Q', st', J', q.1.more b, q.2⟩⟩, eqV_stays _, eqV_stays _, eqV_stays _, eqV_stays _, eqV_stays _, trivial⟩ ⟨⟨.inl (eqV_stays _), .inl (eqV_stays _), .inl (eqV_stays _), .inl (eqV_stays _), .inl (eqV_stays _), .inl (eqV_stays _), .inl (eqV_stays _), .inl (eqV_stays _), .inl (eqV_stays _), .inr (.inr (.inr (by kernel_rfl))), .inr (.inr (.inl rfl)), .inl (eqV_stays _), .inl (eqV_stays _), .inl (eqV_stays _), .inl (eqV_stays _), .inl (eqV_stays _), trivial⟩, trivial⟩ ⟨fun _ _ p b => p.more b, fun _ _ p b => p.more b, fun _ _ p b => p.more b, fun _ _ p b => Nat.le_trans p b.size, fun _ _ p b => p.more b, trivial⟩ ⟨⟨.inr (.inl (by kernel_rfl)), .inr (.inl (by kernel_rfl)), .inr (.inl (by kernel_rfl)), .inr (.inl (by kernel_rfl)), .inr (.inr rfl), trivial⟩, trivial⟩ ⟨HRM.out.drew, HRM.out.drew, HRM.out.drew, Nat.le_of_eq hhb.symm, HRM.out.drew, trivial⟩ 137 rfl (by kernel_rfl) (by kernel_rfl) rfl rfl 16 rfl ?q3obl ?q3fin
    case q3obl =>
      refine And.intro ?q3o0 (And.intro ?q3o1 (And.intro ?q3o2 (And.intro ?q3o3 (And.intro ?q3o4 (And.intro ?q3o5 (And.intro ?q3o6 (And.intro ?q3o7 (And.intro ?q3o8 (And.intro ?q3o9 (And.intro ?q3o10 (And.intro ?q3o11 (And.intro ?q3o12 (And.intro ?q3o13 (And.intro ?q3o14 (And.intro ?q3o15 (True.intro))))))))))))))))
      case q3o0 =>
        intro w1 hI
        refine turn2_on (by rfl) ?_
        intro K hK
        go_simp
        refine hK _ _ ⟨rfl, Kept.refl _, ?_⟩
        show _ = _
        simp only [List.getD_cons_zero, List.getD_cons_succ, Array.getD_eq_getD_getElem?, List.getElem?_toArray, List.getElem?_cons_zero, List.getElem?_cons_succ, Option.getD_some]
        rfl
      case q3o1 =>
        intro w1 hI
        intro v0 h0
        change _ = _ at h0
        subst v0
        refine turn2_on (by rfl) ?_
        intro K hK
        simp only [List.getD_cons_zero, List.getD_cons_succ, List.setIfInBounds_toArray, List.set_cons_zero, List.set_cons_succ]
        go_simp
        refine hK _ _ ⟨rfl, Kept.refl _, ?_⟩
        show _ = _
        simp only [List.getD_cons_zero, List.getD_cons_succ, Array.getD_eq_getD_getElem?, List.getElem?_toArray, List.getElem?_cons_zero, List.getElem?_cons_succ, Option.getD_some]
        rfl
      case q3o2 =>
        intro w1 hI
        intro v1 h1
        change _ = _ at h1
        subst v1
        refine turn2_on (by rfl) ?_
        intro K hK
        simp only [List.getD_cons_zero, List.getD_cons_succ, List.setIfInBounds_toArray, List.set_cons_zero, List.set_cons_succ]
        go_simp
        refine hK _ _ ⟨rfl, Kept.refl _, ?_⟩
        show _ = _
        simp only [List.getD_cons_zero, List.getD_cons_succ, Array.getD_eq_getD_getElem?, List.getElem?_toArray, List.getElem?_cons_zero, List.getElem?_cons_succ, Option.getD_some]
        rfl
      case q3o3 =>
        intro w1 hI
        replace hI : (fun w => RmIn w0 w g d r Q n size 0 st J) w1 := hI
        intro v2 h2
        change _ = _ at h2
        subst v2
        refine turn2_on (by rfl) ?_
        intro K hK
        simp only [List.getD_cons_zero, List.getD_cons_succ, List.setIfInBounds_toArray, List.set_cons_zero, List.set_cons_succ]
        have hc1 := RmIn.cells hI
        go_simp
        refine hK _ _ ⟨rfl, Kept.refl _, ?_⟩
        show _ = _
        simp only [List.getD_cons_zero, List.getD_cons_succ, Array.getD_eq_getD_getElem?, List.getElem?_toArray, List.getElem?_cons_zero, List.getElem?_cons_succ, Option.getD_some]
        rfl
      case q3o4 =>
        intro w1 hI
        refine turn2_on (by rfl) ?_
        intro K hK
        go_simp
        refine hK _ _ ⟨rfl, Kept.refl _, ?_⟩
        show _ = _
        simp only [List.getD_cons_zero, List.getD_cons_succ, Array.getD_eq_getD_getElem?, List.getElem?_toArray, List.getElem?_cons_zero, List.getElem?_cons_succ, Option.getD_some]
        rfl
      case q3o5 =>
        intro w1 hI
        intro v4 h4
        change _ = _ at h4
        subst v4
        refine turn2_on (by rfl) ?_
        intro K hK
        simp only [List.getD_cons_zero, List.getD_cons_succ, List.setIfInBounds_toArray, List.set_cons_zero, List.set_cons_succ]
        go_simp
        refine hK _ _ ⟨rfl, Kept.refl _, ?_⟩
        show _ = _
        simp only [List.getD_cons_zero, List.getD_cons_succ, Array.getD_eq_getD_getElem?, List.getElem?_toArray, List.getElem?_cons_zero, List.getElem?_cons_succ, Option.getD_some]
        rfl
      case q3o6 =>
        intro w1 hI
        intro v5 h5
        change _ = _ at h5
        subst v5
        refine turn2_on (by rfl) ?_
        intro K hK
        simp only [List.getD_cons_zero, List.getD_cons_succ, List.setIfInBounds_toArray, List.set_cons_zero, List.set_cons_succ]
        go_simp
        refine hK _ _ ⟨rfl, Kept.refl _, ?_⟩
        show _ = _
        simp only [List.getD_cons_zero, List.getD_cons_succ, Array.getD_eq_getD_getElem?, List.getElem?_toArray, List.getElem?_cons_zero, List.getElem?_cons_succ, Option.getD_some]
        rfl
      case q3o7 =>
        intro w1 hI
        replace hI : (fun w => RmIn w0 w g d r Q n size 0 st J) w1 := hI
        intro v6 h6
        change _ = _ at h6
        subst v6
        refine turn2_on (by rfl) ?_
        intro K hK
        simp only [List.getD_cons_zero, List.getD_cons_succ, List.setIfInBounds_toArray, List.set_cons_zero, List.set_cons_succ]
        have hc1 := RmIn.cells hI
        go_simp
        refine hK _ _ ⟨rfl, Kept.refl _, ?_⟩
        show _ = _
        simp only [List.getD_cons_zero, List.getD_cons_succ, Array.getD_eq_getD_getElem?, List.getElem?_toArray, List.getElem?_cons_zero, List.getElem?_cons_succ, Option.getD_some]
        rfl
      case q3o8 =>
        intro w1 hI
        replace hI : (fun w => RmIn w0 w g d r Q n size 0 st J) w1 := hI
        intro v7 h7
        change _ = _ at h7
        subst v7
        refine turn2_on (by rfl) ?_
        intro K hK
        simp only [List.getD_cons_zero, List.getD_cons_succ, List.setIfInBounds_toArray, List.set_cons_zero, List.set_cons_succ]
        go_simp
        refine Calls.mono (RmIn.room hI) ?_
        rintro e w2 ⟨rfl, rfl⟩
        rw [HRV.out]
        refine hK _ _ ⟨rfl, Kept.refl _, ?_⟩
        show _ = _
        simp only [List.getD_cons_zero, List.getD_cons_succ, Array.getD_eq_getD_getElem?, List.getElem?_toArray, List.getElem?_cons_zero, List.getElem?_cons_succ, Option.getD_some]
        rfl
      case q3o9 =>
        intro w1 hI
        replace hI : (fun w => hb ≤ w.heap.size) w1 := hI
        intro v8 h8
        change _ = _ at h8
        subst v8
        refine turn2_on (by rfl) ?_
        intro K hK
        simp only [List.getD_cons_zero, List.getD_cons_succ, List.setIfInBounds_toArray, List.set_cons_zero, List.set_cons_succ]
        obtain ⟨vz, wz, hrz, hnz⟩ := mk_zeros R (by omega) w1
        obtain ⟨⟨bz, hvz, hlz, hgz⟩, hbz⟩ := hnz
        subst hvz
        go_simp
        refine hK _ _ ⟨rfl, hbz, ?_⟩
        show ∃ b, _ = Value.slice (some ⟨b, 0, none⟩) R R ∧ RdAt .u8 wz (some ⟨b, 0, none⟩) R R (List.replicate R 0) ∧ hb ≤ b
        simp only [List.getD_cons_zero, List.getD_cons_succ, Array.getD_eq_getD_getElem?, List.getElem?_toArray, List.getElem?_cons_zero, List.getElem?_cons_succ, Option.getD_some]
        exact ⟨bz, rfl, hlz, Nat.le_trans hI hgz⟩
      case q3o10 =>
        intro w1 hI
        replace hI : (fun w => RmIn w0 w g d r Q n size 0 st J) w1 := hI
        intro v3 h3
        change _ = _ at h3
        subst v3
        intro v9 h9
        obtain ⟨b9, rfl, h9, g9⟩ := h9
        refine turn2_on (by rfl) ?_
        intro K hK
        simp only [List.getD_cons_zero, List.getD_cons_succ, List.setIfInBounds_toArray, List.set_cons_zero, List.set_cons_succ]
        go_simp
        refine Calls.mono (RmIn.append hI (by omega) h9 (fun x hx _ hq => by injection hx with hx; subst hx; exact Nat.lt_irrefl _ (Nat.lt_of_lt_of_le (HQH.out _ hq) g9)) (by have := HFT.out; omega)) ?_
        rintro e w2 ⟨rfl, h2⟩
        refine hK _ _ ⟨rfl, trivial, ?_⟩
        show _ = Value.tuple #[Value.int .u64 (1 + (0 : Nat)), Value.int .i64 0] ∧ ∃ Q' st' J', RmIn w0 w2 g d r Q' n size (0 + 1) st' J' ∧ J'.ks = J.ks ++ [ndN size R]
        simp only [List.getD_cons_zero, List.getD_cons_succ, Array.getD_eq_getD_getElem?, List.getElem?_toArray, List.getElem?_cons_zero, List.getElem?_cons_succ, Option.getD_some]
        exact ⟨trivial, h2⟩
      case q3o11 =>
        intro w1 hI
        intro v10 h10
        obtain ⟨rfl, g10⟩ := h10
        refine turn2_on (by rfl) ?_
        intro K hK
        simp only [List.getD_cons_zero, List.getD_cons_succ, List.setIfInBounds_toArray, List.set_cons_zero, List.set_cons_succ]
        go_simp
        refine hK _ _ ⟨rfl, Kept.refl _, ?_⟩
        show _ = _
        simp only [List.getD_cons_zero, List.getD_cons_succ, Array.getD_eq_getD_getElem?, List.getElem?_toArray, List.getElem?_cons_zero, List.getElem?_cons_succ, Option.getD_some]
        rfl
      case q3o12 =>
        intro w1 hI
        intro v11 h11
        change _ = _ at h11
        subst v11
        refine turn2_on (by rfl) ?_
        intro K hK
        simp only [List.getD_cons_zero, List.getD_cons_succ, List.setIfInBounds_toArray, List.set_cons_zero, List.set_cons_succ]
        go_simp
        refine hK _ _ ⟨rfl, Kept.refl _, ?_⟩
        show _ = _
        simp only [List.getD_cons_zero, List.getD_cons_succ, Array.getD_eq_getD_getElem?, List.getElem?_toArray, List.getElem?_cons_zero, List.getElem?_cons_succ, Option.getD_some]
        rfl
      case q3o13 =>
        intro w1 hI
        intro v11 h11
        change _ = _ at h11
        subst v11
        refine turn2_on (by rfl) ?_
        intro K hK
        simp only [List.getD_cons_zero, List.getD_cons_succ, List.setIfInBounds_toArray, List.set_cons_zero, List.set_cons_succ]
        go_simp
        refine hK _ _ ⟨rfl, Kept.refl _, ?_⟩
        show _ = _
        simp only [List.getD_cons_zero, List.getD_cons_succ, Array.getD_eq_getD_getElem?, List.getElem?_toArray, List.getElem?_cons_zero, List.getElem?_cons_succ, Option.getD_some]
        rfl
      case q3o14 =>
        intro w1 hI
        intro v12 h12
        change _ = _ at h12
        subst v12
        refine turn2_on (by rfl) ?_
        intro K hK
        simp only [List.getD_cons_zero, List.getD_cons_succ, List.setIfInBounds_toArray, List.set_cons_zero, List.set_cons_succ]
        go_simp
        refine hK _ _ ⟨rfl, Kept.refl _, ?_⟩
        show _ = _
        simp only [List.getD_cons_zero, List.getD_cons_succ, Array.getD_eq_getD_getElem?, List.getElem?_toArray, List.getElem?_cons_zero, List.getElem?_cons_succ, Option.getD_some]
        rfl
      case q3o15 =>
        intro w1 hI
        intro v13 h13
        change _ = _ at h13
        subst v13
        refine turn2_on (by rfl) ?_
        intro K hK
        simp only [List.getD_cons_zero, List.getD_cons_succ, List.setIfInBounds_toArray, List.set_cons_zero, List.set_cons_succ]
        go_simp
        refine hK _ _ ⟨rfl, Kept.refl _, ?_⟩
        show _ = _
        simp only [List.getD_cons_zero, List.getD_cons_succ, Array.getD_eq_getD_getElem?, List.getElem?_toArray, List.getElem?_cons_zero, List.getElem?_cons_succ, Option.getD_some]
        rfl
    intro w8 hI
    intro v0 h0
    replace h0 := h0 (by kernel_rfl)
    change _ = _ at h0
    subst v0
    intro v1 h1
    replace h1 := h1 (by kernel_rfl)
    change _ = _ at h1
    subst v1
    intro v2 h2
    replace h2 := h2 (by kernel_rfl)
    change _ = _ at h2
    subst v2
    intro v3 h3
    replace h3 := h3 (by kernel_rfl)
    change _ = _ at h3
    subst v3
    intro v4 h4
    replace h4 := h4 (by kernel_rfl)
    change _ = _ at h4
    subst v4
    intro v5 h5
    replace h5 := h5 (by kernel_rfl)
    change _ = _ at h5
    subst v5
    intro v6 h6
    replace h6 := h6 (by kernel_rfl)
    change _ = _ at h6
    subst v6
    intro v7 h7
    replace h7 := h7 (by kernel_rfl)
    change _ = _ at h7
    subst v7
    intro v8 h8
    replace h8 := h8 (by kernel_rfl)
    change _ = _ at h8
    subst v8
    intro v9 _
    intro v10 h10
    replace h10 := h10 (by kernel_rfl)
    obtain ⟨rfl, g10⟩ := h10
    intro v11 h11
    replace h11 := h11 (by kernel_rfl)
    change _ = _ at h11
    subst v11
    intro v12 h12
    replace h12 := h12 (by kernel_rfl)
    change _ = _ at h12
    subst v12
    intro v13 h13
    replace h13 := h13 (by kernel_rfl)
    change _ = _ at h13
    subst v13
    intro v14 h14
    replace h14 := h14 (by kernel_rfl)
    change _ = _ at h14
    subst v14
    intro v15 h15
    replace h15 := h15 (by kernel_rfl)
    change _ = _ at h15
    subst v15
    simp only [Given, List.getD_cons_zero, List.getD_cons_succ, List.setIfInBounds_toArray, List.set_cons_zero, List.set_cons_succ]
    obtain ⟨Q3, stB, JB, h2, _⟩ := g10
    replace h2 : RmIn w0 w8 g d r Q3 n size 1 stB JB := h2
    have HFU : Hid (roomN JB < ((1048576 : Nat) : Int)) := rm_full h60 h512 h2.jn h2.jsz
    clear HRM HRV HRV0 HFT HQH hhb hI
    have HRM := Lib.hid h2
    clear h2
    obtain ⟨hb, hhb⟩ : ∃ hb, w8.heap.size = hb := ⟨_, rfl⟩
    go_wp2_with fail
    refine' reg_kill [(5, 4)] [eqV _, eqV _, eqV _, eqV _, fun v w => ∃ b, v = Value.slice (some ⟨b, 0, none⟩) 1048576 1048576 ∧ RdAt .u8 w (some ⟨b, 0, none⟩) 1048576 1048576 (List.replicate 1048576 0) ∧ hb ≤ b, fun v w => v = Value.tuple #[Value.int .u64 0, Value.int .i64 10] ∧ Below w0.heap.size w0 w, eqV _, eqV _, eqV _, eqV _, eqV _] [(5, fun w w' => True)] [(3, fun w => RmIn w0 w g d r Q3 n size 1 stB JB), (4, fun w => hb ≤ w.heap.size), (5, fun w => RmIn w0 w g d r Q3 n size 1 stB JB)] [123, 124, 125, 126, 127, 128, 122, 129, 130, 17, 18] [[], [0], [1], [2], [], [3, 4], [5], [6], [6], [7], [8]] [0, 1, 2, 3, 4, 5, 6, 7, 8, 9, 10] 11 (by kernel_rfl) (by kernel_rfl) ⟨eqV_stays _, eqV_stays _, eqV_stays _, eqV_stays _, fun _ _ _ p b => p.elim fun bb q => ⟨bb, q.1, q.2.1.below b, q.2.2⟩, fun _ _ _ p b => ⟨p.1, Below.call p.2 b⟩, eqV_stays _, eqV_stays _, eqV_stays _, eqV_stays _, eqV_stays _, trivial⟩ ⟨⟨.inl (eqV_stays _), .inl (eqV_stays _), .inl (eqV_stays _), .inl (eqV_stays _), .inr (.inr (.inr (by kernel_rfl))), .inr (.inr (.inl rfl)), .inl (eqV_stays _), .inl (eqV_stays _), .inl (eqV_stays _), .inl (eqV_stays _), .inl (eqV_stays _), trivial⟩, trivial⟩ ⟨fun _ _ p b => p.more b, fun _ _ p b => Nat.le_trans p b.size, fun _ _ p b => p.more b, trivial⟩ ⟨⟨.inr (.inl (by kernel_rfl)), .inr (.inl (by kernel_rfl)), .inr (.inr rfl), trivial⟩, trivial⟩ ⟨HRM.out.drew, Nat.le_of_eq hhb.symm, HRM.out.drew, trivial⟩ 137 rfl (by kernel_rfl) (by kernel_rfl) rfl rfl 11 rfl ?q4obl ?q4fin
    case q4obl =>
      refine And.intro ?q4o0 (And.intro ?q4o1 (And.intro ?q4o2 (And.intro ?q4o3 (And.intro ?q4o4 (And.intro ?q4o5 (And.intro ?q4o6 (And.intro ?q4o7 (And.intro ?q4o8 (And.intro ?q4o9 (And.intro ?q4o10 (True.intro)))))))))))
      case q4o0 =>
        intro w1 hI
        refine turn2_on (by rfl) ?_
        intro K hK
        go_simp
        refine hK _ _ ⟨rfl, Kept.refl _, ?_⟩
        show _ = _
        simp only [List.getD_cons_zero, List.getD_cons_succ, Array.getD_eq_getD_getElem?, List.getElem?_toArray, List.getElem?_cons_zero, List.getElem?_cons_succ, Option.getD_some]
        rfl
      case q4o1 =>
        intro w1 hI
        intro v0 h0
        change _ = _ at h0
        subst v0
        refine turn2_on (by rfl) ?_
        intro K hK
        simp only [List.getD_cons_zero, List.getD_cons_succ, List.setIfInBounds_toArray, List.set_cons_zero, List.set_cons_succ]
        go_simp
        refine hK _ _ ⟨rfl, Kept.refl _, ?_⟩
        show _ = _
        simp only [List.getD_cons_zero, List.getD_cons_succ, Array.getD_eq_getD_getElem?, List.getElem?_toArray, List.getElem?_cons_zero, List.getElem?_cons_succ, Option.getD_some]
        rfl
      case q4o2 =>
        intro w1 hI
        intro v1 h1
        change _ = _ at h1
        subst v1
        refine turn2_on (by rfl) ?_
        intro K hK
        simp only [List.getD_cons_zero, List.getD_cons_succ, List.setIfInBounds_toArray, List.set_cons_zero, List.set_cons_succ]
        go_simp
        refine hK _ _ ⟨rfl, Kept.refl _, ?_⟩
        show _ = _
        simp only [List.getD_cons_zero, List.getD_cons_succ, Array.getD_eq_getD_getElem?, List.getElem?_toArray, List.getElem?_cons_zero, List.getElem?_cons_succ, Option.getD_some]
        rfl
      case q4o3 =>
        intro w1 hI
        replace hI : (fun w => RmIn w0 w g d r Q3 n size 1 stB JB) w1 := hI
        intro v2 h2
        change _ = _ at h2
        subst v2
        refine turn2_on (by rfl) ?_
        intro K hK
        simp only [List.getD_cons_zero, List.getD_cons_succ, List.setIfInBounds_toArray, List.set_cons_zero, List.set_cons_succ]
        have hc1 := RmIn.cells hI
        go_simp
        refine hK _ _ ⟨rfl, Kept.refl _, ?_⟩
        show _ = _
        simp only [List.getD_cons_zero, List.getD_cons_succ, Array.getD_eq_getD_getElem?, List.getElem?_toArray, List.getElem?_cons_zero, List.getElem?_cons_succ, Option.getD_some]
        rfl
      case q4o4 =>
        intro w1 hI
        replace hI : (fun w => hb ≤ w.heap.size) w1 := hI
        refine turn2_on (by rfl) ?_
        intro K hK
        obtain ⟨vz, wz, hrz, hnz⟩ := mk_zeros 1048576 (by omega) w1
        replace hrz : (Instr.makeSlice 36 (.int .i64 1048576) (.int .i64 1048576)).run Try.prog w1 = .ok vz wz := hrz
        obtain ⟨⟨bz, hvz, hlz, hgz⟩, hbz⟩ := hnz
        subst hvz
        go_simp
        refine hK _ _ ⟨rfl, hbz, ?_⟩
        show ∃ b, _ = Value.slice (some ⟨b, 0, none⟩) 1048576 1048576 ∧ RdAt .u8 wz (some ⟨b, 0, none⟩) 1048576 1048576 (List.replicate 1048576 0) ∧ hb ≤ b
        simp only [List.getD_cons_zero, List.getD_cons_succ, Array.getD_eq_getD_getElem?, List.getElem?_toArray, List.getElem?_cons_zero, List.getElem?_cons_succ, Option.getD_some]
        exact ⟨bz, rfl, hlz, Nat.le_trans hI hgz⟩
      case q4o5 =>
        intro w1 hI
        replace hI : (fun w => RmIn w0 w g d r Q3 n size 1 stB JB) w1 := hI
        intro v3 h3
        change _ = _ at h3
        subst v3
        intro v4 h4
        obtain ⟨b4, rfl, h4, g4⟩ := h4
        refine turn2_on (by rfl) ?_
        intro K hK
        simp only [List.getD_cons_zero, List.getD_cons_succ, List.setIfInBounds_toArray, List.set_cons_zero, List.set_cons_succ]
        go_simp
        refine Calls.mono (append_full Q3 r d stB JB _ _ _ _ w1 hI.ri h4 (by have := HFU.out; omega) (by omega)) ?_
        rintro e w2 ⟨rfl, rfl⟩
        refine hK _ _ ⟨rfl, trivial, ?_⟩
        show _ = Value.tuple #[Value.int .u64 0, Value.int .i64 10] ∧ Below w0.heap.size w0 w1
        simp only [List.getD_cons_zero, List.getD_cons_succ, Array.getD_eq_getD_getElem?, List.getElem?_toArray, List.getElem?_cons_zero, List.getElem?_cons_succ, Option.getD_some]
        exact ⟨trivial, hI.below⟩
      case q4o6 =>
        intro w1 hI
        intro v5 h5
        obtain ⟨rfl, g5⟩ := h5
        refine turn2_on (by rfl) ?_
        intro K hK
        simp only [List.getD_cons_zero, List.getD_cons_succ, List.setIfInBounds_toArray, List.set_cons_zero, List.set_cons_succ]
        go_simp
        refine hK _ _ ⟨rfl, Kept.refl _, ?_⟩
        show _ = _
        simp only [List.getD_cons_zero, List.getD_cons_succ, Array.getD_eq_getD_getElem?, List.getElem?_toArray, List.getElem?_cons_zero, List.getElem?_cons_succ, Option.getD_some]
        rfl
      case q4o7 =>
        intro w1 hI
        intro v6 h6
        change _ = _ at h6
        subst v6
        refine turn2_on (by rfl) ?_
        intro K hK
        simp only [List.getD_cons_zero, List.getD_cons_succ, List.setIfInBounds_toArray, List.set_cons_zero, List.set_cons_succ]
        go_simp
        refine hK _ _ ⟨rfl, Kept.refl _, ?_⟩
        show _ = _
        simp only [List.getD_cons_zero, List.getD_cons_succ, Array.getD_eq_getD_getElem?, List.getElem?_toArray, List.getElem?_cons_zero, List.getElem?_cons_succ, Option.getD_some]
        rfl
      case q4o8 =>
        intro w1 hI
        intro v6 h6
        change _ = _ at h6
        subst v6
        refine turn2_on (by rfl) ?_
        intro K hK
        simp only [List.getD_cons_zero, List.getD_cons_succ, List.setIfInBounds_toArray, List.set_cons_zero, List.set_cons_succ]
        go_simp
        refine hK _ _ ⟨rfl, Kept.refl _, ?_⟩
        show _ = _
        simp only [List.getD_cons_zero, List.getD_cons_succ, Array.getD_eq_getD_getElem?, List.getElem?_toArray, List.getElem?_cons_zero, List.getElem?_cons_succ, Option.getD_some]
        rfl
      case q4o9 =>
        intro w1 hI
        intro v7 h7
        change _ = _ at h7
        subst v7
        refine turn2_on (by rfl) ?_
        intro K hK
        simp only [List.getD_cons_zero, List.getD_cons_succ, List.setIfInBounds_toArray, List.set_cons_zero, List.set_cons_succ]
        go_simp
        refine hK _ _ ⟨rfl, Kept.refl _, ?_⟩
        show _ = _
        simp only [List.getD_cons_zero, List.getD_cons_succ, Array.getD_eq_getD_getElem?, List.getElem?_toArray, List.getElem?_cons_zero, List.getElem?_cons_succ, Option.getD_some]
        rfl
      case q4o10 =>
        intro w1 hI
        intro v8 h8
        change _ = _ at h8
        subst v8
        refine turn2_on (by rfl) ?_
        intro K hK
        simp only [List.getD_cons_zero, List.getD_cons_succ, List.setIfInBounds_toArray, List.set_cons_zero, List.set_cons_succ]
        go_simp
        refine hK _ _ ⟨rfl, Kept.refl _, ?_⟩
        show _ = _
        simp only [List.getD_cons_zero, List.getD_cons_succ, Array.getD_eq_getD_getElem?, List.getElem?_toArray, List.getElem?_cons_zero, List.getElem?_cons_succ, Option.getD_some]
        rfl
    intro w9 hI
    intro v0 h0
    replace h0 := h0 (by kernel_rfl)
    change _ = _ at h0
    subst v0
    intro v1 h1
    replace h1 := h1 (by kernel_rfl)
    change _ = _ at h1
    subst v1
    intro v2 h2
    replace h2 := h2 (by kernel_rfl)
    change _ = _ at h2
    subst v2
    intro v3 h3
    replace h3 := h3 (by kernel_rfl)
    change _ = _ at h3
    subst v3
    intro v4 _
    intro v5 h5
    replace h5 := h5 (by kernel_rfl)
    obtain ⟨rfl, g5⟩ := h5
    intro v6 h6
    replace h6 := h6 (by kernel_rfl)
    change _ = _ at h6
    subst v6
    intro v7 h7
    replace h7 := h7 (by kernel_rfl)
    change _ = _ at h7
    subst v7
    intro v8 h8
    replace h8 := h8 (by kernel_rfl)
    change _ = _ at h8
    subst v8
    intro v9 h9
    replace h9 := h9 (by kernel_rfl)
    change _ = _ at h9
    subst v9
    intro v10 h10
    replace h10 := h10 (by kernel_rfl)
    change _ = _ at h10
    subst v10
    simp only [Given, List.getD_cons_zero, List.getD_cons_succ, List.setIfInBounds_toArray, List.set_cons_zero, List.set_cons_succ]
    have BZ := Lib.hid g5
    clear g5
    go_wp2_with fail
    go_ret
    exact ⟨rfl, BZ.out⟩
end Go.Proofs.Ytlhpdkapddnbcaa
namespace Go.Proofs.Ytlhpdkapddnbcaa.ringRooms
open Go.ChangeShapes Go.WideShapes Go.ChangeAt Go.RowKit
set_option linter.unusedVariables false

set_option maxRecDepth 100000 in
theorem own : ownKnob Try.prog.godebug = none := by kernel_rfl
set_option maxRecDepth 100000 in
theorem laidOut : laidOutB Try.prog = true := by kernel_rfl

set_option maxRecDepth 100000 in
theorem lifted (os : Os) (started : os.Started) (H : Type) (enc : TypeId × Value → H) :
    ReturnsInHanded {} Try.checked os 3 .any (Rows.ringRoomsSpec.pre6 enc Try.prog Try.f3 Rows.ringRoomsRow.domain false) (Rows.ringRoomsSpec.post enc Try.prog Try.f3 false true false false) := by
  refine returnsInHanded_of_change (C := Try.checked) own started (by kernel_rfl) Try.func3
    (ChangeSpec.witness6 (enc := enc) (C := Try.checked) false ⟨#[], #[.int .i64 0, .int .i64 0, .slice none 0 0], []⟩ 8 (by kernel_rfl) (by kernel_rfl) (by kernel_rfl) (by kernel_rfl)) ?_
  intro W base args ds gs before hval0 hW hcnd _
  have hval : ∀ (j : Nat) t v, Try.f3.params[j]? = some t → args[j]? = some v → Value.okWide Try.prog W .any base t v := hval0
  have hW' := hW
  obtain ⟨p, q, hA0, hV, rfl, hfz, hnd⟩ := hW
  have hA : DataW.TrodAll enc Try.prog W 0 (fun _ => true) true Try.f3.params.toList args.toList ds p := hA0
  rw [Try.params3] at hA hval
  obtain ⟨v0, vs0, d0, ds0, p0, q0, hargs, rfl, rfl, h0, r0⟩ := trodAll_cons hA
  obtain ⟨v1, vs1, d1, ds1, p1, q1, rfl, rfl, rfl, h1, r1⟩ := trodAll_cons r0
  obtain ⟨v2, vs2, d2, ds2, p2, q2, rfl, rfl, rfl, h2, r2⟩ := trodAll_cons r1
  obtain ⟨rfl, rfl, rfl⟩ := trodAll_nil r2
  obtain rfl : args = #[v0, v1, v2] := by cases args; simp_all
  obtain ⟨rfl, rfl⟩ := trodVars_none hV
  obtain ⟨a0, rfl, rfl, rfl, w0⟩ := open_int Try.underlying3 (hval 0 3 v0 rfl rfl) h0
  obtain ⟨a1, rfl, rfl, rfl, w1⟩ := open_int Try.underlying3 (hval 1 3 v1 rfl rfl) h1
  obtain ⟨a2, len2, cap2, rfl⟩ := okWide_slice Try.underlying22 (hval 2 22 v2 rfl rfl)
  have k2 := h2
  have lt2 : ∀ x ∈ p2, x.block < W.heap.size := by obtain ⟨m, hm⟩ := k2; exact DataW.trod_lt m _ _ _ hm
  obtain ⟨z2, w2⟩ : ∃ zs, RdAt .i64 W a2 len2 cap2 zs := by
    obtain ⟨fuel, hf⟩ := h2
    rcases open_ints Try.underlying22 Try.underlying3 (by kernel_rfl) hf with ⟨hcs, _⟩ | ⟨x, l, c, zs, hcs, _, hl, hm, hz, _, hcell, hwz⟩
    · simp [Value.cells] at hcs
      obtain ⟨rfl, rfl, rfl⟩ := hcs
      exact ⟨[], RdAt.nil _ _⟩
    · simp [Value.cells] at hcs
      obtain ⟨rfl, rfl, rfl⟩ := hcs
      exact ⟨_, RdAt.of_row hl hm (by simpa using hz) hcell hwz⟩
  clear hA0 hval0
  refine (ringRooms_walk a0 a1 a2 len2 cap2 z2 W w0 w1 w2).mono fun e W' ⟨he, bel⟩ => ?_
  subst he
  exact ⟨_, rfl, _, _, _, [], _, [], hW', trodAll_mk1 (shut_bool Try.underlying4 _), (trodAll_cons_mk (shut_int Try.underlying3 w0) (trodAll_cons_mk (shut_int Try.underlying3 w1) (trodAll_cons_mk (Below.trod laidOut (by kernel_rfl) (of_decide_eq_true (by kernel_rfl)) k2 bel lt2) trodAll_mk0))), rfl, bel.frame _, fun h => by cases h⟩

set_option maxRecDepth 100000 in
theorem over : Rows.ringRoomsRow.holds Try.pinned (OpenSpec.ofChange Rows.ringRoomsSpec) :=
  OpenClaim.holds_of_wide 3 Try.f3 rfl rfl rfl rfl rfl rfl rfl ⟨rfl, rfl, rfl, rfl, rfl⟩ rfl rfl rfl rfl rfl (by kernel_rfl) Try.func3 (by kernel_rfl)
    (of_decide_eq_true (by kernel_rfl)) (by unfold Func.isWrapper; first | (rw [if_pos (by decide +kernel)]; kernel_rfl) | (rw [if_neg (by decide +kernel)]; exact ⟨rfl, rfl⟩))
    (fun os started H enc _ => lifted os started H enc)

/-- RingRooms holds for every input. -/
theorem proved : Rows.RingRoomsSaid := over
end Go.Proofs.Ytlhpdkapddnbcaa.ringRooms
