/- RingEach: the walk. RingEach: for every input the law returns true, and every argument reads as it did: the row round the walk. -/
import Derived.Test.YtlhpdkapddnbcaaJk0
import Derived.Deep.CutBlock
import Derived.Deep.DeepCutAuto
import Derived.Test.YtlhpdkapddnbcaaJe1
import Derived.Test.YtlhpdkapddnbcaaJk18
import Derived.Test.YtlhpdkapddnbcaaJk4
import Derived.Test.YtlhpdkapddnbcaaJk16
import Derived.Test.YtlhpdkapddnbcaaRows
import Derived.WalkKit
import Derived.ProofKit
import Derived.OpenShut
import Derived.ShutString
import Derived.ChangeOld
import Derived.Below
namespace Go.Proofs.Ytlhpdkapddnbcaa
open Go.RowKit
set_option linter.unusedSimpArgs false in
set_option linter.unusedVariables false in
set_option maxRecDepth 100000 in
set_option maxHeartbeats 4000000 in
theorem ringEach_walk (a0 a1 : Int) (x2 : Option Addr) (na c2 : Nat) (l : List (List Int)) (x3 : Option Addr) (nb c3 : Nat) (B : List Int) (a4 : Int) (x5 : Option Addr) (nk c5 : Nat) (kl : List Bool) (w0 : World) (hw0 : (Lit.int .i64 a0).wf = true) (hw1 : (Lit.int .i64 a1).wf = true) (hl : PartsAt w0 x2 na l) (hB : RdAt .u8 w0 x3 nb c3 B) (hw4 : (Lit.int .i64 a4).wf = true) (hK0 : RdB w0 x5 nk c5 kl) : Calls Try.prog 4 #[.int .i64 a0, .int .i64 a1, .slice x2 na c2, .slice x3 nb c3, .int .i64 a4, .slice x5 nk c5] w0 fun e w' => e = .returned (.bool true) ∧ Below w0.heap.size w0 w' := by
  obtain ⟨p0, p1⟩ := wf_i64_bd hw0
  obtain ⟨q0, q1⟩ := wf_i64_bd hw1
  obtain ⟨t0, t1⟩ := wf_i64_bd hw4
  have HKN := Lib.hid (known8 w0)
  have HL := Lib.hid hl
  have HB := Lib.hid hB
  have HKL := Lib.hid hK0
  have HLN := Lib.hid hl.len
  clear hl hB hK0
  by_cases hs : a0 < 64
  · have d0 : decide (a0 < 64) = true := decide_eq_true (by omega)
    go_enter Try.func4, Try.ntmps4
    go_wp2_with fail
    refine HKN.out.mono ?_
    rintro e w1 ⟨rfl, hb1⟩
    have B1 := Lib.hid hb1
    clear hb1
    go_wp2_with fail
    go_ret
    exact ⟨rfl, B1.out⟩
  have d0 : decide (a0 < 64) = false := decide_eq_false (by omega)
  by_cases hs2 : 256 < a0
  · have d1 : decide (256 < a0) = true := decide_eq_true (by omega)
    go_enter Try.func4, Try.ntmps4
    go_wp2_with fail
    refine HKN.out.mono ?_
    rintro e w1 ⟨rfl, hb1⟩
    have B1 := Lib.hid hb1
    clear hb1
    go_wp2_with fail
    go_ret
    exact ⟨rfl, B1.out⟩
  have d1 : decide (256 < a0) = false := decide_eq_false (by omega)
  by_cases hn : a1 < 4
  · have d2 : decide (a1 < 4) = true := decide_eq_true (by omega)
    go_enter Try.func4, Try.ntmps4
    go_wp2_with fail
    refine HKN.out.mono ?_
    rintro e w1 ⟨rfl, hb1⟩
    have B1 := Lib.hid hb1
    clear hb1
    go_wp2_with fail
    go_ret
    exact ⟨rfl, B1.out⟩
  have d2 : decide (a1 < 4) = false := decide_eq_false (by omega)
  by_cases hn2 : 40 < a1
  · have d3 : decide (40 < a1) = true := decide_eq_true (by omega)
    go_enter Try.func4, Try.ntmps4
    go_wp2_with fail
    refine HKN.out.mono ?_
    rintro e w1 ⟨rfl, hb1⟩
    have B1 := Lib.hid hb1
    clear hb1
    go_wp2_with fail
    go_ret
    exact ⟨rfl, B1.out⟩
  have d3 : decide (40 < a1) = false := decide_eq_false (by omega)
  by_cases hna : 10 < na
  · have d4 : decide (10 < (na : Int)) = true := decide_eq_true (by omega)
    go_enter Try.func4, Try.ntmps4
    go_wp2_with fail
    refine HKN.out.mono ?_
    rintro e w1 ⟨rfl, hb1⟩
    have B1 := Lib.hid hb1
    clear hb1
    go_wp2_with fail
    go_ret
    exact ⟨rfl, B1.out⟩
  have d4 : decide (10 < (na : Int)) = false := decide_eq_false (by omega)
  by_cases hnk : 100 < nk
  · have d5 : decide (100 < (nk : Int)) = true := decide_eq_true (by omega)
    go_enter Try.func4, Try.ntmps4
    go_wp2_with fail
    refine HKN.out.mono ?_
    rintro e w1 ⟨rfl, hb1⟩
    have B1 := Lib.hid hb1
    clear hb1
    go_wp2_with fail
    go_ret
    exact ⟨rfl, B1.out⟩
  have d5 : decide (100 < (nk : Int)) = false := decide_eq_false (by omega)
  obtain ⟨size, rfl⟩ : ∃ size : Nat, a0 = size := Int.eq_ofNat_of_zero_le (by omega)
  obtain ⟨n, rfl⟩ : ∃ n : Nat, a1 = n := Int.eq_ofNat_of_zero_le (by omega)
  have h4 : 4 ≤ n := by omega
  have h60 : n ≤ 60 := by omega
  have h64 : 64 ≤ size := by omega
  have h512 : size ≤ 512 := by omega
  have hna10 : na ≤ 10 := by omega
  have hnk100 : nk ≤ 100 := by omega
  clear hs hs2 hn hn2 hna hnk p0 p1 q0 q1 hw0 hw1 hw4
  have hrb : rightB (n : Int) size = true := by unfold rightB; simp; omega
  have HNW : Hid (∀ w, Calls Try.prog 13 #[.int .i64 (n : Int), .int .i64 size] w fun e w' => ∃ d Z, e = .returned (.tuple #[.pointer (some ⟨d, 0, none⟩), .int .i64 0]) ∧ DkIn w' Z d (dk0 n size) ∧ (∀ k, Z k → w.heap.size ≤ k) ∧ Below w.heap.size w w') := fun w => new_any n size w hrb
  clear hrb
  go_enter Try.func4, Try.ntmps4
  go_wp2_with fail
  refine HKN.out.mono ?_
  rintro e w1 ⟨rfl, hb1⟩
  have B1 := Lib.hid hb1
  clear hb1
  go_wp2_with fail
  refine (HNW.out w1).mono ?_
  rintro e w2 ⟨d, Z0, rfl, hd2, hz2, hb2⟩
  have HBE := Lib.hid (ea_begin (w0 := w0) h4 hd2 (fun k hk => Nat.le_trans B1.out.size (hz2 k hk)) (B1.out.trans (hb2.mono B1.out.size)))
  clear hd2 hz2 hb2
  go_wp2_with fail
  refine HBE.out.mono ?_
  rintro e w3 ⟨r, rfl, Q, st, J, hea, ha0⟩
  have HE0 : Hid (EaIn w0 w3 Q d r n size 0 st J [] ∧ st.armed = 0) := ⟨hea, ha0⟩
  clear hea ha0
  go_upto_block 0 with fail
  go_cut [17] (fun kx wx => ∃ (k : Nat) (Q : Nat → Prop) (st : Dk) (J : Jr), k ≤ na ∧ kx = .int .i64 k ∧ Hid (EaIn w0 wx Q d r n size k st J (l.take k) ∧ st.armed = 0))
  case first =>
    go_wp2_with fail
    go_loopw [17, 18] (fun kx ix wr => ∃ (k : Nat) (Q : Nat → Prop) (st : Dk) (J : Jr), k ≤ na ∧ kx = .int .i64 k ∧ ix = .int .i64 k ∧ Hid (EaIn w0 wr Q d r n size k st J (l.take k) ∧ st.armed = 0)) (fun _ ix _ => na - (intOf ix).toNat)
    case atStart => exact ⟨0, Q, st, J, Nat.zero_le _, rfl, rfl, HE0⟩
    case round =>
      obtain ⟨k, Q, st, J, hk, rfl, rfl, HEA⟩ := hrel
      by_cases hkn : k < na
      · have d6 : decide ((k : Int) < na) = true := decide_eq_true (by omega)
        obtain ⟨b, o, ai, ni, ci, rfl, hcl, hrd⟩ := (HL.out.below HEA.out.1.below).cell k hkn
        obtain ⟨b', o', ai', ni', ci', e', hcl0, hrd0⟩ := HL.out.cell k hkn
        injection e' with e'
        injection e' with e1 e2
        subst e1 e2
        have hce := (Below.cell HEA.out.1.below (block_lt_of_cell hcl0)).trans hcl0
        rw [hcl] at hce
        have hce2 := Option.some.inj hce
        injection hce2 with f1 f2 f3
        subst f1 f2 f3
        obtain ⟨x, hx⟩ : ∃ x, l.getD k [] = x := ⟨_, rfl⟩
        rw [hx] at hrd hrd0
        have htk : l.take (k + 1) = l.take k ++ [x] := by rw [List.take_succ_eq_append_getElem (by rw [HLN.out]; exact hkn)]; simp [← hx, List.getD, HLN.out, hkn]
        have hnq : ∀ y, ai = some y → 0 < ni → ¬ Q y.block := fun y hy h0 hq => by have h1 := rd_ltR hrd0 y hy h0; have h2 := HEA.out.1.base _ hq; omega
        by_cases hf : roomN J < ni
        · have HAP := Lib.hid (append_full2 Q r d st J ai ni ci wr HEA.out.1.ri hf)
          clear hce hcl0 hrd hrd0 hx htk hnq hf
          go_wp2_with fail
          refine HAP.out.mono ?_
          rintro e w5 ⟨rfl, rfl⟩
          go_wp2_with fail
          go_meet
          case rel => exact ⟨k, Q, st, J, hk, rfl, HEA⟩
        · have HAP := Lib.hid (HEA.out.1.append (by omega) ai ni ci x hrd hnq hf)
          have HTK := Lib.hid htk
          clear hce hcl0 hrd hrd0 hx htk hnq hf
          go_wp2_with fail
          refine HAP.out.mono ?_
          rintro e w5 ⟨hh, _⟩
          obtain ⟨rfl, Q', st', J', hea, har⟩ := hh (.inl HEA.out.2)
          rw [← HTK.out] at hea
          have HE5 : Hid (EaIn w0 w5 Q' d r n size (k + 1) st' J' (l.take (k + 1)) ∧ st'.armed = 0) := ⟨hea, har HEA.out.2⟩
          clear hea har hh
          go_wp2_with fail
          go_roundw
          case rel => exact ⟨k + 1, Q', st', J', by omega, by go_num, by go_num, HE5⟩
          case measure => simp [intOf] <;> omega
      · have d6 : decide ((k : Int) < na) = false := decide_eq_false (by omega)
        go_wp2_with fail
        go_meet
        case rel => exact ⟨k, Q, st, J, hk, rfl, HEA⟩
  case rest =>
    obtain ⟨k, Q, st, J, hk, rfl, HEA⟩ := hcut
    clear HE0 HBE HNW HKN d0 d1 d2 d3 d4 d5
    have hLK : (l.take k).length = k := by rw [List.length_take, HLN.out]; omega
    have HRM := Lib.hid HEA.out.1.room
    by_cases hf : roomN J < nb
    · have d6 : decide (roomN J < (nb : Int)) = true := decide_eq_true hf
      have BZ := Lib.hid HEA.out.1.below
      go_wp2_with (first | (go_at_call 11; refine HRM.out.mono ?_; rintro e w5 ⟨rfl, rfl⟩))
      go_ret
      exact ⟨rfl, BZ.out⟩
    have d6 : decide (roomN J < (nb : Int)) = false := decide_eq_false hf
    have HAR := Lib.hid (HEA.out.1.arm a4 x5 nk c5 kl (HKL.out.keep HEA.out.1.below) (by omega) t0 t1)
    go_wp2_with (first | (go_at_call 11; refine HRM.out.mono ?_; rintro e w5 ⟨rfl, rfl⟩))
    refine HAR.out.mono ?_
    rintro e w6 ⟨rfl, Q6, hea6⟩
    have HE6 := Lib.hid hea6
    have HAP := Lib.hid (hea6.append (by omega) x3 nb c3 B (HB.out.below hea6.below) (fun y hy h0 hq => by have h1 := rd_ltR HB.out y hy h0; have h2 := hea6.base _ hq; omega) (by omega))
    clear hea6 hf HAR HRM HEA d6
    by_cases hw : (armS st a4 kl).armed = 0 ∨ ((ndN J.size B.length : Nat) : Int) + 1 < (armS st a4 kl).armed
    · skip
      go_wp2_with fail
      refine HAP.out.mono ?_
      rintro e w7 ⟨hh, _⟩
      obtain ⟨rfl, Q7, st7, J7, hea7, _⟩ := hh hw
      clear hh hw HAP HE6
      obtain ⟨Z7, hed7⟩ := hea7.disk
      have HOF := Lib.hid hea7.off_
      clear hea7
      have HCT := Lib.hid (hed7.cut x5 nk c5 kl (HKL.out.keep hed7.below) (fun y hy h0 => ⟨(HKL.out.keep hed7.below).lt y hy h0, fun hz => by have h1 := HKL.out.lt y hy h0; have h2 := hed7.base _ hz; omega⟩))
      clear hed7
      go_wp2_with (first | (go_at_call 16; refine HOF.out.mono ?_; rintro e w8 ⟨rfl, rfl⟩))
      refine HCT.out.mono ?_
      rintro e w8 ⟨rfl, hed8⟩
      have HON := Lib.hid hed8.on
      clear hed8 HCT HOF
      go_wp2_with fail
      refine HON.out.mono ?_
      rintro e w9 ⟨rfl, hed9⟩
      have HAR := Lib.hid (hed9.arm 1099511627776 none 0 0 [] ⟨rfl, Nat.le_refl _, by unfold maxLen; omega, fun i hi => by omega, fun _ => rfl⟩ (by omega) (by omega) (by omega))
      clear hed9 HON
      go_wp2_with fail
      refine HAR.out.mono ?_
      rintro e w10 ⟨rfl, Z10, hed10⟩
      have HOP := Lib.hid (hed10.opn h4 h60 h64 rfl)
      clear hed10 HAR
      go_wp2_with fail
      refine HOP.out.mono ?_
      rintro e w11 ⟨r2, a2, m2, cc2, rfl, heo⟩
      have EO := Lib.hid heo
      have hm2 : m2 = k + 1 := by rw [← heo.rows.len]; rw [List.length_append, hLK]; rfl
      have hm2l : (l.take k ++ [B]).length = m2 := heo.rows.len
      clear heo HOP
      have dk1 : decide ((m2 : Int) < k) = false := decide_eq_false (by omega)
      have dk2 : decide ((k : Int) + 1 < m2) = false := decide_eq_false (by omega)
      have dk3 : ((m2 : Int) != (k : Int) + 1) = false := by rw [bne_eq_false_iff_eq]; omega
      have dk4 : decide ((k : Int) < m2) = true := decide_eq_true (by omega)
      have hA : k ≤ m2 := by omega
      have hA2 : ¬ m2 < k := by omega
      have hB2 : m2 ≤ k + 1 := by omega
      have hB3 : ¬ k + 1 < m2 := by omega
      have hC : k < m2 := by omega
      have HM2 := Lib.hid hm2
      clear hm2
      go_upto_region 31 with fail
      go_wp2_with fail
      go_loopw [26] (fun ix wr => ∃ j : Nat, j ≤ k ∧ ix = .int .i64 j ∧ Hid (EaO w0 wr r2 a2 m2 cc2 (l.take k ++ [B]))) (fun ix _ => k - (intOf ix).toNat)
      case atStart => exact ⟨0, Nat.zero_le _, rfl, EO⟩
      case round =>
        obtain ⟨j, hj, rfl, EOJ⟩ := hrel
        by_cases hjk : j < k
        · have d8 : decide ((j : Int) < k) = true := decide_eq_true (by omega)
          obtain ⟨b, o, ai, ni, ci, rfl, hcl, hrd⟩ := (HL.out.below EOJ.out.below).cell j (by omega)
          have hx : (l.take k ++ [B])[j]? = some (l.getD j []) := by
            have h1 : j < (l.take k).length := by rw [hLK]; exact hjk
            rw [List.getElem?_append_left h1]
            rw [List.getElem?_take_of_lt hjk, List.getElem?_eq_getElem (by rw [HLN.out]; omega)]
            simp [List.getD, HLN.out, show j < na by omega]
          obtain ⟨y, hy⟩ : ∃ y, l.getD j [] = y := ⟨_, rfl⟩
          rw [hy] at hx hrd
          obtain ⟨b2, o2, aj, nj, cj, e2, hc2, hr2, _⟩ := EOJ.out.rows.each j y hx
          subst e2
          have hjm : j < m2 := by omega
          have hjn : j < na := by omega
          clear hx hy
          go_wp2_with fail
          refine' reg_free (G := Kept) (pickF [eqV _, eqV _, eqV _, eqV _, eqV _, eqV _, eqV _, eqV _, eqV _, eqV _, eqV _]) [176, 177, 178, 179, 180, 181, 182, 183, 184, 185, 186] [[], [], [0, 1], [2], [3], [], [], [5, 6], [7], [8], [4, 9]] [0, 1, 2, 3, 4, 5, 6, 7, 8, 9, 10] (by kernel_rfl) Kept.refl Kept.trans (pick_stays ⟨eqV_stays _, eqV_stays _, eqV_stays _, eqV_stays _, eqV_stays _, eqV_stays _, eqV_stays _, eqV_stays _, eqV_stays _, eqV_stays _, eqV_stays _, trivial⟩) 213 rfl (by kernel_rfl) (by kernel_rfl) rfl rfl ?r1obl ?r1fin
          case r1obl =>
            refine And.intro ?r1o0 (And.intro ?r1o1 (And.intro ?r1o2 (And.intro ?r1o3 (And.intro ?r1o4 (And.intro ?r1o5 (And.intro ?r1o6 (And.intro ?r1o7 (And.intro ?r1o8 (And.intro ?r1o9 (And.intro ?r1o10 (True.intro)))))))))))
            case r1o0 =>
              intro w1 hG
              refine turn_on (by rfl) ?_
              intro K hK
              go_simp
              refine hK _ _ ⟨rfl, Kept.refl _, ?_⟩
              show _ = _
              simp only [gv1]
              rfl
            case r1o1 =>
              intro w1 hG
              refine turn_on (by rfl) ?_
              intro K hK
              go_simp
              refine hK _ _ ⟨rfl, Kept.refl _, ?_⟩
              show _ = _
              simp only [gv1]
              rfl
            case r1o2 =>
              intro w1 hG
              intro v0 h0
              change _ = _ at h0
              subst h0
              intro v1 h1
              change _ = _ at h1
              subst h1
              refine turn_on (by rfl) ?_
              intro K hK
              simp only [gv2]
              go_simp
              refine hK _ _ ⟨rfl, Kept.refl _, ?_⟩
              show _ = _
              simp only [gv1]
              rfl
            case r1o3 =>
              intro w1 hG
              intro v2 h2
              change _ = _ at h2
              subst h2
              refine turn_on (by rfl) ?_
              intro K hK
              simp only [gv2]
              have hc := (Below.cell hG (block_lt_of_cell hc2)).trans hc2
              go_simp
              refine hK _ _ ⟨rfl, Kept.refl _, ?_⟩
              show _ = _
              simp only [gv1]
              rfl
            case r1o4 =>
              intro w1 hG
              intro v3 h3
              change _ = _ at h3
              subst h3
              refine turn_on (by rfl) ?_
              intro K hK
              simp only [gv2]
              refine wp_conv 180 rfl u8T s8 su _ rfl rfl (hr2.keptD hG) ?_
              refine hK _ _ ⟨rfl, Kept.refl _, ?_⟩
              show _ = _
              simp only [gv1]
              rfl
            case r1o5 =>
              intro w1 hG
              refine turn_on (by rfl) ?_
              intro K hK
              go_simp
              refine hK _ _ ⟨rfl, Kept.refl _, ?_⟩
              show _ = _
              simp only [gv1]
              rfl
            case r1o6 =>
              intro w1 hG
              refine turn_on (by rfl) ?_
              intro K hK
              go_simp
              refine hK _ _ ⟨rfl, Kept.refl _, ?_⟩
              show _ = _
              simp only [gv1]
              rfl
            case r1o7 =>
              intro w1 hG
              intro v5 h5
              change _ = _ at h5
              subst h5
              intro v6 h6
              change _ = _ at h6
              subst h6
              refine turn_on (by rfl) ?_
              intro K hK
              simp only [gv2]
              go_simp
              refine hK _ _ ⟨rfl, Kept.refl _, ?_⟩
              show _ = _
              simp only [gv1]
              rfl
            case r1o8 =>
              intro w1 hG
              intro v7 h7
              change _ = _ at h7
              subst h7
              refine turn_on (by rfl) ?_
              intro K hK
              simp only [gv2]
              have hc := (Below.cell hG (block_lt_of_cell hcl)).trans hcl
              go_simp
              refine hK _ _ ⟨rfl, Kept.refl _, ?_⟩
              show _ = _
              simp only [gv1]
              rfl
            case r1o9 =>
              intro w1 hG
              intro v8 h8
              change _ = _ at h8
              subst h8
              refine turn_on (by rfl) ?_
              intro K hK
              simp only [gv2]
              refine wp_conv 185 rfl u8T s8 su _ rfl rfl (hrd.keptD hG) ?_
              refine hK _ _ ⟨rfl, Kept.refl _, ?_⟩
              show _ = _
              simp only [gv1]
              rfl
            case r1o10 =>
              intro w1 hG
              intro v4 h4
              change _ = _ at h4
              subst h4
              intro v9 h9
              change _ = _ at h9
              subst h9
              refine turn_on (by rfl) ?_
              intro K hK
              simp only [gv2]
              go_simp
              refine hK _ _ ⟨rfl, Kept.refl _, ?_⟩
              show _ = _
              simp only [gv1]
              rfl
          intro w1 hG
          intro v0 h0
          change _ = _ at h0
          subst h0
          intro v1 h1
          change _ = _ at h1
          subst h1
          intro v2 h2
          change _ = _ at h2
          subst h2
          intro v3 h3
          change _ = _ at h3
          subst h3
          intro v4 h4
          change _ = _ at h4
          subst h4
          intro v5 h5
          change _ = _ at h5
          subst h5
          intro v6 h6
          change _ = _ at h6
          subst h6
          intro v7 h7
          change _ = _ at h7
          subst h7
          intro v8 h8
          change _ = _ at h8
          subst h8
          intro v9 h9
          change _ = _ at h9
          subst h9
          intro v10 h10
          change _ = _ at h10
          subst h10
          simp only [Given, gv2]
          have hne : ((strOfNums y).toList != (strOfNums y).toList) = false := by simp
          have EOK := Lib.hid (EOJ.out.more (kept_undrew hG))
          clear hG
          go_wp2_with fail
          go_roundw
          case rel => exact ⟨j + 1, by omega, by go_num, EOK⟩
          case measure => simp [intOf] <;> omega
        have d8 : decide ((j : Int) < k) = false := decide_eq_false (by omega)
        have hx : (l.take k ++ [B])[k]? = some B := by rw [List.getElem?_append_right (by rw [hLK]; exact Nat.le_refl _), hLK, Nat.sub_self]; rfl
        obtain ⟨b2, o2, aj, nj, cj, e2, hc2, hr2, _⟩ := EOJ.out.rows.each k B hx
        subst e2
        have hBJ := HB.out.below EOJ.out.below
        clear hx
        go_wp2_with fail
        refine' reg_free (G := Kept) (pickF [eqV _, eqV _, eqV _, eqV _, eqV _, eqV _, eqV _, eqV _, eqV _, eqV _, eqV _, eqV _, eqV _, eqV _]) [187, 188, 189, 190, 191, 192, 193, 194, 195, 196, 197, 198, 199, 200] [[], [0], [], [1, 2], [3], [4], [4], [4, 5, 6], [4, 7], [4, 8], [4], [4, 10], [4, 9, 11], [4, 12]] [0, 1, 2, 3, 4, 5, 6, 7, 8, 9, 10, 11, 12, 13] (by kernel_rfl) Kept.refl Kept.trans (pick_stays ⟨eqV_stays _, eqV_stays _, eqV_stays _, eqV_stays _, eqV_stays _, eqV_stays _, eqV_stays _, eqV_stays _, eqV_stays _, eqV_stays _, eqV_stays _, eqV_stays _, eqV_stays _, eqV_stays _, trivial⟩) 213 rfl (by kernel_rfl) (by kernel_rfl) rfl rfl ?r2obl ?r2fin
        case r2obl =>
          refine And.intro ?r2o0 (And.intro ?r2o1 (And.intro ?r2o2 (And.intro ?r2o3 (And.intro ?r2o4 (And.intro ?r2o5 (And.intro ?r2o6 (And.intro ?r2o7 (And.intro ?r2o8 (And.intro ?r2o9 (And.intro ?r2o10 (And.intro ?r2o11 (And.intro ?r2o12 (And.intro ?r2o13 (True.intro))))))))))))))
          case r2o0 =>
            intro w1 hG
            refine turn_on (by rfl) ?_
            intro K hK
            go_simp
            refine hK _ _ ⟨rfl, Kept.refl _, ?_⟩
            show _ = _
            simp only [gv1]
            rfl
          case r2o1 =>
            intro w1 hG
            intro v0 h0
            change _ = _ at h0
            subst h0
            refine turn_on (by rfl) ?_
            intro K hK
            simp only [gv2]
            go_simp
            refine hK _ _ ⟨rfl, Kept.refl _, ?_⟩
            show _ = _
            simp only [gv1]
            rfl
          case r2o2 =>
            intro w1 hG
            refine turn_on (by rfl) ?_
            intro K hK
            go_simp
            refine hK _ _ ⟨rfl, Kept.refl _, ?_⟩
            show _ = _
            simp only [gv1]
            rfl
          case r2o3 =>
            intro w1 hG
            intro v1 h1
            change _ = _ at h1
            subst h1
            intro v2 h2
            change _ = _ at h2
            subst h2
            refine turn_on (by rfl) ?_
            intro K hK
            simp only [gv2]
            go_simp
            refine hK _ _ ⟨rfl, Kept.refl _, ?_⟩
            show _ = _
            simp only [gv1]
            rfl
          case r2o4 =>
            intro w1 hG
            intro v3 h3
            change _ = _ at h3
            subst h3
            refine turn_on (by rfl) ?_
            intro K hK
            simp only [gv2]
            go_simp
            refine hK _ _ ⟨rfl, Kept.refl _, ?_⟩
            show _ = _
            simp only [gv1]
            rfl
          case r2o5 =>
            intro w1 hG
            intro v4 h4
            change _ = _ at h4
            subst h4
            refine turn_on (by rfl) ?_
            intro K hK
            simp only [gv2]
            go_simp
            refine hK _ _ ⟨rfl, Kept.refl _, ?_⟩
            show _ = _
            simp only [gv1]
            rfl
          case r2o6 =>
            intro w1 hG
            intro v4 h4
            change _ = _ at h4
            subst h4
            refine turn_on (by rfl) ?_
            intro K hK
            simp only [gv2]
            go_simp
            refine hK _ _ ⟨rfl, Kept.refl _, ?_⟩
            show _ = _
            simp only [gv1]
            rfl
          case r2o7 =>
            intro w1 hG
            intro v4 h4
            change _ = _ at h4
            subst h4
            intro v5 h5
            change _ = _ at h5
            subst h5
            intro v6 h6
            change _ = _ at h6
            subst h6
            refine turn_on (by rfl) ?_
            intro K hK
            simp only [gv2]
            go_simp
            refine hK _ _ ⟨rfl, Kept.refl _, ?_⟩
            show _ = _
            simp only [gv1]
            rfl
          case r2o8 =>
            intro w1 hG
            intro v4 h4
            change _ = _ at h4
            subst h4
            intro v7 h7
            change _ = _ at h7
            subst h7
            refine turn_on (by rfl) ?_
            intro K hK
            simp only [gv2]
            have hc := (Below.cell hG (block_lt_of_cell hc2)).trans hc2
            go_simp
            refine hK _ _ ⟨rfl, Kept.refl _, ?_⟩
            show _ = _
            simp only [gv1]
            rfl
          case r2o9 =>
            intro w1 hG
            intro v4 h4
            change _ = _ at h4
            subst h4
            intro v8 h8
            change _ = _ at h8
            subst h8
            refine turn_on (by rfl) ?_
            intro K hK
            simp only [gv2]
            refine wp_conv 196 rfl u8T s8 su _ rfl rfl (hr2.keptD hG) ?_
            refine hK _ _ ⟨rfl, Kept.refl _, ?_⟩
            show _ = _
            simp only [gv1]
            rfl
          case r2o10 =>
            intro w1 hG
            intro v4 h4
            change _ = _ at h4
            subst h4
            refine turn_on (by rfl) ?_
            intro K hK
            simp only [gv2]
            go_simp
            refine hK _ _ ⟨rfl, Kept.refl _, ?_⟩
            show _ = _
            simp only [gv1]
            rfl
          case r2o11 =>
            intro w1 hG
            intro v4 h4
            change _ = _ at h4
            subst h4
            intro v10 h10
            change _ = _ at h10
            subst h10
            refine turn_on (by rfl) ?_
            intro K hK
            simp only [gv2]
            refine wp_conv 198 rfl u8T s8 su _ rfl rfl (hBJ.keptD hG) ?_
            refine hK _ _ ⟨rfl, Kept.refl _, ?_⟩
            show _ = _
            simp only [gv1]
            rfl
          case r2o12 =>
            intro w1 hG
            intro v4 h4
            change _ = _ at h4
            subst h4
            intro v9 h9
            change _ = _ at h9
            subst h9
            intro v11 h11
            change _ = _ at h11
            subst h11
            refine turn_on (by rfl) ?_
            intro K hK
            simp only [gv2]
            go_simp
            refine hK _ _ ⟨rfl, Kept.refl _, ?_⟩
            show _ = _
            simp only [gv1]
            rfl
          case r2o13 =>
            intro w1 hG
            intro v4 h4
            change _ = _ at h4
            subst h4
            intro v12 h12
            change _ = _ at h12
            subst h12
            refine turn_on (by rfl) ?_
            intro K hK
            simp only [gv2]
            go_simp
            refine hK _ _ ⟨rfl, Kept.refl _, ?_⟩
            show _ = _
            simp only [gv1]
            rfl
        intro w1 hG
        intro v0 h0
        change _ = _ at h0
        subst h0
        intro v1 h1
        change _ = _ at h1
        subst h1
        intro v2 h2
        change _ = _ at h2
        subst h2
        intro v3 h3
        change _ = _ at h3
        subst h3
        intro v4 h4
        change _ = _ at h4
        subst h4
        intro v5 h5
        change _ = _ at h5
        subst h5
        intro v6 h6
        change _ = _ at h6
        subst h6
        intro v7 h7
        change _ = _ at h7
        subst h7
        intro v8 h8
        change _ = _ at h8
        subst h8
        intro v9 h9
        change _ = _ at h9
        subst h9
        intro v10 h10
        change _ = _ at h10
        subst h10
        intro v11 h11
        change _ = _ at h11
        subst h11
        intro v12 h12
        change _ = _ at h12
        subst h12
        intro v13 h13
        change _ = _ at h13
        subst h13
        simp only [Given, gv2]
        have hne : ((strOfNums B).toList != (strOfNums B).toList) = false := by simp
        have EOK := Lib.hid (EOJ.out.more (kept_undrew hG))
        clear hG
        have HF1 := Lib.hid EOK.out.first
        have HF2 := Lib.hid (EOK.out.next hm2l)
        rw [show (1 : Int) + (m2 : Int) = (m2 : Int) + 1 by omega] at HF2
        have BZ := Lib.hid EOK.out.below
        have em : IntKind.u64.wrap ((m2 : Int) + 1) = (m2 : Int) + 1 := by rw [IntKind.wrap_u64]; omega
        have dd2 : (((m2 : Int) + 1) == (m2 : Int) + 1) = true := beq_self_eq_true _
        go_wp2_with (first | (go_at_call 20; refine HF1.out.mono ?_; rintro e w12 ⟨rfl, rfl⟩) | (go_at_call 21; refine HF2.out.mono ?_; rintro e w12 ⟨rfl, rfl⟩))
        go_ret
        exact ⟨rfl, BZ.out⟩
    · skip
      go_wp2_with fail
      refine HAP.out.mono ?_
      rintro e w7 ⟨_, hh⟩
      obtain ⟨rfl, Z7, st7, hed7, hof7⟩ := hh hw
      clear hh hw HAP HE6
      have HOF := Lib.hid (off_any Z7 d st7 w7 hed7.di)
      rw [hof7] at HOF
      have HCT := Lib.hid (hed7.cut x5 nk c5 kl (HKL.out.keep hed7.below) (fun y hy h0 => ⟨(HKL.out.keep hed7.below).lt y hy h0, fun hz => by have h1 := HKL.out.lt y hy h0; have h2 := hed7.base _ hz; omega⟩))
      clear hed7
      go_wp2_with (first | (go_at_call 16; refine HOF.out.mono ?_; rintro e w8 ⟨rfl, rfl⟩))
      refine HCT.out.mono ?_
      rintro e w8 ⟨rfl, hed8⟩
      have HON := Lib.hid hed8.on
      clear hed8 HCT HOF
      go_wp2_with fail
      refine HON.out.mono ?_
      rintro e w9 ⟨rfl, hed9⟩
      have HAR := Lib.hid (hed9.arm 1099511627776 none 0 0 [] ⟨rfl, Nat.le_refl _, by unfold maxLen; omega, fun i hi => by omega, fun _ => rfl⟩ (by omega) (by omega) (by omega))
      clear hed9 HON
      go_wp2_with fail
      refine HAR.out.mono ?_
      rintro e w10 ⟨rfl, Z10, hed10⟩
      have HOP := Lib.hid (hed10.opn h4 h60 h64 rfl)
      clear hed10 HAR
      go_wp2_with fail
      refine HOP.out.mono ?_
      rintro e w11 ⟨r2, a2, m2, cc2, rfl, heo⟩
      have EO := Lib.hid heo
      have hm2 : m2 = k := by rw [← heo.rows.len]; exact hLK
      have hm2l : (l.take k).length = m2 := heo.rows.len
      clear heo HOP
      have dk1 : decide ((m2 : Int) < k) = false := decide_eq_false (by omega)
      have dk2 : decide ((k : Int) + 1 < m2) = false := decide_eq_false (by omega)
      have dk4 : decide ((k : Int) < m2) = false := decide_eq_false (by omega)
      have hA : k ≤ m2 := by omega
      have hA2 : ¬ m2 < k := by omega
      have hB2 : m2 ≤ k + 1 := by omega
      have hB3 : ¬ k + 1 < m2 := by omega
      have hC : ¬ k < m2 := by omega
      have HM2 := Lib.hid hm2
      clear hm2
      go_upto_region 31 with fail
      go_wp2_with fail
      go_loopw [26] (fun ix wr => ∃ j : Nat, j ≤ k ∧ ix = .int .i64 j ∧ Hid (EaO w0 wr r2 a2 m2 cc2 (l.take k))) (fun ix _ => k - (intOf ix).toNat)
      case atStart => exact ⟨0, Nat.zero_le _, rfl, EO⟩
      case round =>
        obtain ⟨j, hj, rfl, EOJ⟩ := hrel
        by_cases hjk : j < k
        · have d8 : decide ((j : Int) < k) = true := decide_eq_true (by omega)
          obtain ⟨b, o, ai, ni, ci, rfl, hcl, hrd⟩ := (HL.out.below EOJ.out.below).cell j (by omega)
          have hx : (l.take k)[j]? = some (l.getD j []) := by
            have h1 : j < (l.take k).length := by rw [hLK]; exact hjk
            rw [List.getElem?_take_of_lt hjk, List.getElem?_eq_getElem (by rw [HLN.out]; omega)]
            simp [List.getD, HLN.out, show j < na by omega]
          obtain ⟨y, hy⟩ : ∃ y, l.getD j [] = y := ⟨_, rfl⟩
          rw [hy] at hx hrd
          obtain ⟨b2, o2, aj, nj, cj, e2, hc2, hr2, _⟩ := EOJ.out.rows.each j y hx
          subst e2
          have hjm : j < m2 := by omega
          have hjn : j < na := by omega
          clear hx hy
          go_wp2_with fail
          refine' reg_free (G := Kept) (pickF [eqV _, eqV _, eqV _, eqV _, eqV _, eqV _, eqV _, eqV _, eqV _, eqV _, eqV _]) [176, 177, 178, 179, 180, 181, 182, 183, 184, 185, 186] [[], [], [0, 1], [2], [3], [], [], [5, 6], [7], [8], [4, 9]] [0, 1, 2, 3, 4, 5, 6, 7, 8, 9, 10] (by kernel_rfl) Kept.refl Kept.trans (pick_stays ⟨eqV_stays _, eqV_stays _, eqV_stays _, eqV_stays _, eqV_stays _, eqV_stays _, eqV_stays _, eqV_stays _, eqV_stays _, eqV_stays _, eqV_stays _, trivial⟩) 213 rfl (by kernel_rfl) (by kernel_rfl) rfl rfl ?r3obl ?r3fin
          case r3obl =>
            refine And.intro ?r3o0 (And.intro ?r3o1 (And.intro ?r3o2 (And.intro ?r3o3 (And.intro ?r3o4 (And.intro ?r3o5 (And.intro ?r3o6 (And.intro ?r3o7 (And.intro ?r3o8 (And.intro ?r3o9 (And.intro ?r3o10 (True.intro)))))))))))
            case r3o0 =>
              intro w1 hG
              refine turn_on (by rfl) ?_
              intro K hK
              go_simp
              refine hK _ _ ⟨rfl, Kept.refl _, ?_⟩
              show _ = _
              simp only [gv1]
              rfl
            case r3o1 =>
              intro w1 hG
              refine turn_on (by rfl) ?_
              intro K hK
              go_simp
              refine hK _ _ ⟨rfl, Kept.refl _, ?_⟩
              show _ = _
              simp only [gv1]
              rfl
            case r3o2 =>
              intro w1 hG
              intro v0 h0
              change _ = _ at h0
              subst h0
              intro v1 h1
              change _ = _ at h1
              subst h1
              refine turn_on (by rfl) ?_
              intro K hK
              simp only [gv2]
              go_simp
              refine hK _ _ ⟨rfl, Kept.refl _, ?_⟩
              show _ = _
              simp only [gv1]
              rfl
            case r3o3 =>
              intro w1 hG
              intro v2 h2
              change _ = _ at h2
              subst h2
              refine turn_on (by rfl) ?_
              intro K hK
              simp only [gv2]
              have hc := (Below.cell hG (block_lt_of_cell hc2)).trans hc2
              go_simp
              refine hK _ _ ⟨rfl, Kept.refl _, ?_⟩
              show _ = _
              simp only [gv1]
              rfl
            case r3o4 =>
              intro w1 hG
              intro v3 h3
              change _ = _ at h3
              subst h3
              refine turn_on (by rfl) ?_
              intro K hK
              simp only [gv2]
              refine wp_conv 180 rfl u8T s8 su _ rfl rfl (hr2.keptD hG) ?_
              refine hK _ _ ⟨rfl, Kept.refl _, ?_⟩
              show _ = _
              simp only [gv1]
              rfl
            case r3o5 =>
              intro w1 hG
              refine turn_on (by rfl) ?_
              intro K hK
              go_simp
              refine hK _ _ ⟨rfl, Kept.refl _, ?_⟩
              show _ = _
              simp only [gv1]
              rfl
            case r3o6 =>
              intro w1 hG
              refine turn_on (by rfl) ?_
              intro K hK
              go_simp
              refine hK _ _ ⟨rfl, Kept.refl _, ?_⟩
              show _ = _
              simp only [gv1]
              rfl
            case r3o7 =>
              intro w1 hG
              intro v5 h5
              change _ = _ at h5
              subst h5
              intro v6 h6
              change _ = _ at h6
              subst h6
              refine turn_on (by rfl) ?_
              intro K hK
              simp only [gv2]
              go_simp
              refine hK _ _ ⟨rfl, Kept.refl _, ?_⟩
              show _ = _
              simp only [gv1]
              rfl
            case r3o8 =>
              intro w1 hG
              intro v7 h7
              change _ = _ at h7
              subst h7
              refine turn_on (by rfl) ?_
              intro K hK
              simp only [gv2]
              have hc := (Below.cell hG (block_lt_of_cell hcl)).trans hcl
              go_simp
              refine hK _ _ ⟨rfl, Kept.refl _, ?_⟩
              show _ = _
              simp only [gv1]
              rfl
            case r3o9 =>
              intro w1 hG
              intro v8 h8
              change _ = _ at h8
              subst h8
              refine turn_on (by rfl) ?_
              intro K hK
              simp only [gv2]
              refine wp_conv 185 rfl u8T s8 su _ rfl rfl (hrd.keptD hG) ?_
              refine hK _ _ ⟨rfl, Kept.refl _, ?_⟩
              show _ = _
              simp only [gv1]
              rfl
            case r3o10 =>
              intro w1 hG
              intro v4 h4
              change _ = _ at h4
              subst h4
              intro v9 h9
              change _ = _ at h9
              subst h9
              refine turn_on (by rfl) ?_
              intro K hK
              simp only [gv2]
              go_simp
              refine hK _ _ ⟨rfl, Kept.refl _, ?_⟩
              show _ = _
              simp only [gv1]
              rfl
          intro w1 hG
          intro v0 h0
          change _ = _ at h0
          subst h0
          intro v1 h1
          change _ = _ at h1
          subst h1
          intro v2 h2
          change _ = _ at h2
          subst h2
          intro v3 h3
          change _ = _ at h3
          subst h3
          intro v4 h4
          change _ = _ at h4
          subst h4
          intro v5 h5
          change _ = _ at h5
          subst h5
          intro v6 h6
          change _ = _ at h6
          subst h6
          intro v7 h7
          change _ = _ at h7
          subst h7
          intro v8 h8
          change _ = _ at h8
          subst h8
          intro v9 h9
          change _ = _ at h9
          subst h9
          intro v10 h10
          change _ = _ at h10
          subst h10
          simp only [Given, gv2]
          have hne : ((strOfNums y).toList != (strOfNums y).toList) = false := by simp
          have EOK := Lib.hid (EOJ.out.more (kept_undrew hG))
          clear hG
          go_wp2_with fail
          go_roundw
          case rel => exact ⟨j + 1, by omega, by go_num, EOK⟩
          case measure => simp [intOf] <;> omega
        have d8 : decide ((j : Int) < k) = false := decide_eq_false (by omega)
        go_wp2_with fail
        refine' reg_free (G := Kept) (pickF [eqV _, eqV _, eqV _, eqV _, eqV _, eqV _, eqV _, eqV _, eqV _, eqV _, eqV _, eqV _, eqV _, eqV _]) [187, 188, 189, 190, 191, 192, 193, 194, 195, 196, 197, 198, 199, 200] [[], [0], [], [1, 2], [3], [4], [4], [4, 5, 6], [4, 7], [4, 8], [4], [4, 10], [4, 9, 11], [4, 12]] [0, 1, 2, 3, 4, 5, 6, 7, 8, 9, 10, 11, 12, 13] (by kernel_rfl) Kept.refl Kept.trans (pick_stays ⟨eqV_stays _, eqV_stays _, eqV_stays _, eqV_stays _, eqV_stays _, eqV_stays _, eqV_stays _, eqV_stays _, eqV_stays _, eqV_stays _, eqV_stays _, eqV_stays _, eqV_stays _, eqV_stays _, trivial⟩) 213 rfl (by kernel_rfl) (by kernel_rfl) rfl rfl ?r4obl ?r4fin
        case r4obl =>
          refine And.intro ?r4o0 (And.intro ?r4o1 (And.intro ?r4o2 (And.intro ?r4o3 (And.intro ?r4o4 (And.intro ?r4o5 (And.intro ?r4o6 (And.intro ?r4o7 (And.intro ?r4o8 (And.intro ?r4o9 (And.intro ?r4o10 (And.intro ?r4o11 (And.intro ?r4o12 (And.intro ?r4o13 (True.intro))))))))))))))
          case r4o0 =>
            intro w1 hG
            refine turn_on (by rfl) ?_
            intro K hK
            go_simp
            refine hK _ _ ⟨rfl, Kept.refl _, ?_⟩
            show _ = _
            simp only [gv1]
            rfl
          case r4o1 =>
            intro w1 hG
            intro v0 h0
            change _ = _ at h0
            subst h0
            refine turn_on (by rfl) ?_
            intro K hK
            simp only [gv2]
            go_simp
            refine hK _ _ ⟨rfl, Kept.refl _, ?_⟩
            show _ = _
            simp only [gv1]
            rfl
          case r4o2 =>
            intro w1 hG
            refine turn_on (by rfl) ?_
            intro K hK
            go_simp
            refine hK _ _ ⟨rfl, Kept.refl _, ?_⟩
            show _ = _
            simp only [gv1]
            rfl
          case r4o3 =>
            intro w1 hG
            intro v1 h1
            change _ = _ at h1
            subst h1
            intro v2 h2
            change _ = _ at h2
            subst h2
            refine turn_on (by rfl) ?_
            intro K hK
            simp only [gv2]
            go_simp
            refine hK _ _ ⟨rfl, Kept.refl _, ?_⟩
            show _ = _
            simp only [gv1]
            rfl
          case r4o4 =>
            intro w1 hG
            intro v3 h3
            change _ = _ at h3
            subst h3
            refine turn_on (by rfl) ?_
            intro K hK
            simp only [gv2]
            go_simp
            refine hK _ _ ⟨rfl, Kept.refl _, ?_⟩
            show _ = _
            simp only [gv1]
            rfl
          case r4o5 =>
            intro w1 hG
            intro v4 h4
            change _ = _ at h4
            subst h4
            refine turn_off (by rfl) ?_
            show _ = _
            rfl
          case r4o6 =>
            intro w1 hG
            intro v4 h4
            change _ = _ at h4
            subst h4
            refine turn_off (by rfl) ?_
            show _ = _
            rfl
          case r4o7 =>
            intro w1 hG
            intro v4 h4
            change _ = _ at h4
            subst h4
            intro v5 h5
            change _ = _ at h5
            subst h5
            intro v6 h6
            change _ = _ at h6
            subst h6
            refine turn_off (by rfl) ?_
            show _ = _
            rfl
          case r4o8 =>
            intro w1 hG
            intro v4 h4
            change _ = _ at h4
            subst h4
            intro v7 h7
            change _ = _ at h7
            subst h7
            refine turn_off (by rfl) ?_
            show _ = _
            rfl
          case r4o9 =>
            intro w1 hG
            intro v4 h4
            change _ = _ at h4
            subst h4
            intro v8 h8
            change _ = _ at h8
            subst h8
            refine turn_off (by rfl) ?_
            show _ = _
            rfl
          case r4o10 =>
            intro w1 hG
            intro v4 h4
            change _ = _ at h4
            subst h4
            refine turn_off (by rfl) ?_
            show _ = _
            rfl
          case r4o11 =>
            intro w1 hG
            intro v4 h4
            change _ = _ at h4
            subst h4
            intro v10 h10
            change _ = _ at h10
            subst h10
            refine turn_off (by rfl) ?_
            show _ = _
            rfl
          case r4o12 =>
            intro w1 hG
            intro v4 h4
            change _ = _ at h4
            subst h4
            intro v9 h9
            change _ = _ at h9
            subst h9
            intro v11 h11
            change _ = _ at h11
            subst h11
            refine turn_off (by rfl) ?_
            show _ = _
            rfl
          case r4o13 =>
            intro w1 hG
            intro v4 h4
            change _ = _ at h4
            subst h4
            intro v12 h12
            change _ = _ at h12
            subst h12
            refine turn_on (by rfl) ?_
            intro K hK
            simp only [gv2]
            go_simp
            refine hK _ _ ⟨rfl, Kept.refl _, ?_⟩
            show _ = _
            simp only [gv1]
            rfl
        intro w1 hG
        intro v0 h0
        change _ = _ at h0
        subst h0
        intro v1 h1
        change _ = _ at h1
        subst h1
        intro v2 h2
        change _ = _ at h2
        subst h2
        intro v3 h3
        change _ = _ at h3
        subst h3
        intro v4 h4
        change _ = _ at h4
        subst h4
        intro v5 h5
        change _ = _ at h5
        subst h5
        intro v6 h6
        change _ = _ at h6
        subst h6
        intro v7 h7
        change _ = _ at h7
        subst h7
        intro v8 h8
        change _ = _ at h8
        subst h8
        intro v9 h9
        change _ = _ at h9
        subst h9
        intro v10 h10
        change _ = _ at h10
        subst h10
        intro v11 h11
        change _ = _ at h11
        subst h11
        intro v12 h12
        change _ = _ at h12
        subst h12
        intro v13 h13
        change _ = _ at h13
        subst h13
        simp only [Given, gv2]
        have EOK := Lib.hid (EOJ.out.more (kept_undrew hG))
        clear hG
        have HF1 := Lib.hid EOK.out.first
        have HF2 := Lib.hid (EOK.out.next hm2l)
        rw [show (1 : Int) + (m2 : Int) = (m2 : Int) + 1 by omega] at HF2
        have BZ := Lib.hid EOK.out.below
        have em : IntKind.u64.wrap ((m2 : Int) + 1) = (m2 : Int) + 1 := by rw [IntKind.wrap_u64]; omega
        have dd2 : (((m2 : Int) + 1) == (m2 : Int) + 1) = true := beq_self_eq_true _
        go_wp2_with (first | (go_at_call 20; refine HF1.out.mono ?_; rintro e w12 ⟨rfl, rfl⟩) | (go_at_call 21; refine HF2.out.mono ?_; rintro e w12 ⟨rfl, rfl⟩))
        go_ret
        exact ⟨rfl, BZ.out⟩
end Go.Proofs.Ytlhpdkapddnbcaa

namespace Go.Proofs.Ytlhpdkapddnbcaa.ringEach
open Go.ChangeShapes Go.WideShapes Go.ChangeAt Go.RowKit
set_option linter.unusedVariables false

set_option maxRecDepth 100000 in
theorem own : ownKnob Try.prog.godebug = none := by kernel_rfl
set_option maxRecDepth 100000 in
theorem laidOut : laidOutB Try.prog = true := by kernel_rfl

set_option maxRecDepth 100000 in
theorem lifted (os : Os) (started : os.Started) (H : Type) (enc : TypeId × Value → H) :
    ReturnsInHanded {} Try.checked os 4 .any (Rows.ringEachSpec.pre6 enc Try.prog Try.f4 Rows.ringEachRow.domain false) (Rows.ringEachSpec.post enc Try.prog Try.f4 false true false false) := by
  refine returnsInHanded_of_change (C := Try.checked) own started (by kernel_rfl) Try.func4
    (ChangeSpec.witness6 (enc := enc) (C := Try.checked) false ⟨#[], #[.int .i64 0, .int .i64 0, .slice none 0 0, .slice none 0 0, .int .i64 0, .slice none 0 0], []⟩ 8 (by kernel_rfl) (by kernel_rfl) (by kernel_rfl) (by kernel_rfl)) ?_
  intro W base args ds gs before hval0 hW hcnd _
  have hval : ∀ (j : Nat) t v, Try.f4.params[j]? = some t → args[j]? = some v → Value.okWide Try.prog W .any base t v := hval0
  have hW' := hW
  obtain ⟨p, q, hA0, hV, rfl, hfz, hnd⟩ := hW
  have hA : DataW.TrodAll enc Try.prog W 0 (fun _ => true) true Try.f4.params.toList args.toList ds p := hA0
  rw [Try.params4] at hA hval
  obtain ⟨v0, vs0, d0, ds0, p0, q0, hargs, rfl, rfl, h0, r0⟩ := trodAll_cons hA
  obtain ⟨v1, vs1, d1, ds1, p1, q1, rfl, rfl, rfl, h1, r1⟩ := trodAll_cons r0
  obtain ⟨v2, vs2, d2, ds2, p2, q2, rfl, rfl, rfl, h2, r2⟩ := trodAll_cons r1
  obtain ⟨v3, vs3, d3, ds3, p3, q3, rfl, rfl, rfl, h3, r3⟩ := trodAll_cons r2
  obtain ⟨v4, vs4, d4, ds4, p4, q4, rfl, rfl, rfl, h4, r4⟩ := trodAll_cons r3
  obtain ⟨v5, vs5, d5, ds5, p5, q5, rfl, rfl, rfl, h5, r5⟩ := trodAll_cons r4
  obtain ⟨rfl, rfl, rfl⟩ := trodAll_nil r5
  obtain rfl : args = #[v0, v1, v2, v3, v4, v5] := by cases args; simp_all
  obtain ⟨rfl, rfl⟩ := trodVars_none hV
  obtain ⟨a0, rfl, rfl, rfl, w0⟩ := open_int Try.underlying3 (hval 0 3 v0 rfl rfl) h0
  obtain ⟨a1, rfl, rfl, rfl, w1⟩ := open_int Try.underlying3 (hval 1 3 v1 rfl rfl) h1
  obtain ⟨a2, len2, cap2, rfl⟩ := okWide_slice Try.underlying28 (hval 2 28 v2 rfl rfl)
  have k2 := h2
  have lt2 : ∀ x ∈ p2, x.block < W.heap.size := by obtain ⟨m, hm⟩ := k2; exact DataW.trod_lt m _ _ _ hm
  obtain ⟨z2, w2, y2⟩ := parts_open Try.underlying28 Try.underlying36 Try.underlying5 (by kernel_rfl) (by kernel_rfl) h2
  obtain ⟨a3, len3, cap3, rfl⟩ := okWide_slice Try.underlying36 (hval 3 36 v3 rfl rfl)
  have k3 := h3
  have lt3 : ∀ x ∈ p3, x.block < W.heap.size := by obtain ⟨m, hm⟩ := k3; exact DataW.trod_lt m _ _ _ hm
  obtain ⟨z3, w3⟩ : ∃ zs, RdAt .u8 W a3 len3 cap3 zs := by
    obtain ⟨fuel, hf⟩ := h3
    rcases open_ints Try.underlying36 Try.underlying5 (by kernel_rfl) hf with ⟨hcs, _⟩ | ⟨x, l, c, zs, hcs, _, hl, hm, hz, _, hcell, hwz⟩
    · simp [Value.cells] at hcs
      obtain ⟨rfl, rfl, rfl⟩ := hcs
      exact ⟨[], RdAt.nil _ _⟩
    · simp [Value.cells] at hcs
      obtain ⟨rfl, rfl, rfl⟩ := hcs
      exact ⟨_, RdAt.of_row hl hm (by simpa using hz) hcell hwz⟩
  obtain ⟨a4, rfl, rfl, rfl, w4⟩ := open_int Try.underlying3 (hval 4 3 v4 rfl rfl) h4
  obtain ⟨a5, len5, cap5, rfl⟩ := okWide_slice Try.underlying38 (hval 5 38 v5 rfl rfl)
  have k5 := h5
  have lt5 : ∀ x ∈ p5, x.block < W.heap.size := by obtain ⟨m, hm⟩ := k5; exact DataW.trod_lt m _ _ _ hm
  obtain ⟨z5, w5⟩ := bools_open Try.underlying38 Try.underlying4 (by kernel_rfl) h5
  clear hA0 hval0
  refine (ringEach_walk a0 a1 a2 len2 cap2 z2 a3 len3 cap3 z3 a4 a5 len5 cap5 z5 W w0 w1 w2 w3 w4 w5).mono fun e W' ⟨he, bel⟩ => ?_
  subst he
  exact ⟨_, rfl, _, _, _, [], _, [], hW', trodAll_mk1 (shut_bool Try.underlying4 _), (trodAll_cons_mk (shut_int Try.underlying3 w0) (trodAll_cons_mk (shut_int Try.underlying3 w1) (trodAll_cons_mk (Below.trod laidOut (by kernel_rfl) (of_decide_eq_true (by kernel_rfl)) k2 bel lt2) (trodAll_cons_mk (Below.trod laidOut (by kernel_rfl) (of_decide_eq_true (by kernel_rfl)) k3 bel lt3) (trodAll_cons_mk (shut_int Try.underlying3 w4) (trodAll_cons_mk (Below.trod laidOut (by kernel_rfl) (of_decide_eq_true (by kernel_rfl)) k5 bel lt5) trodAll_mk0)))))), rfl, bel.frame _, fun h => by cases h⟩

set_option maxRecDepth 100000 in
theorem over : Rows.ringEachRow.holds Try.pinned (OpenSpec.ofChange Rows.ringEachSpec) :=
  OpenClaim.holds_of_wide 4 Try.f4 rfl rfl rfl rfl rfl rfl rfl ⟨rfl, rfl, rfl, rfl, rfl⟩ rfl rfl rfl rfl rfl (by kernel_rfl) Try.func4 (by kernel_rfl)
    (of_decide_eq_true (by kernel_rfl)) (by unfold Func.isWrapper; first | (rw [if_pos (by decide +kernel)]; kernel_rfl) | (rw [if_neg (by decide +kernel)]; exact ⟨rfl, rfl⟩))
    (fun os started H enc _ => lifted os started H enc)

/-- RingEach holds for every input. -/
theorem proved : Rows.RingEachSaid := over
end Go.Proofs.Ytlhpdkapddnbcaa.ringEach
