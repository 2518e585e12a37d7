/- ring: Append, whatever its number, its turn. -/
import Derived.Test.YtlhpdkapddnbcaaJn0
import Derived.Test.YtlhpdkapddnbcaaJn12
import Derived.Test.YtlhpdkapddnbcaaJz1
namespace Go.Proofs.Ytlhpdkapddnbcaa
open Go.RowKit
def Hd.nxW (h : Hd) : Hd := ⟨h.turn, h.first, (h.next + 1) % 18446744073709551616, h.start⟩
/-- What Append makes of a disk, a journal. -/
def apSW (st : Dk) (J : Jr) (l : List Int) : Ap :=
  if roomN J < l.length then ⟨st, J, 10⟩
  else
    let s := apGo J l (ndN J.size l.length) 0 st
    if s.off = true then ⟨s, J, 8⟩
    else if s.armed = 1 then ⟨tuSW (flushS s) J J.h.nxW, J, 8⟩
    else ⟨tuSW (flushS s) J J.h.nxW, { tuJW (flushS s) J J.h.nxW with ks := J.ks ++ [ndN J.size l.length] }, 0⟩
set_option linter.unusedSimpArgs false in
set_option linter.unusedVariables false in
set_option maxRecDepth 100000 in
set_option maxHeartbeats 8000000 in
theorem append_wr (Q : Nat → Prop) (r d : Nat) (st : Dk) (J : Jr) (a : Option Addr) (n c : Nat) (l : List Int) (w0 : World) (hR : RiIn w0 Q r d st J) (hl : RdAt .u8 w0 a n c l) (hnq : ∀ x, a = some x → 0 < n → ¬ Q x.block) (hf : ¬ roomN J < n) (hoff : st.off = false) (hpend : st.pend = []) (hwr : st.writes + 70000 ≤ 4611686018427387904) :
    Calls Try.prog 12 #[.pointer (some ⟨r, 0, none⟩), .slice a n c] w0 fun e w' => e = ApE J.h.next (apSW st J l) ∧ ∃ Q', RiIn w' Q' r d (apSW st J l).st (apSW st J l).J ∧ Tnd Q Q' w0 w' := by
  obtain ⟨hsum, hn2⟩ := nd_room hR.ok hf
  obtain ⟨⟨Z, sv, hd, hr, ho, hz, hq, hn, hg⟩, ok, dok, lt⟩ := id hR
  have OK := Lib.hid ok
  have hsz0 := ok.s0
  have hsz1 := ok.s1
  have hn4 := ok.n4
  have hnn1 := ok.n1
  have hlo := ok.lo
  have hwf := ok.h
  have hstart := ok.st
  have HRM := Lib.hid (rroom_any r d sv J w0 hr ok ho)
  obtain ⟨M, hM⟩ : ∃ M, roomN J = M := ⟨_, rfl⟩
  rw [hM] at HRM
  have hfM : ¬ M < (n : Int) := by rw [← hM]; exact hf
  have d1 : decide (M < (n : Int)) = false := decide_eq_false hfM
  have HA0 : Hid (apSW st J l = (let s := apGo J l (ndN J.size n) 0 st; if s.off = true then ⟨s, J, 8⟩ else if s.armed = 1 then ⟨tuSW (flushS s) J J.h.nxW, J, 8⟩ else ⟨tuSW (flushS s) J J.h.nxW, { tuJW (flushS s) J J.h.nxW with ks := J.ks ++ [ndN J.size n] }, 0⟩)) := by
    show _ = _
    unfold apSW
    rw [hl.len, if_neg hf]
  obtain ⟨AP, hAP⟩ : ∃ AP, apSW st J l = AP := ⟨_, rfl⟩
  rw [hAP] at HA0 ⊢
  obtain ⟨N, hN⟩ : ∃ N, ndN J.size n = N := ⟨_, rfl⟩
  have HN := Lib.hid hN
  rw [hN] at HA0 hsum
  have ROW := Lib.hid hr
  have OSV := Lib.hid ho
  have hn1 : n ≤ 1000000000 := by omega
  have RI := Lib.hid hR
  have HLD := Lib.hid hl
  have HNQ := Lib.hid hnq
  have HOFF := Lib.hid hoff
  have HPEND := Lib.hid hpend
  have HWF := Lib.hid hwf
  have HST := Lib.hid hstart
  obtain ⟨sn, hsn⟩ : ∃ sn : Nat, J.h.start = sn := Int.eq_ofNat_of_zero_le hwf.s0
  have hsn1 : sn < J.n - 2 := by omega
  obtain ⟨U, hU⟩ : ∃ U, sumN J.ks = U := ⟨_, rfl⟩
  rw [hU] at hsum
  have HU := Lib.hid hU
  have HSN := Lib.hid hsn
  clear hd ho hz hq hn hg ok dok hf hfM hr hAP hR hl hnq hoff hpend hwf hstart hM hU
  go_enter Try.func12, Try.ntmps12
  go_wp2_with fail
  refine HRM.out.mono ?_
  rintro e w1 ⟨rfl, rfl⟩
  go_wp2_with fail
  refine' reg_free (G := Kept) (pickF [eqV _, eqV _, eqV _, eqV _, eqV _, eqV _, eqV _, eqV _, eqV _, eqV _, eqV _, eqV _, eqV _, eqV _]) [19, 20, 21, 22, 23, 24, 25, 26, 27, 28, 29, 30, 6, 7] [[], [0], [1], [2], [3], [], [5], [4, 6], [], [], [9], [8, 10], [7], [11]] [0, 1, 2, 3, 4, 5, 6, 7, 8, 9, 10, 11, 12, 13] (by kernel_rfl) Kept.refl Kept.trans (pick_stays ⟨eqV_stays _, eqV_stays _, eqV_stays _, eqV_stays _, eqV_stays _, eqV_stays _, eqV_stays _, eqV_stays _, eqV_stays _, eqV_stays _, eqV_stays _, eqV_stays _, eqV_stays _, eqV_stays _, trivial⟩) 128 rfl (by kernel_rfl) (by kernel_rfl) rfl rfl ?r1obl ?r1fin
  case r1obl =>
    refine And.intro ?r1o0 (And.intro ?r1o1 (And.intro ?r1o2 (And.intro ?r1o3 (And.intro ?r1o4 (And.intro ?r1o5 (And.intro ?r1o6 (And.intro ?r1o7 (And.intro ?r1o8 (And.intro ?r1o9 (And.intro ?r1o10 (And.intro ?r1o11 (And.intro ?r1o12 (And.intro ?r1o13 (True.intro))))))))))))))
    case r1o0 =>
      intro w1 hG
      refine turn_on (by rfl) ?_
      intro K hK
      go_simp
      refine hK _ _ ⟨rfl, Kept.refl _, ?_⟩
      show _ = _
      simp only [gv1]
      rfl
    case r1o1 =>
      intro w1 hG
      intro v0 h0
      change _ = _ at h0
      subst h0
      refine turn_on (by rfl) ?_
      intro K hK
      simp only [gv2]
      go_simp
      refine hK _ _ ⟨rfl, Kept.refl _, ?_⟩
      show _ = _
      simp only [gv1]
      rfl
    case r1o2 =>
      intro w1 hG
      intro v1 h1
      change _ = _ at h1
      subst h1
      refine turn_on (by rfl) ?_
      intro K hK
      simp only [gv2]
      go_simp
      refine hK _ _ ⟨rfl, Kept.refl _, ?_⟩
      show _ = _
      simp only [gv1]
      rfl
    case r1o3 =>
      intro w1 hG
      intro v2 h2
      change _ = _ at h2
      subst h2
      refine turn_on (by rfl) ?_
      intro K hK
      simp only [gv2]
      go_simp
      refine hK _ _ ⟨rfl, Kept.refl _, ?_⟩
      show _ = _
      simp only [gv1]
      rfl
    case r1o4 =>
      intro w1 hG
      intro v3 h3
      change _ = _ at h3
      subst h3
      refine turn_on (by rfl) ?_
      intro K hK
      simp only [gv2]
      obtain ⟨y0, y1, y2, y3, y4, y5, y6, y7, y8, yf⟩ := cellsJ (row_keep (w := w0.drew) ROW.out hG)
      go_simp
      refine hK _ _ ⟨rfl, Kept.refl _, ?_⟩
      show _ = _
      simp only [gv1]
      rfl
    case r1o5 =>
      intro w1 hG
      refine turn_on (by rfl) ?_
      intro K hK
      go_simp
      refine hK _ _ ⟨rfl, Kept.refl _, ?_⟩
      show _ = _
      simp only [gv1]
      rfl
    case r1o6 =>
      intro w1 hG
      intro v5 h5
      change _ = _ at h5
      subst h5
      refine turn_on (by rfl) ?_
      intro K hK
      simp only [gv2]
      go_simp
      refine Calls.mono (used_any r d sv J w1 (row_keep (w := w0.drew) ROW.out hG) OK.out (OSV.out.drew.below hG)) ?_
      rintro e w2 ⟨rfl, rfl⟩
      refine hK _ _ ⟨rfl, Kept.refl _, ?_⟩
      show _ = _
      simp only [gv1]
      rfl
    case r1o7 =>
      intro w1 hG
      intro v4 h4
      change _ = _ at h4
      subst h4
      intro v6 h6
      change _ = _ at h6
      subst h6
      refine turn_on (by rfl) ?_
      intro K hK
      simp only [gv2]
      go_simp
      refine hK _ _ ⟨rfl, Kept.refl _, ?_⟩
      show _ = _
      simp only [gv1]
      rfl
    case r1o8 =>
      intro w1 hG
      refine turn_on (by rfl) ?_
      intro K hK
      go_simp
      refine hK _ _ ⟨rfl, Kept.refl _, ?_⟩
      show _ = _
      simp only [gv1]
      rfl
    case r1o9 =>
      intro w1 hG
      refine turn_on (by rfl) ?_
      intro K hK
      go_simp
      refine hK _ _ ⟨rfl, Kept.refl _, ?_⟩
      show _ = _
      simp only [gv1]
      rfl
    case r1o10 =>
      intro w1 hG
      intro v9 h9
      change _ = _ at h9
      subst h9
      refine turn_on (by rfl) ?_
      intro K hK
      simp only [gv2]
      go_simp
      refine hK _ _ ⟨rfl, Kept.refl _, ?_⟩
      show _ = _
      simp only [gv1]
      rfl
    case r1o11 =>
      intro w1 hG
      intro v8 h8
      change _ = _ at h8
      subst h8
      intro v10 h10
      change _ = _ at h10
      subst h10
      refine turn_on (by rfl) ?_
      intro K hK
      simp only [gv2]
      go_simp
      refine Calls.mono (needs_any r d sv J n w1 (row_keep (w := w0.drew) ROW.out hG) OK.out hn1) ?_
      rintro e w2 ⟨rfl, rfl⟩
      refine hK _ _ ⟨rfl, Kept.refl _, ?_⟩
      show _ = _
      simp only [gv1]
      rfl
    case r1o12 =>
      intro w1 hG
      intro v7 h7
      change _ = _ at h7
      subst h7
      refine turn_on (by rfl) ?_
      intro K hK
      simp only [gv2]
      go_simp
      refine hK _ _ ⟨rfl, Kept.refl _, ?_⟩
      show _ = _
      simp only [gv1]
      rfl
    case r1o13 =>
      intro w1 hG
      intro v11 h11
      change _ = _ at h11
      subst h11
      refine turn_on (by rfl) ?_
      intro K hK
      simp only [gv2]
      go_simp
      refine hK _ _ ⟨rfl, Kept.refl _, ?_⟩
      show _ = _
      simp only [gv1]
      rfl
  intro w1 hG
  intro v0 h0
  change _ = _ at h0
  subst h0
  intro v1 h1
  change _ = _ at h1
  subst h1
  intro v2 h2
  change _ = _ at h2
  subst h2
  intro v3 h3
  change _ = _ at h3
  subst h3
  intro v4 h4
  change _ = _ at h4
  subst h4
  intro v5 h5
  change _ = _ at h5
  subst h5
  intro v6 h6
  change _ = _ at h6
  subst h6
  intro v7 h7
  change _ = _ at h7
  subst h7
  intro v8 h8
  change _ = _ at h8
  subst h8
  intro v9 h9
  change _ = _ at h9
  subst h9
  intro v10 h10
  change _ = _ at h10
  subst h10
  intro v11 h11
  change _ = _ at h11
  subst h11
  intro v12 h12
  change _ = _ at h12
  subst h12
  intro v13 h13
  change _ = _ at h13
  subst h13
  simp only [Given, gv2]
  have e6 : IntKind.i64.wrap ((sn : Int) + (U : Int)) = (sn : Int) + (U : Int) := by rw [i64_small (by omega) (by omega)]
  rw [HU.out, HN.out, e6]
  have HB1 : Hid (Below w0.heap.size w0 w1) := by show Below _ _ _; exact ⟨hG.os, hG.tape, hG.output, hG.size, hG.block⟩
  clear hG e6
  go_wp2_with fail
  obtain ⟨RES, hRES⟩ : ∃ RES, apGo J l N 0 st = RES := ⟨_, rfl⟩
  have HA1 : Hid (AP = if RES.off = true then ⟨RES, J, 8⟩ else if RES.armed = 1 then ⟨tuSW (flushS RES) J J.h.nxW, J, 8⟩ else ⟨tuSW (flushS RES) J J.h.nxW, { tuJW (flushS RES) J J.h.nxW with ks := J.ks ++ [N] }, 0⟩) := by
    show _ = _
    rw [HA0.out, ← hRES]
  have HRES := Lib.hid hRES
  obtain ⟨R, hR⟩ : ∃ R, J.size - 18 = R := ⟨_, rfl⟩
  have hRi : (J.size : Int) - 18 = R := by omega
  have HR := Lib.hid hR
  have hR1 : 46 ≤ R ∧ R ≤ 4078 := by omega
  have HND : Hid (N = max ((n + R - 1) / R) 1) := by
    show _ = _
    rw [← HN.out]
    unfold ndN
    rw [hR]
  have hN1 : N ≤ 65536 := by omega
  obtain ⟨wr0, hwr0⟩ : ∃ x, st.writes = x := ⟨_, rfl⟩
  have HWR0 := Lib.hid hwr0
  rw [hwr0] at hwr
  clear hRES hR HA0 hwr0
  go_loopw [32] (fun i wr => ∃ (k : Nat) (Q1 : Nat → Prop) (s : Dk), k ≤ N ∧ i = .int .i64 k ∧ Hid (RiIn wr Q1 r d s J) ∧ Hid (Tnd Q Q1 w0 wr) ∧ Hid (s.off = false ∧ s.pend.length = k ∧ s.writes = wr0 + k) ∧ Hid (apGo J l (N - k) k s = RES)) (fun i _ => N - (intOf i).toNat)
  case atStart => exact ⟨0, Q, st, by omega, rfl, RI.out.below HB1.out, below_tnd HB1.out Q, ⟨HOFF.out, by rw [HPEND.out]; rfl, by rw [HWR0.out]; omega⟩, HRES.out⟩
  case round =>
    obtain ⟨k, Q1, s, hk, rfl, RK, TK, SK, GK⟩ := hrel
    by_cases hkN : k < N
    · have hHH := RK.out.lt
      obtain ⟨⟨Z1, sv1, _, hr1, _⟩, _⟩ := RK.out
      have ROW1 := Lib.hid hr1
      have hrl0 : r < wr.heap.size := (Array.getElem?_eq_some_iff.1 hr1).1
      clear hHH hr1
      have dk : decide ((k : Int) < (N : Int)) = true := decide_eq_true (by omega)
      obtain ⟨p, hp⟩ : ∃ p, k * R = p := ⟨_, rfl⟩
      have hp1 : p ≤ n ∧ (n ≠ 0 → p < n) := by
        have h1 := HND.out
        by_cases h0 : k = 0
        · rw [h0, Nat.zero_mul] at hp; omega
        · have h2 : k + 1 ≤ (n + R - 1) / R := by omega
          have h3 : (k + 1) * R ≤ n + R - 1 := (Nat.le_div_iff_mul_le (by omega)).1 h2
          rw [Nat.add_mul, hp] at h3
          omega
      have hp2 : (k : Int) * (R : Int) = (p : Int) := by rw [← hp, Int.natCast_mul]
      have hp3 : ((k : Int) + 1) * (R : Int) = ((p + R : Nat) : Int) := by rw [Int.add_mul, hp2]; omega
      have HP := Lib.hid hp
      clear hp
      have HROOM : Hid (∀ wx, wx = wr → Calls Try.prog 35 #[.pointer (some ⟨r, 0, none⟩)] wx fun e w' => e = .returned (.int .i64 (R : Int)) ∧ wx = w') := fun wx h => by
        subst h
        have := room_any r d sv1 J _ ROW1.out OK.out
        rw [hRi] at this
        exact this
      have HLW : Hid (RdAt .u8 wr a n c l) := rd_tndR HLD.out TK.out HNQ.out
      clear hRi
      have HB := Lib.hid (Below.refl wr.heap.size wr)
      have HPRf : Hid (ptP J.size l k = (l.drop (min p n)).take (min (p + R) n - min p n)) := by
        show _ = _
        unfold ptP
        rw [HR.out, HLW.out.len, HP.out, Nat.add_mul, HP.out, Nat.one_mul]
      obtain ⟨PL, hPL⟩ : ∃ PL, ptP J.size l k = PL := ⟨_, rfl⟩
      rw [hPL] at HPRf
      have hPLl : PL.length ≤ R := by rw [← hPL, ← HR.out]; exact ptP_len _ _ _
      obtain ⟨XL, hXL⟩ : ∃ XL, ptX J.h.next l k = XL := ⟨_, rfl⟩
      have HXL : Hid (XL.length = 14) := by show _ = _; rw [← hXL]; exact ptX_len _ _ _
      have HXX : Hid (putL J.h.next 8 ++ putL k 2 ++ putL n 4 = XL) := by show _ = _; rw [← hXL]; unfold ptX; rw [HLW.out.len]
      have HSZ : Hid ((XL ++ PL).length + 4 ≤ J.size) := by show _ ≤ _; rw [List.length_append, HXL.out]; have := HR.out; omega
      obtain ⟨SS, hSS⟩ : ∃ SS, ptS J.size J.h.next l k = SS := ⟨_, rfl⟩
      have HSS : Hid (secL J.size (XL ++ PL) = SS) := by show _ = _; rw [← hSS, ← hXL, ← hPL]; rfl
      have hSL : SS.length = J.size := by rw [← HSS.out]; exact secL_len HSZ.out
      obtain ⟨si, hsi⟩ : ∃ si, ptAt J k = si := ⟨_, rfl⟩
      have hsi1 : J.lo + 2 + (sn + U + k) % (J.n - 2) = si := by rw [← hsi]; unfold ptAt; rw [HSN.out, HU.out, Int.toNat_natCast]
      have hmd := Nat.mod_lt (sn + U + k) (show 0 < J.n - 2 by omega)
      have hsi2 : si < J.lo + J.n := by omega
      have HM : (((sn + U : Nat) : Int) + (k : Int)).tmod ((J.n : Int) - 2) = (((sn + U + k) % (J.n - 2) : Nat) : Int) := by
        rw [Int.tmod_eq_emod_of_nonneg (by omega), Int.natCast_emod, Int.natCast_add (sn + U) k, Int.natCast_sub (by omega)]
        rfl
      have HS1 : Hid (IntKind.i64.wrap (IntKind.i64.wrap ((J.lo : Int) + 2) + (IntKind.i64.wrap ((sn : Int) + (U : Int) + (k : Int))).tmod ((J.n : Int) - 2)) = ((si : Nat) : Int)) := by
        show _ = _
        rw [← Int.natCast_add sn U]
        rw [i64_small (x := ((sn + U : Nat) : Int) + (k : Int)) (by omega) (by omega), i64_small (x := (J.lo : Int) + 2) (by omega) (by omega), HM, i64_small (by omega) (by omega)]
        omega
      have HWR := Lib.hid (RK.out.wrAt si hsi2 SS hSL SK.out.1 (by rw [SK.out.2.1]; omega) (by rw [SK.out.2.2]; omega))
      obtain ⟨EE, hEE⟩ : ∃ EE, wr1E s = EE := ⟨_, rfl⟩
      obtain ⟨ST, hST⟩ : ∃ ST, wr1 s si SS = ST := ⟨_, rfl⟩
      rw [hEE, hST] at HWR
      obtain ⟨hB, hhB⟩ : ∃ hB, wr.heap.size = hB := ⟨_, rfl⟩
      rw [hhB] at HWR HB
      have hrl : r < hB := by omega
      obtain ⟨cc, hcc⟩ : ∃ cc, N - k = cc + 1 := ⟨N - k - 1, by omega⟩
      have hcc2 : N - (k + 1) = cc := by omega
      have GC : Hid (s.armed = 1 → RES = cutS s s.keep) := fun h => by rw [← GK.out, hcc, apGo_cut _ _ _ _ _ h]
      have GP : Hid (¬ s.armed = 1 → apGo J l (N - (k + 1)) (k + 1) (putS s si SS) = RES) := fun h => by rw [hcc2, ← GK.out, hcc, apGo_put _ _ _ _ _ h, hsi, hSS]
      have HEE := Lib.hid hEE
      have HSTT := Lib.hid hST
      have dn : (((J.n : Int) - 2) == 0) = false := by rw [beq_eq_false_iff_ne]; omega
      have dn2 : ((J.n : Int) - 2) ≠ 0 := by omega
      have dn3 : ((J.n : Int) - 2) ≠ -1 := by omega
      have hkw : IntKind.u64.wrap (k : Int) = k := by rw [IntKind.wrap_u64]; omega
      have hnw : IntKind.u64.wrap (n : Int) = n := by rw [IntKind.wrap_u64]; omega
      have hnx0 : 0 ≤ J.h.next ∧ J.h.next ≤ 18446744073709551615 := ⟨HWF.out.n0, HWF.out.n1⟩
      clear hPL hXL hSS hSL hsi hsi1 hmd hsi2 HM hEE hST hcc hcc2 GK
      obtain ⟨y0, y1, y2, y3, y4, y5, y6, y7, y8, yf⟩ := cellsJ ROW1.out
      by_cases hn0 : n = 0
      · have hp0 : p = 0 := by omega
        have HPL : Hid (PL = []) := by
          have h := hPLl
          show _ = _
          rw [HPRf.out, hp0, hn0]
          simp
        have hmn : (n : Int) < (p : Int) + (R : Int) := by omega
        have hcap := HLW.out.cap
        have hp5 := hp1.1
        have HN0 := Lib.hid hn0
        have HP0 := Lib.hid hp0
        have hcm := HLW.out.max
        have HR0 : Hid (∀ q : Addr, ∀ c', c' ≤ c → RdAt .u8 wr (some q) (n - p) c' PL) := fun q c' h => by
          rw [HPL.out, HN0.out, HP0.out]
          exact ⟨rfl, Nat.zero_le _, Nat.le_trans h hcm, fun i hi => by omega, by simp, fun e => by cases e⟩
        cases a with
        | none =>
          have HPR : Hid (RdAt .u8 wr none (n - p) (c - p) PL) := by
            have hc0 : c = 0 := HLW.out.void rfl
            show RdAt _ _ _ _ _ _
            rw [HPL.out, HN0.out, HP0.out, hc0]
            exact RdAt.nil _ _
          clear hcm hn0 hp0 hp1
          go_wp2_with (first | (go_at_call 35; refine (HROOM.out _ rfl).mono ?_; rintro e w2 ⟨rfl, rfl⟩))
          refine (put_any none 0 0 [] J.h.next 8 wr (RdAt.nil _ _) (by omega) hnx0.1 hnx0.2 (by omega) (by omega)).mono ?_
          rintro e w3 ⟨v3, rfl, ho3, hb3⟩
          rw [hhB] at hb3 ho3
          obtain ⟨a3, c3, rfl⟩ := ho3.shapeN 8 (by rw [List.length_append, putL_len]; rfl)
          have O3 := Lib.hid ho3
          have B3 := Lib.hid hb3
          have hl3 : hB ≤ w3.heap.size := by have := hb3.size; omega
          clear ho3 hb3
          go_wp2_with fail
          refine (put_any a3 8 c3 _ k 2 w3 O3.out.rd (by omega) (by omega) (by omega) (by omega) (by omega)).mono ?_
          rintro e w4 ⟨v4, rfl, ho4, hb4⟩
          obtain ⟨a4, c4, rfl⟩ := ho4.shapeN 10 (by rw [List.length_append, List.length_append, putL_len, putL_len]; rfl)
          have O4 := Lib.hid (ho4.mono hl3)
          have B4 := Lib.hid (B3.out.trans (hb4.mono hl3))
          have hl4 : hB ≤ w4.heap.size := Nat.le_trans hl3 hb4.size
          clear ho4 hb4
          go_wp2_with fail
          refine (put_any a4 10 c4 _ n 4 w4 O4.out.rd (by omega) (by omega) (by omega) (by omega) (by omega)).mono ?_
          rintro e w5 ⟨v5, rfl, ho5, hb5⟩
          obtain ⟨a10, c10, rfl⟩ := ho5.shapeN 14 (by rw [List.length_append, List.length_append, List.length_append, putL_len, putL_len, putL_len]; rfl)
          have OX : Hid (Owns .u8 5 w5 hB (.slice a10 14 c10) XL) := by
            show Owns _ _ _ _ _ _
            have h := ho5.mono hl4
            rw [List.nil_append, show putN 8 = 8 from rfl, show putN 2 = 2 from rfl, show putN 4 = 4 from rfl, HXX.out] at h
            exact h
          have B5 := Lib.hid (B4.out.trans (hb5.mono hl4))
          have hl5 : hB ≤ w5.heap.size := Nat.le_trans hl4 hb5.size
          have ROW5 := Lib.hid ((B5.out.block r hrl).trans ROW1.out)
          have HPR5 := Lib.hid (HPR.out.below (w' := w5) (by rw [hhB]; exact B5.out))
          clear ho5 hb5 y0 y1 y2 y3 y4 y5 y6 y7 y8 yf
          go_wp2_with fail
          refine' reg_kill [(20, 19), (21, 19), (21, 20)] [eqV _, eqV _, eqV _, eqV _, eqV _, eqV _, eqV _, eqV _, eqV _, eqV _, eqV _, eqV _, eqV _, eqV _, eqV _, eqV _, eqV _, eqV _, eqV _, fun v w => Owns .u8 5 w hB v (XL ++ PL) ∧ hB ≤ w.heap.size, fun v w => ∃ a n c, v = Value.slice a n c ∧ Owns .u8 5 w hB (Value.slice a n c) SS, fun v w => v = Value.int .i64 EE ∧ ∃ Q', RiIn w Q' r d ST J ∧ Tnd Q1 Q' wr w, eqV _] [(19, fun w w' => Below hB w w'), (20, fun w w' => Below hB w w'), (21, fun w w' => True)] [(3, fun w => w.heap[r]? = some (rowJ d sv1 J)), (7, fun w => w.heap[r]? = some (rowJ d sv1 J)), (13, fun w => w.heap[r]? = some (rowJ d sv1 J)), (19, fun w => Owns .u8 5 w hB (.slice a10 14 c10) XL ∧ RdAt .u8 w none (n - p) (c - p) PL ∧ hB ≤ w.heap.size), (20, fun w => w.heap[r]? = some (rowJ d sv1 J) ∧ hB ≤ w.heap.size), (21, fun w => Below hB wr w ∧ hB ≤ w.heap.size)] [65, 66, 67, 68, 69, 70, 71, 72, 73, 74, 75, 76, 77, 78, 79, 80, 81, 82, 83, 84, 85, 86, 11] [[], [0], [1], [2], [], [4], [5], [6], [7], [], [], [9, 10], [], [12], [11, 13], [8, 14], [], [], [], [17, 18], [16, 19], [3, 15, 20], [21]] [0, 1, 2, 3, 4, 5, 6, 7, 8, 9, 10, 11, 12, 13, 14, 15, 16, 17, 18, 19, 20, 21, 22] 23 (by kernel_rfl) (by kernel_rfl) ⟨eqV_stays _, eqV_stays _, eqV_stays _, eqV_stays _, eqV_stays _, eqV_stays _, eqV_stays _, eqV_stays _, eqV_stays _, eqV_stays _, eqV_stays _, eqV_stays _, eqV_stays _, eqV_stays _, eqV_stays _, eqV_stays _, eqV_stays _, eqV_stays _, eqV_stays _, fun _ _ _ p b => ⟨p.1.below b, Nat.le_trans p.2 b.size⟩, fun _ _ _ p b => p.elim fun a q => q.elim fun n q => q.elim fun c q => ⟨a, n, c, q.1, q.2.below b⟩, fun _ _ _ p b => ⟨p.1, p.2.elim fun Q' q => ⟨Q', q.1.below b, q.2.below_r b⟩⟩, eqV_stays _, trivial⟩ ⟨⟨.inl (eqV_stays _), .inl (eqV_stays _), .inl (eqV_stays _), .inl (eqV_stays _), .inl (eqV_stays _), .inl (eqV_stays _), .inl (eqV_stays _), .inl (eqV_stays _), .inl (eqV_stays _), .inl (eqV_stays _), .inl (eqV_stays _), .inl (eqV_stays _), .inl (eqV_stays _), .inl (eqV_stays _), .inl (eqV_stays _), .inl (eqV_stays _), .inl (eqV_stays _), .inl (eqV_stays _), .inl (eqV_stays _), .inr (.inr (.inl rfl)), .inr (.inl (by kernel_rfl)), .inr (.inl (by kernel_rfl)), .inl (eqV_stays _), trivial⟩, ⟨.inl (eqV_stays _), .inl (eqV_stays _), .inl (eqV_stays _), .inl (eqV_stays _), .inl (eqV_stays _), .inl (eqV_stays _), .inl (eqV_stays _), .inl (eqV_stays _), .inl (eqV_stays _), .inl (eqV_stays _), .inl (eqV_stays _), .inl (eqV_stays _), .inl (eqV_stays _), .inl (eqV_stays _), .inl (eqV_stays _), .inl (eqV_stays _), .inl (eqV_stays _), .inl (eqV_stays _), .inl (eqV_stays _), .inr (.inr (.inr (by kernel_rfl))), .inr (.inr (.inl rfl)), .inr (.inl (by kernel_rfl)), .inl (eqV_stays _), trivial⟩, ⟨.inl (eqV_stays _), .inl (eqV_stays _), .inl (eqV_stays _), .inl (eqV_stays _), .inl (eqV_stays _), .inl (eqV_stays _), .inl (eqV_stays _), .inl (eqV_stays _), .inl (eqV_stays _), .inl (eqV_stays _), .inl (eqV_stays _), .inl (eqV_stays _), .inl (eqV_stays _), .inl (eqV_stays _), .inl (eqV_stays _), .inl (eqV_stays _), .inl (eqV_stays _), .inl (eqV_stays _), .inl (eqV_stays _), .inr (.inr (.inr (by kernel_rfl))), .inr (.inr (.inr (by kernel_rfl))), .inr (.inr (.inl rfl)), .inl (eqV_stays _), trivial⟩, trivial⟩ ⟨fun _ _ p b => row_keep p b, fun _ _ p b => row_keep p b, fun _ _ p b => row_keep p b, fun _ _ p b => ⟨p.1.below b, p.2.1.below b, Nat.le_trans p.2.2 b.size⟩, fun _ _ p b => ⟨row_keep p.1 b, Nat.le_trans p.2 b.size⟩, fun _ _ p b => ⟨p.1.trans (b.mono p.2), Nat.le_trans p.2 b.size⟩, trivial⟩ ⟨⟨.inl (fun _ _ p g => (g.block r hrl).trans p), .inl (fun _ _ p g => (g.block r hrl).trans p), .inr (.inl (by kernel_rfl)), .inr (.inr rfl), .inl (fun _ _ p g => ⟨(g.block r hrl).trans p.1, Nat.le_trans p.2 g.size⟩), .inl (fun _ _ p g => ⟨p.1.trans g, Nat.le_trans p.2 g.size⟩), trivial⟩, ⟨.inl (fun _ _ p g => (g.block r hrl).trans p), .inl (fun _ _ p g => (g.block r hrl).trans p), .inr (.inl (by kernel_rfl)), .inr (.inl (by kernel_rfl)), .inr (.inr rfl), .inl (fun _ _ p g => ⟨p.1.trans g, Nat.le_trans p.2 g.size⟩), trivial⟩, ⟨.inr (.inl (by kernel_rfl)), .inr (.inl (by kernel_rfl)), .inr (.inl (by kernel_rfl)), .inr (.inl (by kernel_rfl)), .inr (.inl (by kernel_rfl)), .inr (.inr rfl), trivial⟩, trivial⟩ ⟨ROW5.out, ROW5.out, ROW5.out, ⟨OX.out.drew, HPR5.out.drewA, hl5⟩, ⟨ROW5.out, hl5⟩, ⟨below_drew B5.out, hl5⟩, trivial⟩ 128 rfl (by kernel_rfl) (by kernel_rfl) rfl rfl 23 rfl ?q2obl ?q2fin
          case q2obl =>
            refine And.intro ?q2o0 (And.intro ?q2o1 (And.intro ?q2o2 (And.intro ?q2o3 (And.intro ?q2o4 (And.intro ?q2o5 (And.intro ?q2o6 (And.intro ?q2o7 (And.intro ?q2o8 (And.intro ?q2o9 (And.intro ?q2o10 (And.intro ?q2o11 (And.intro ?q2o12 (And.intro ?q2o13 (And.intro ?q2o14 (And.intro ?q2o15 (And.intro ?q2o16 (And.intro ?q2o17 (And.intro ?q2o18 (And.intro ?q2o19 (And.intro ?q2o20 (And.intro ?q2o21 (And.intro ?q2o22 (True.intro)))))))))))))))))))))))
            case q2o0 =>
              intro w1 hI
              refine turn2_on (by rfl) ?_
              intro K hK
              go_simp
              refine hK _ _ ⟨rfl, Kept.refl _, ?_⟩
              show _ = _
              simp only [gv1]
              rfl
            case q2o1 =>
              intro w1 hI
              intro v0 h0
              change _ = _ at h0
              subst v0
              refine turn2_on (by rfl) ?_
              intro K hK
              simp only [gv2]
              go_simp
              refine hK _ _ ⟨rfl, Kept.refl _, ?_⟩
              show _ = _
              simp only [gv1]
              rfl
            case q2o2 =>
              intro w1 hI
              intro v1 h1
              change _ = _ at h1
              subst v1
              refine turn2_on (by rfl) ?_
              intro K hK
              simp only [gv2]
              go_simp
              refine hK _ _ ⟨rfl, Kept.refl _, ?_⟩
              show _ = _
              simp only [gv1]
              rfl
            case q2o3 =>
              intro w1 hI
              replace hI : (fun w => w.heap[r]? = some (rowJ d sv1 J)) w1 := hI
              intro v2 h2
              change _ = _ at h2
              subst v2
              refine turn2_on (by rfl) ?_
              intro K hK
              simp only [gv2]
              obtain ⟨y0, y1, y2, y3, y4, y5, y6, y7, y8, yf⟩ := cellsJ hI
              clear hI
              go_simp
              refine hK _ _ ⟨rfl, Kept.refl _, ?_⟩
              show _ = _
              simp only [gv1]
              rfl
            case q2o4 =>
              intro w1 hI
              refine turn2_on (by rfl) ?_
              intro K hK
              go_simp
              refine hK _ _ ⟨rfl, Kept.refl _, ?_⟩
              show _ = _
              simp only [gv1]
              rfl
            case q2o5 =>
              intro w1 hI
              intro v4 h4
              change _ = _ at h4
              subst v4
              refine turn2_on (by rfl) ?_
              intro K hK
              simp only [gv2]
              go_simp
              refine hK _ _ ⟨rfl, Kept.refl _, ?_⟩
              show _ = _
              simp only [gv1]
              rfl
            case q2o6 =>
              intro w1 hI
              intro v5 h5
              change _ = _ at h5
              subst v5
              refine turn2_on (by rfl) ?_
              intro K hK
              simp only [gv2]
              go_simp
              refine hK _ _ ⟨rfl, Kept.refl _, ?_⟩
              show _ = _
              simp only [gv1]
              rfl
            case q2o7 =>
              intro w1 hI
              replace hI : (fun w => w.heap[r]? = some (rowJ d sv1 J)) w1 := hI
              intro v6 h6
              change _ = _ at h6
              subst v6
              refine turn2_on (by rfl) ?_
              intro K hK
              simp only [gv2]
              obtain ⟨y0, y1, y2, y3, y4, y5, y6, y7, y8, yf⟩ := cellsJ hI
              clear hI
              go_simp
              refine hK _ _ ⟨rfl, Kept.refl _, ?_⟩
              show _ = _
              simp only [gv1]
              rfl
            case q2o8 =>
              intro w1 hI
              intro v7 h7
              change _ = _ at h7
              subst v7
              refine turn2_on (by rfl) ?_
              intro K hK
              simp only [gv2]
              go_simp
              refine hK _ _ ⟨rfl, Kept.refl _, ?_⟩
              show _ = _
              simp only [gv1]
              rfl
            case q2o9 =>
              intro w1 hI
              refine turn2_on (by rfl) ?_
              intro K hK
              go_simp
              refine hK _ _ ⟨rfl, Kept.refl _, ?_⟩
              show _ = _
              simp only [gv1]
              rfl
            case q2o10 =>
              intro w1 hI
              refine turn2_on (by rfl) ?_
              intro K hK
              go_simp
              refine hK _ _ ⟨rfl, Kept.refl _, ?_⟩
              show _ = _
              simp only [gv1]
              rfl
            case q2o11 =>
              intro w1 hI
              intro v9 h9
              change _ = _ at h9
              subst v9
              intro v10 h10
              change _ = _ at h10
              subst v10
              refine turn2_on (by rfl) ?_
              intro K hK
              simp only [gv2]
              go_simp
              refine hK _ _ ⟨rfl, Kept.refl _, ?_⟩
              show _ = _
              simp only [gv1]
              rfl
            case q2o12 =>
              intro w1 hI
              refine turn2_on (by rfl) ?_
              intro K hK
              go_simp
              refine hK _ _ ⟨rfl, Kept.refl _, ?_⟩
              show _ = _
              simp only [gv1]
              rfl
            case q2o13 =>
              intro w1 hI
              replace hI : (fun w => w.heap[r]? = some (rowJ d sv1 J)) w1 := hI
              intro v12 h12
              change _ = _ at h12
              subst v12
              refine turn2_on (by rfl) ?_
              intro K hK
              simp only [gv2]
              go_simp
              refine Calls.mono (area_any r d sv1 J w1 hI OK.out) ?_
              rintro e w2 ⟨rfl, rfl⟩
              refine hK _ _ ⟨rfl, Kept.refl _, ?_⟩
              show _ = _
              simp only [gv1]
              rfl
            case q2o14 =>
              intro w1 hI
              intro v11 h11
              change _ = _ at h11
              subst v11
              intro v13 h13
              change _ = _ at h13
              subst v13
              refine turn2_on (by rfl) ?_
              intro K hK
              simp only [gv2]
              go_simp
              refine hK _ _ ⟨rfl, Kept.refl _, ?_⟩
              show _ = _
              simp only [gv1]
              rfl
            case q2o15 =>
              intro w1 hI
              intro v8 h8
              change _ = _ at h8
              subst v8
              intro v14 h14
              change _ = _ at h14
              subst v14
              refine turn2_on (by rfl) ?_
              intro K hK
              simp only [gv2]
              go_simp
              refine hK _ _ ⟨rfl, Kept.refl _, ?_⟩
              show _ = _
              simp only [gv1]
              rfl
            case q2o16 =>
              intro w1 hI
              refine turn2_on (by rfl) ?_
              intro K hK
              go_simp
              refine hK _ _ ⟨rfl, Kept.refl _, ?_⟩
              show _ = _
              simp only [gv1]
              rfl
            case q2o17 =>
              intro w1 hI
              refine turn2_on (by rfl) ?_
              intro K hK
              go_simp
              refine hK _ _ ⟨rfl, Kept.refl _, ?_⟩
              show _ = _
              simp only [gv1]
              rfl
            case q2o18 =>
              intro w1 hI
              refine turn2_on (by rfl) ?_
              intro K hK
              go_simp
              refine hK _ _ ⟨rfl, Kept.refl _, ?_⟩
              show _ = _
              simp only [gv1]
              rfl
            case q2o19 =>
              intro w1 hI
              replace hI : (fun w => Owns .u8 5 w hB (.slice a10 14 c10) XL ∧ RdAt .u8 w none (n - p) (c - p) PL ∧ hB ≤ w.heap.size) w1 := hI
              intro v17 h17
              change _ = _ at h17
              subst v17
              intro v18 h18
              change _ = _ at h18
              subst v18
              refine turn2_on (by rfl) ?_
              intro K hK
              simp only [gv2]
              obtain ⟨i1, i2, i3⟩ := hI
              refine wp_app_all 84 rfl u8TR u8IR (by decide) (.tmp 82) (.tmp 83) rfl _ hB (.slice a10 14 c10) XL rfl i1 _ _ _ _ rfl i2 (by rw [HXL.out]; omega) i3 ?_
              intro v2 w2 ho2 hg2
              refine hK _ _ ⟨rfl, hg2.below i3 (fun g hg => (i1.at_base g hg).1), ?_⟩
              show Owns _ _ _ _ _ _ ∧ _ ≤ _
              simp only [gv1]
              exact ⟨ho2, Nat.le_trans i3 hg2.1.size⟩
            case q2o20 =>
              intro w1 hI
              replace hI : (fun w => w.heap[r]? = some (rowJ d sv1 J) ∧ hB ≤ w.heap.size) w1 := hI
              intro v16 h16
              change _ = _ at h16
              subst v16
              intro v19 h19
              obtain ⟨h19, h19s⟩ := h19
              refine turn2_on (by rfl) ?_
              intro K hK
              simp only [gv2]
              obtain ⟨i1, i2⟩ := hI
              go_simp
              refine Calls.mono (sector_any r d sv1 J w1 i1 OK.out hB _ _ h19 i2 HSZ.out) ?_
              rintro e w2 ⟨v2, rfl, ho2, hb2⟩
              rw [HSS.out] at ho2
              obtain ⟨a2, c2, rfl⟩ := ho2.shape
              refine hK _ _ ⟨rfl, hb2, ?_⟩
              show ∃ a n c, _ = Value.slice a n c ∧ Owns .u8 5 w2 hB (Value.slice a n c) SS
              simp only [gv1]
              exact ⟨_, _, _, rfl, ho2.mono i2⟩
            case q2o21 =>
              intro w1 hI
              replace hI : (fun w => Below hB wr w ∧ hB ≤ w.heap.size) w1 := hI
              intro v3 h3
              change _ = _ at h3
              subst v3
              intro v15 h15
              change _ = _ at h15
              subst v15
              intro v20 h20
              obtain ⟨a20, n20, c20, rfl, h20⟩ := h20
              refine turn2_on (by rfl) ?_
              intro K hK
              simp only [gv2]
              go_simp
              rw [HS1.out]
              refine Calls.mono (HWR.out w1 _ _ _ hI.1 h20) ?_
              rintro e w2 ⟨rfl, h2⟩
              refine hK _ _ ⟨rfl, trivial, ?_⟩
              show _ = Value.int .i64 EE ∧ ∃ Q', RiIn w2 Q' r d ST J ∧ Tnd Q1 Q' wr w2
              simp only [gv1]
              exact ⟨trivial, h2⟩
            case q2o22 =>
              intro w1 hI
              intro v21 h21
              obtain ⟨rfl, h21⟩ := h21
              refine turn2_on (by rfl) ?_
              intro K hK
              simp only [gv2]
              go_simp
              refine hK _ _ ⟨rfl, Kept.refl _, ?_⟩
              show _ = _
              simp only [gv1]
              rfl
          intro w9 hI
          intro v0 h0
          replace h0 := h0 (by kernel_rfl)
          change _ = _ at h0
          subst v0
          intro v1 h1
          replace h1 := h1 (by kernel_rfl)
          change _ = _ at h1
          subst v1
          intro v2 h2
          replace h2 := h2 (by kernel_rfl)
          change _ = _ at h2
          subst v2
          intro v3 h3
          replace h3 := h3 (by kernel_rfl)
          change _ = _ at h3
          subst v3
          intro v4 h4
          replace h4 := h4 (by kernel_rfl)
          change _ = _ at h4
          subst v4
          intro v5 h5
          replace h5 := h5 (by kernel_rfl)
          change _ = _ at h5
          subst v5
          intro v6 h6
          replace h6 := h6 (by kernel_rfl)
          change _ = _ at h6
          subst v6
          intro v7 h7
          replace h7 := h7 (by kernel_rfl)
          change _ = _ at h7
          subst v7
          intro v8 h8
          replace h8 := h8 (by kernel_rfl)
          change _ = _ at h8
          subst v8
          intro v9 h9
          replace h9 := h9 (by kernel_rfl)
          change _ = _ at h9
          subst v9
          intro v10 h10
          replace h10 := h10 (by kernel_rfl)
          change _ = _ at h10
          subst v10
          intro v11 h11
          replace h11 := h11 (by kernel_rfl)
          change _ = _ at h11
          subst v11
          intro v12 h12
          replace h12 := h12 (by kernel_rfl)
          change _ = _ at h12
          subst v12
          intro v13 h13
          replace h13 := h13 (by kernel_rfl)
          change _ = _ at h13
          subst v13
          intro v14 h14
          replace h14 := h14 (by kernel_rfl)
          change _ = _ at h14
          subst v14
          intro v15 h15
          replace h15 := h15 (by kernel_rfl)
          change _ = _ at h15
          subst v15
          intro v16 h16
          replace h16 := h16 (by kernel_rfl)
          change _ = _ at h16
          subst v16
          intro v17 h17
          replace h17 := h17 (by kernel_rfl)
          change _ = _ at h17
          subst v17
          intro v18 h18
          replace h18 := h18 (by kernel_rfl)
          change _ = _ at h18
          subst v18
          intro v19 _
          intro v20 _
          intro v21 h21
          replace h21 := h21 (by kernel_rfl)
          obtain ⟨rfl, h21⟩ := h21
          intro v22 h22
          replace h22 := h22 (by kernel_rfl)
          change _ = _ at h22
          subst v22
          simp only [Given, gv2]
          obtain ⟨Q9, hr9, ht9⟩ := h21
          have R9_ := Lib.hid hr9
          have T9_ := Lib.hid (TK.out.trans ht9)
          clear hr9 ht9
          by_cases harm : s.armed = 1
          · have e8 : EE = 8 := by rw [← HEE.out]; unfold wr1E; rw [if_pos harm]
            have ES : Hid (ST = RES) := by show _ = _; rw [← HSTT.out, GC.out harm]; unfold wr1; rw [if_pos harm]
            have HAP : Hid (AP = ⟨RES, J, 8⟩) := by show _ = _; rw [HA1.out, GC.out harm]; rfl
            subst e8
            clear harm
            go_wp2_with fail
            go_ret2
            rw [HAP.out]
            refine ⟨?_, Q9, by rw [← ES.out]; exact R9_.out, T9_.out⟩
            rfl
          · have e8 : EE = 0 := by rw [← HEE.out]; unfold wr1E; rw [if_neg harm]
            have ES : Hid (ST = putS s si SS) := by show _ = _; rw [← HSTT.out]; unfold wr1; rw [if_neg harm]
            have GP2 := Lib.hid (GP.out harm)
            subst e8
            clear harm
            go_wp2_with fail
            go_roundw
            case rel =>
              exact ⟨k + 1, Q9, putS s si SS, by omega, by go_num, by rw [← ES.out]; exact R9_.out, T9_.out, ⟨SK.out.1, by show (s.pend ++ [_]).length = _; rw [List.length_append, SK.out.2.1]; rfl, by show s.writes + 1 = _; rw [SK.out.2.2]; omega⟩, GP2⟩
            case measure => simp [intOf] <;> omega
        | some q =>
          obtain ⟨qb, qo, qs⟩ := q
          by_cases hcp : c = p
          · subst hcp
            have HPR : Hid (RdAt .u8 wr (some ⟨qb, qo, qs⟩) 0 0 PL) := by
              have h := HR0.out ⟨qb, qo, qs⟩ 0 (by omega)
              rw [show n - c = 0 by omega] at h
              exact h
            clear hcm hn0 hp0 hp1
            go_wp2_with (first | (go_at_call 35; refine (HROOM.out _ rfl).mono ?_; rintro e w2 ⟨rfl, rfl⟩))
            refine (put_any none 0 0 [] J.h.next 8 wr (RdAt.nil _ _) (by omega) hnx0.1 hnx0.2 (by omega) (by omega)).mono ?_
            rintro e w3 ⟨v3, rfl, ho3, hb3⟩
            rw [hhB] at hb3 ho3
            obtain ⟨a3, c3, rfl⟩ := ho3.shapeN 8 (by rw [List.length_append, putL_len]; rfl)
            have O3 := Lib.hid ho3
            have B3 := Lib.hid hb3
            have hl3 : hB ≤ w3.heap.size := by have := hb3.size; omega
            clear ho3 hb3
            go_wp2_with fail
            refine (put_any a3 8 c3 _ k 2 w3 O3.out.rd (by omega) (by omega) (by omega) (by omega) (by omega)).mono ?_
            rintro e w4 ⟨v4, rfl, ho4, hb4⟩
            obtain ⟨a4, c4, rfl⟩ := ho4.shapeN 10 (by rw [List.length_append, List.length_append, putL_len, putL_len]; rfl)
            have O4 := Lib.hid (ho4.mono hl3)
            have B4 := Lib.hid (B3.out.trans (hb4.mono hl3))
            have hl4 : hB ≤ w4.heap.size := Nat.le_trans hl3 hb4.size
            clear ho4 hb4
            go_wp2_with fail
            refine (put_any a4 10 c4 _ n 4 w4 O4.out.rd (by omega) (by omega) (by omega) (by omega) (by omega)).mono ?_
            rintro e w5 ⟨v5, rfl, ho5, hb5⟩
            obtain ⟨a10, c10, rfl⟩ := ho5.shapeN 14 (by rw [List.length_append, List.length_append, List.length_append, putL_len, putL_len, putL_len]; rfl)
            have OX : Hid (Owns .u8 5 w5 hB (.slice a10 14 c10) XL) := by
              show Owns _ _ _ _ _ _
              have h := ho5.mono hl4
              rw [List.nil_append, show putN 8 = 8 from rfl, show putN 2 = 2 from rfl, show putN 4 = 4 from rfl, HXX.out] at h
              exact h
            have B5 := Lib.hid (B4.out.trans (hb5.mono hl4))
            have hl5 : hB ≤ w5.heap.size := Nat.le_trans hl4 hb5.size
            have ROW5 := Lib.hid ((B5.out.block r hrl).trans ROW1.out)
            have HPR5 := Lib.hid (HPR.out.below (w' := w5) (by rw [hhB]; exact B5.out))
            clear ho5 hb5 y0 y1 y2 y3 y4 y5 y6 y7 y8 yf
            go_wp2_with fail
            refine' reg_kill [(20, 19), (21, 19), (21, 20)] [eqV _, eqV _, eqV _, eqV _, eqV _, eqV _, eqV _, eqV _, eqV _, eqV _, eqV _, eqV _, eqV _, eqV _, eqV _, eqV _, eqV _, eqV _, eqV _, fun v w => Owns .u8 5 w hB v (XL ++ PL) ∧ hB ≤ w.heap.size, fun v w => ∃ a n c, v = Value.slice a n c ∧ Owns .u8 5 w hB (Value.slice a n c) SS, fun v w => v = Value.int .i64 EE ∧ ∃ Q', RiIn w Q' r d ST J ∧ Tnd Q1 Q' wr w, eqV _] [(19, fun w w' => Below hB w w'), (20, fun w w' => Below hB w w'), (21, fun w w' => True)] [(3, fun w => w.heap[r]? = some (rowJ d sv1 J)), (7, fun w => w.heap[r]? = some (rowJ d sv1 J)), (13, fun w => w.heap[r]? = some (rowJ d sv1 J)), (19, fun w => Owns .u8 5 w hB (.slice a10 14 c10) XL ∧ RdAt .u8 w (some ⟨qb, qo, qs⟩) (0) 0 PL ∧ hB ≤ w.heap.size), (20, fun w => w.heap[r]? = some (rowJ d sv1 J) ∧ hB ≤ w.heap.size), (21, fun w => Below hB wr w ∧ hB ≤ w.heap.size)] [65, 66, 67, 68, 69, 70, 71, 72, 73, 74, 75, 76, 77, 78, 79, 80, 81, 82, 83, 84, 85, 86, 11] [[], [0], [1], [2], [], [4], [5], [6], [7], [], [], [9, 10], [], [12], [11, 13], [8, 14], [], [], [], [17, 18], [16, 19], [3, 15, 20], [21]] [0, 1, 2, 3, 4, 5, 6, 7, 8, 9, 10, 11, 12, 13, 14, 15, 16, 17, 18, 19, 20, 21, 22] 23 (by kernel_rfl) (by kernel_rfl) ⟨eqV_stays _, eqV_stays _, eqV_stays _, eqV_stays _, eqV_stays _, eqV_stays _, eqV_stays _, eqV_stays _, eqV_stays _, eqV_stays _, eqV_stays _, eqV_stays _, eqV_stays _, eqV_stays _, eqV_stays _, eqV_stays _, eqV_stays _, eqV_stays _, eqV_stays _, fun _ _ _ p b => ⟨p.1.below b, Nat.le_trans p.2 b.size⟩, fun _ _ _ p b => p.elim fun a q => q.elim fun n q => q.elim fun c q => ⟨a, n, c, q.1, q.2.below b⟩, fun _ _ _ p b => ⟨p.1, p.2.elim fun Q' q => ⟨Q', q.1.below b, q.2.below_r b⟩⟩, eqV_stays _, trivial⟩ ⟨⟨.inl (eqV_stays _), .inl (eqV_stays _), .inl (eqV_stays _), .inl (eqV_stays _), .inl (eqV_stays _), .inl (eqV_stays _), .inl (eqV_stays _), .inl (eqV_stays _), .inl (eqV_stays _), .inl (eqV_stays _), .inl (eqV_stays _), .inl (eqV_stays _), .inl (eqV_stays _), .inl (eqV_stays _), .inl (eqV_stays _), .inl (eqV_stays _), .inl (eqV_stays _), .inl (eqV_stays _), .inl (eqV_stays _), .inr (.inr (.inl rfl)), .inr (.inl (by kernel_rfl)), .inr (.inl (by kernel_rfl)), .inl (eqV_stays _), trivial⟩, ⟨.inl (eqV_stays _), .inl (eqV_stays _), .inl (eqV_stays _), .inl (eqV_stays _), .inl (eqV_stays _), .inl (eqV_stays _), .inl (eqV_stays _), .inl (eqV_stays _), .inl (eqV_stays _), .inl (eqV_stays _), .inl (eqV_stays _), .inl (eqV_stays _), .inl (eqV_stays _), .inl (eqV_stays _), .inl (eqV_stays _), .inl (eqV_stays _), .inl (eqV_stays _), .inl (eqV_stays _), .inl (eqV_stays _), .inr (.inr (.inr (by kernel_rfl))), .inr (.inr (.inl rfl)), .inr (.inl (by kernel_rfl)), .inl (eqV_stays _), trivial⟩, ⟨.inl (eqV_stays _), .inl (eqV_stays _), .inl (eqV_stays _), .inl (eqV_stays _), .inl (eqV_stays _), .inl (eqV_stays _), .inl (eqV_stays _), .inl (eqV_stays _), .inl (eqV_stays _), .inl (eqV_stays _), .inl (eqV_stays _), .inl (eqV_stays _), .inl (eqV_stays _), .inl (eqV_stays _), .inl (eqV_stays _), .inl (eqV_stays _), .inl (eqV_stays _), .inl (eqV_stays _), .inl (eqV_stays _), .inr (.inr (.inr (by kernel_rfl))), .inr (.inr (.inr (by kernel_rfl))), .inr (.inr (.inl rfl)), .inl (eqV_stays _), trivial⟩, trivial⟩ ⟨fun _ _ p b => row_keep p b, fun _ _ p b => row_keep p b, fun _ _ p b => row_keep p b, fun _ _ p b => ⟨p.1.below b, p.2.1.below b, Nat.le_trans p.2.2 b.size⟩, fun _ _ p b => ⟨row_keep p.1 b, Nat.le_trans p.2 b.size⟩, fun _ _ p b => ⟨p.1.trans (b.mono p.2), Nat.le_trans p.2 b.size⟩, trivial⟩ ⟨⟨.inl (fun _ _ p g => (g.block r hrl).trans p), .inl (fun _ _ p g => (g.block r hrl).trans p), .inr (.inl (by kernel_rfl)), .inr (.inr rfl), .inl (fun _ _ p g => ⟨(g.block r hrl).trans p.1, Nat.le_trans p.2 g.size⟩), .inl (fun _ _ p g => ⟨p.1.trans g, Nat.le_trans p.2 g.size⟩), trivial⟩, ⟨.inl (fun _ _ p g => (g.block r hrl).trans p), .inl (fun _ _ p g => (g.block r hrl).trans p), .inr (.inl (by kernel_rfl)), .inr (.inl (by kernel_rfl)), .inr (.inr rfl), .inl (fun _ _ p g => ⟨p.1.trans g, Nat.le_trans p.2 g.size⟩), trivial⟩, ⟨.inr (.inl (by kernel_rfl)), .inr (.inl (by kernel_rfl)), .inr (.inl (by kernel_rfl)), .inr (.inl (by kernel_rfl)), .inr (.inl (by kernel_rfl)), .inr (.inr rfl), trivial⟩, trivial⟩ ⟨ROW5.out, ROW5.out, ROW5.out, ⟨OX.out.drew, HPR5.out.drewA, hl5⟩, ⟨ROW5.out, hl5⟩, ⟨below_drew B5.out, hl5⟩, trivial⟩ 128 rfl (by kernel_rfl) (by kernel_rfl) rfl rfl 23 rfl ?q3obl ?q3fin
            case q3obl =>
              refine And.intro ?q3o0 (And.intro ?q3o1 (And.intro ?q3o2 (And.intro ?q3o3 (And.intro ?q3o4 (And.intro ?q3o5 (And.intro ?q3o6 (And.intro ?q3o7 (And.intro ?q3o8 (And.intro ?q3o9 (And.intro ?q3o10 (And.intro ?q3o11 (And.intro ?q3o12 (And.intro ?q3o13 (And.intro ?q3o14 (And.intro ?q3o15 (And.intro ?q3o16 (And.intro ?q3o17 (And.intro ?q3o18 (And.intro ?q3o19 (And.intro ?q3o20 (And.intro ?q3o21 (And.intro ?q3o22 (True.intro)))))))))))))))))))))))
              case q3o0 =>
                intro w1 hI
                refine turn2_on (by rfl) ?_
                intro K hK
                go_simp
                refine hK _ _ ⟨rfl, Kept.refl _, ?_⟩
                show _ = _
                simp only [gv1]
                rfl
              case q3o1 =>
                intro w1 hI
                intro v0 h0
                change _ = _ at h0
                subst v0
                refine turn2_on (by rfl) ?_
                intro K hK
                simp only [gv2]
                go_simp
                refine hK _ _ ⟨rfl, Kept.refl _, ?_⟩
                show _ = _
                simp only [gv1]
                rfl
              case q3o2 =>
                intro w1 hI
                intro v1 h1
                change _ = _ at h1
                subst v1
                refine turn2_on (by rfl) ?_
                intro K hK
                simp only [gv2]
                go_simp
                refine hK _ _ ⟨rfl, Kept.refl _, ?_⟩
                show _ = _
                simp only [gv1]
                rfl
              case q3o3 =>
                intro w1 hI
                replace hI : (fun w => w.heap[r]? = some (rowJ d sv1 J)) w1 := hI
                intro v2 h2
                change _ = _ at h2
                subst v2
                refine turn2_on (by rfl) ?_
                intro K hK
                simp only [gv2]
                obtain ⟨y0, y1, y2, y3, y4, y5, y6, y7, y8, yf⟩ := cellsJ hI
                clear hI
                go_simp
                refine hK _ _ ⟨rfl, Kept.refl _, ?_⟩
                show _ = _
                simp only [gv1]
                rfl
              case q3o4 =>
                intro w1 hI
                refine turn2_on (by rfl) ?_
                intro K hK
                go_simp
                refine hK _ _ ⟨rfl, Kept.refl _, ?_⟩
                show _ = _
                simp only [gv1]
                rfl
              case q3o5 =>
                intro w1 hI
                intro v4 h4
                change _ = _ at h4
                subst v4
                refine turn2_on (by rfl) ?_
                intro K hK
                simp only [gv2]
                go_simp
                refine hK _ _ ⟨rfl, Kept.refl _, ?_⟩
                show _ = _
                simp only [gv1]
                rfl
              case q3o6 =>
                intro w1 hI
                intro v5 h5
                change _ = _ at h5
                subst v5
                refine turn2_on (by rfl) ?_
                intro K hK
                simp only [gv2]
                go_simp
                refine hK _ _ ⟨rfl, Kept.refl _, ?_⟩
                show _ = _
                simp only [gv1]
                rfl
              case q3o7 =>
                intro w1 hI
                replace hI : (fun w => w.heap[r]? = some (rowJ d sv1 J)) w1 := hI
                intro v6 h6
                change _ = _ at h6
                subst v6
                refine turn2_on (by rfl) ?_
                intro K hK
                simp only [gv2]
                obtain ⟨y0, y1, y2, y3, y4, y5, y6, y7, y8, yf⟩ := cellsJ hI
                clear hI
                go_simp
                refine hK _ _ ⟨rfl, Kept.refl _, ?_⟩
                show _ = _
                simp only [gv1]
                rfl
              case q3o8 =>
                intro w1 hI
                intro v7 h7
                change _ = _ at h7
                subst v7
                refine turn2_on (by rfl) ?_
                intro K hK
                simp only [gv2]
                go_simp
                refine hK _ _ ⟨rfl, Kept.refl _, ?_⟩
                show _ = _
                simp only [gv1]
                rfl
              case q3o9 =>
                intro w1 hI
                refine turn2_on (by rfl) ?_
                intro K hK
                go_simp
                refine hK _ _ ⟨rfl, Kept.refl _, ?_⟩
                show _ = _
                simp only [gv1]
                rfl
              case q3o10 =>
                intro w1 hI
                refine turn2_on (by rfl) ?_
                intro K hK
                go_simp
                refine hK _ _ ⟨rfl, Kept.refl _, ?_⟩
                show _ = _
                simp only [gv1]
                rfl
              case q3o11 =>
                intro w1 hI
                intro v9 h9
                change _ = _ at h9
                subst v9
                intro v10 h10
                change _ = _ at h10
                subst v10
                refine turn2_on (by rfl) ?_
                intro K hK
                simp only [gv2]
                go_simp
                refine hK _ _ ⟨rfl, Kept.refl _, ?_⟩
                show _ = _
                simp only [gv1]
                rfl
              case q3o12 =>
                intro w1 hI
                refine turn2_on (by rfl) ?_
                intro K hK
                go_simp
                refine hK _ _ ⟨rfl, Kept.refl _, ?_⟩
                show _ = _
                simp only [gv1]
                rfl
              case q3o13 =>
                intro w1 hI
                replace hI : (fun w => w.heap[r]? = some (rowJ d sv1 J)) w1 := hI
                intro v12 h12
                change _ = _ at h12
                subst v12
                refine turn2_on (by rfl) ?_
                intro K hK
                simp only [gv2]
                go_simp
                refine Calls.mono (area_any r d sv1 J w1 hI OK.out) ?_
                rintro e w2 ⟨rfl, rfl⟩
                refine hK _ _ ⟨rfl, Kept.refl _, ?_⟩
                show _ = _
                simp only [gv1]
                rfl
              case q3o14 =>
                intro w1 hI
                intro v11 h11
                change _ = _ at h11
                subst v11
                intro v13 h13
                change _ = _ at h13
                subst v13
                refine turn2_on (by rfl) ?_
                intro K hK
                simp only [gv2]
                go_simp
                refine hK _ _ ⟨rfl, Kept.refl _, ?_⟩
                show _ = _
                simp only [gv1]
                rfl
              case q3o15 =>
                intro w1 hI
                intro v8 h8
                change _ = _ at h8
                subst v8
                intro v14 h14
                change _ = _ at h14
                subst v14
                refine turn2_on (by rfl) ?_
                intro K hK
                simp only [gv2]
                go_simp
                refine hK _ _ ⟨rfl, Kept.refl _, ?_⟩
                show _ = _
                simp only [gv1]
                rfl
              case q3o16 =>
                intro w1 hI
                refine turn2_on (by rfl) ?_
                intro K hK
                go_simp
                refine hK _ _ ⟨rfl, Kept.refl _, ?_⟩
                show _ = _
                simp only [gv1]
                rfl
              case q3o17 =>
                intro w1 hI
                refine turn2_on (by rfl) ?_
                intro K hK
                go_simp
                refine hK _ _ ⟨rfl, Kept.refl _, ?_⟩
                show _ = _
                simp only [gv1]
                rfl
              case q3o18 =>
                intro w1 hI
                refine turn2_on (by rfl) ?_
                intro K hK
                go_simp
                refine hK _ _ ⟨rfl, Kept.refl _, ?_⟩
                show _ = _
                simp only [gv1]
                rfl
              case q3o19 =>
                intro w1 hI
                replace hI : (fun w => Owns .u8 5 w hB (.slice a10 14 c10) XL ∧ RdAt .u8 w (some ⟨qb, qo, qs⟩) (0) 0 PL ∧ hB ≤ w.heap.size) w1 := hI
                intro v17 h17
                change _ = _ at h17
                subst v17
                intro v18 h18
                change _ = _ at h18
                subst v18
                refine turn2_on (by rfl) ?_
                intro K hK
                simp only [gv2]
                obtain ⟨i1, i2, i3⟩ := hI
                refine wp_app_all 84 rfl u8TR u8IR (by decide) (.tmp 82) (.tmp 83) rfl _ hB (.slice a10 14 c10) XL rfl i1 _ _ _ _ rfl i2 (by rw [HXL.out]; omega) i3 ?_
                intro v2 w2 ho2 hg2
                refine hK _ _ ⟨rfl, hg2.below i3 (fun g hg => (i1.at_base g hg).1), ?_⟩
                show Owns _ _ _ _ _ _ ∧ _ ≤ _
                simp only [gv1]
                exact ⟨ho2, Nat.le_trans i3 hg2.1.size⟩
              case q3o20 =>
                intro w1 hI
                replace hI : (fun w => w.heap[r]? = some (rowJ d sv1 J) ∧ hB ≤ w.heap.size) w1 := hI
                intro v16 h16
                change _ = _ at h16
                subst v16
                intro v19 h19
                obtain ⟨h19, h19s⟩ := h19
                refine turn2_on (by rfl) ?_
                intro K hK
                simp only [gv2]
                obtain ⟨i1, i2⟩ := hI
                go_simp
                refine Calls.mono (sector_any r d sv1 J w1 i1 OK.out hB _ _ h19 i2 HSZ.out) ?_
                rintro e w2 ⟨v2, rfl, ho2, hb2⟩
                rw [HSS.out] at ho2
                obtain ⟨a2, c2, rfl⟩ := ho2.shape
                refine hK _ _ ⟨rfl, hb2, ?_⟩
                show ∃ a n c, _ = Value.slice a n c ∧ Owns .u8 5 w2 hB (Value.slice a n c) SS
                simp only [gv1]
                exact ⟨_, _, _, rfl, ho2.mono i2⟩
              case q3o21 =>
                intro w1 hI
                replace hI : (fun w => Below hB wr w ∧ hB ≤ w.heap.size) w1 := hI
                intro v3 h3
                change _ = _ at h3
                subst v3
                intro v15 h15
                change _ = _ at h15
                subst v15
                intro v20 h20
                obtain ⟨a20, n20, c20, rfl, h20⟩ := h20
                refine turn2_on (by rfl) ?_
                intro K hK
                simp only [gv2]
                go_simp
                rw [HS1.out]
                refine Calls.mono (HWR.out w1 _ _ _ hI.1 h20) ?_
                rintro e w2 ⟨rfl, h2⟩
                refine hK _ _ ⟨rfl, trivial, ?_⟩
                show _ = Value.int .i64 EE ∧ ∃ Q', RiIn w2 Q' r d ST J ∧ Tnd Q1 Q' wr w2
                simp only [gv1]
                exact ⟨trivial, h2⟩
              case q3o22 =>
                intro w1 hI
                intro v21 h21
                obtain ⟨rfl, h21⟩ := h21
                refine turn2_on (by rfl) ?_
                intro K hK
                simp only [gv2]
                go_simp
                refine hK _ _ ⟨rfl, Kept.refl _, ?_⟩
                show _ = _
                simp only [gv1]
                rfl
            intro w9 hI
            intro v0 h0
            replace h0 := h0 (by kernel_rfl)
            change _ = _ at h0
            subst v0
            intro v1 h1
            replace h1 := h1 (by kernel_rfl)
            change _ = _ at h1
            subst v1
            intro v2 h2
            replace h2 := h2 (by kernel_rfl)
            change _ = _ at h2
            subst v2
            intro v3 h3
            replace h3 := h3 (by kernel_rfl)
            change _ = _ at h3
            subst v3
            intro v4 h4
            replace h4 := h4 (by kernel_rfl)
            change _ = _ at h4
            subst v4
            intro v5 h5
            replace h5 := h5 (by kernel_rfl)
            change _ = _ at h5
            subst v5
            intro v6 h6
            replace h6 := h6 (by kernel_rfl)
            change _ = _ at h6
            subst v6
            intro v7 h7
            replace h7 := h7 (by kernel_rfl)
            change _ = _ at h7
            subst v7
            intro v8 h8
            replace h8 := h8 (by kernel_rfl)
            change _ = _ at h8
            subst v8
            intro v9 h9
            replace h9 := h9 (by kernel_rfl)
            change _ = _ at h9
            subst v9
            intro v10 h10
            replace h10 := h10 (by kernel_rfl)
            change _ = _ at h10
            subst v10
            intro v11 h11
            replace h11 := h11 (by kernel_rfl)
            change _ = _ at h11
            subst v11
            intro v12 h12
            replace h12 := h12 (by kernel_rfl)
            change _ = _ at h12
            subst v12
            intro v13 h13
            replace h13 := h13 (by kernel_rfl)
            change _ = _ at h13
            subst v13
            intro v14 h14
            replace h14 := h14 (by kernel_rfl)
            change _ = _ at h14
            subst v14
            intro v15 h15
            replace h15 := h15 (by kernel_rfl)
            change _ = _ at h15
            subst v15
            intro v16 h16
            replace h16 := h16 (by kernel_rfl)
            change _ = _ at h16
            subst v16
            intro v17 h17
            replace h17 := h17 (by kernel_rfl)
            change _ = _ at h17
            subst v17
            intro v18 h18
            replace h18 := h18 (by kernel_rfl)
            change _ = _ at h18
            subst v18
            intro v19 _
            intro v20 _
            intro v21 h21
            replace h21 := h21 (by kernel_rfl)
            obtain ⟨rfl, h21⟩ := h21
            intro v22 h22
            replace h22 := h22 (by kernel_rfl)
            change _ = _ at h22
            subst v22
            simp only [Given, gv2]
            obtain ⟨Q9, hr9, ht9⟩ := h21
            have R9_ := Lib.hid hr9
            have T9_ := Lib.hid (TK.out.trans ht9)
            clear hr9 ht9
            by_cases harm : s.armed = 1
            · have e8 : EE = 8 := by rw [← HEE.out]; unfold wr1E; rw [if_pos harm]
              have ES : Hid (ST = RES) := by show _ = _; rw [← HSTT.out, GC.out harm]; unfold wr1; rw [if_pos harm]
              have HAP : Hid (AP = ⟨RES, J, 8⟩) := by show _ = _; rw [HA1.out, GC.out harm]; rfl
              subst e8
              clear harm
              go_wp2_with fail
              go_ret2
              rw [HAP.out]
              refine ⟨?_, Q9, by rw [← ES.out]; exact R9_.out, T9_.out⟩
              rfl
            · have e8 : EE = 0 := by rw [← HEE.out]; unfold wr1E; rw [if_neg harm]
              have ES : Hid (ST = putS s si SS) := by show _ = _; rw [← HSTT.out]; unfold wr1; rw [if_neg harm]
              have GP2 := Lib.hid (GP.out harm)
              subst e8
              clear harm
              go_wp2_with fail
              go_roundw
              case rel =>
                exact ⟨k + 1, Q9, putS s si SS, by omega, by go_num, by rw [← ES.out]; exact R9_.out, T9_.out, ⟨SK.out.1, by show (s.pend ++ [_]).length = _; rw [List.length_append, SK.out.2.1]; rfl, by show s.writes + 1 = _; rw [SK.out.2.2]; omega⟩, GP2⟩
              case measure => simp [intOf] <;> omega
          · have HPR : Hid (RdAt .u8 wr (some ((⟨qb, qo, qs⟩ : Addr).add p)) (n - p) (c - p) PL) := HR0.out _ _ (by omega)
            clear hcm hn0 hp0 hp1
            go_wp2_with (first | (go_at_call 35; refine (HROOM.out _ rfl).mono ?_; rintro e w2 ⟨rfl, rfl⟩))
            refine (put_any none 0 0 [] J.h.next 8 wr (RdAt.nil _ _) (by omega) hnx0.1 hnx0.2 (by omega) (by omega)).mono ?_
            rintro e w3 ⟨v3, rfl, ho3, hb3⟩
            rw [hhB] at hb3 ho3
            obtain ⟨a3, c3, rfl⟩ := ho3.shapeN 8 (by rw [List.length_append, putL_len]; rfl)
            have O3 := Lib.hid ho3
            have B3 := Lib.hid hb3
            have hl3 : hB ≤ w3.heap.size := by have := hb3.size; omega
            clear ho3 hb3
            go_wp2_with fail
            refine (put_any a3 8 c3 _ k 2 w3 O3.out.rd (by omega) (by omega) (by omega) (by omega) (by omega)).mono ?_
            rintro e w4 ⟨v4, rfl, ho4, hb4⟩
            obtain ⟨a4, c4, rfl⟩ := ho4.shapeN 10 (by rw [List.length_append, List.length_append, putL_len, putL_len]; rfl)
            have O4 := Lib.hid (ho4.mono hl3)
            have B4 := Lib.hid (B3.out.trans (hb4.mono hl3))
            have hl4 : hB ≤ w4.heap.size := Nat.le_trans hl3 hb4.size
            clear ho4 hb4
            go_wp2_with fail
            refine (put_any a4 10 c4 _ n 4 w4 O4.out.rd (by omega) (by omega) (by omega) (by omega) (by omega)).mono ?_
            rintro e w5 ⟨v5, rfl, ho5, hb5⟩
            obtain ⟨a10, c10, rfl⟩ := ho5.shapeN 14 (by rw [List.length_append, List.length_append, List.length_append, putL_len, putL_len, putL_len]; rfl)
            have OX : Hid (Owns .u8 5 w5 hB (.slice a10 14 c10) XL) := by
              show Owns _ _ _ _ _ _
              have h := ho5.mono hl4
              rw [List.nil_append, show putN 8 = 8 from rfl, show putN 2 = 2 from rfl, show putN 4 = 4 from rfl, HXX.out] at h
              exact h
            have B5 := Lib.hid (B4.out.trans (hb5.mono hl4))
            have hl5 : hB ≤ w5.heap.size := Nat.le_trans hl4 hb5.size
            have ROW5 := Lib.hid ((B5.out.block r hrl).trans ROW1.out)
            have HPR5 := Lib.hid (HPR.out.below (w' := w5) (by rw [hhB]; exact B5.out))
            clear ho5 hb5 y0 y1 y2 y3 y4 y5 y6 y7 y8 yf
            go_wp2_with fail
            refine' reg_kill [(20, 19), (21, 19), (21, 20)] [eqV _, eqV _, eqV _, eqV _, eqV _, eqV _, eqV _, eqV _, eqV _, eqV _, eqV _, eqV _, eqV _, eqV _, eqV _, eqV _, eqV _, eqV _, eqV _, fun v w => Owns .u8 5 w hB v (XL ++ PL) ∧ hB ≤ w.heap.size, fun v w => ∃ a n c, v = Value.slice a n c ∧ Owns .u8 5 w hB (Value.slice a n c) SS, fun v w => v = Value.int .i64 EE ∧ ∃ Q', RiIn w Q' r d ST J ∧ Tnd Q1 Q' wr w, eqV _] [(19, fun w w' => Below hB w w'), (20, fun w w' => Below hB w w'), (21, fun w w' => True)] [(3, fun w => w.heap[r]? = some (rowJ d sv1 J)), (7, fun w => w.heap[r]? = some (rowJ d sv1 J)), (13, fun w => w.heap[r]? = some (rowJ d sv1 J)), (19, fun w => Owns .u8 5 w hB (.slice a10 14 c10) XL ∧ RdAt .u8 w (some ((⟨qb, qo, qs⟩ : Addr).add p)) (n - p) (c - p) PL ∧ hB ≤ w.heap.size), (20, fun w => w.heap[r]? = some (rowJ d sv1 J) ∧ hB ≤ w.heap.size), (21, fun w => Below hB wr w ∧ hB ≤ w.heap.size)] [65, 66, 67, 68, 69, 70, 71, 72, 73, 74, 75, 76, 77, 78, 79, 80, 81, 82, 83, 84, 85, 86, 11] [[], [0], [1], [2], [], [4], [5], [6], [7], [], [], [9, 10], [], [12], [11, 13], [8, 14], [], [], [], [17, 18], [16, 19], [3, 15, 20], [21]] [0, 1, 2, 3, 4, 5, 6, 7, 8, 9, 10, 11, 12, 13, 14, 15, 16, 17, 18, 19, 20, 21, 22] 23 (by kernel_rfl) (by kernel_rfl) ⟨eqV_stays _, eqV_stays _, eqV_stays _, eqV_stays _, eqV_stays _, eqV_stays _, eqV_stays _, eqV_stays _, eqV_stays _, eqV_stays _, eqV_stays _, eqV_stays _, eqV_stays _, eqV_stays _, eqV_stays _, eqV_stays _, eqV_stays _, eqV_stays _, eqV_stays _, fun _ _ _ p b => ⟨p.1.below b, Nat.le_trans p.2 b.size⟩, fun _ _ _ p b => p.elim fun a q => q.elim fun n q => q.elim fun c q => ⟨a, n, c, q.1, q.2.below b⟩, fun _ _ _ p b => ⟨p.1, p.2.elim fun Q' q => ⟨Q', q.1.below b, q.2.below_r b⟩⟩, eqV_stays _, trivial⟩ ⟨⟨.inl (eqV_stays _), .inl (eqV_stays _), .inl (eqV_stays _), .inl (eqV_stays _), .inl (eqV_stays _), .inl (eqV_stays _), .inl (eqV_stays _), .inl (eqV_stays _), .inl (eqV_stays _), .inl (eqV_stays _), .inl (eqV_stays _), .inl (eqV_stays _), .inl (eqV_stays _), .inl (eqV_stays _), .inl (eqV_stays _), .inl (eqV_stays _), .inl (eqV_stays _), .inl (eqV_stays _), .inl (eqV_stays _), .inr (.inr (.inl rfl)), .inr (.inl (by kernel_rfl)), .inr (.inl (by kernel_rfl)), .inl (eqV_stays _), trivial⟩, ⟨.inl (eqV_stays _), .inl (eqV_stays _), .inl (eqV_stays _), .inl (eqV_stays _), .inl (eqV_stays _), .inl (eqV_stays _), .inl (eqV_stays _), .inl (eqV_stays _), .inl (eqV_stays _), .inl (eqV_stays _), .inl (eqV_stays _), .inl (eqV_stays _), .inl (eqV_stays _), .inl (eqV_stays _), .inl (eqV_stays _), .inl (eqV_stays _), .inl (eqV_stays _), .inl (eqV_stays _), .inl (eqV_stays _), .inr (.inr (.inr (by kernel_rfl))), .inr (.inr (.inl rfl)), .inr (.inl (by kernel_rfl)), .inl (eqV_stays _), trivial⟩, ⟨.inl (eqV_stays _), .inl (eqV_stays _), .inl (eqV_stays _), .inl (eqV_stays _), .inl (eqV_stays _), .inl (eqV_stays _), .inl (eqV_stays _), .inl (eqV_stays _), .inl (eqV_stays _), .inl (eqV_stays _), .inl (eqV_stays _), .inl (eqV_stays _), .inl (eqV_stays _), .inl (eqV_stays _), .inl (eqV_stays _), .inl (eqV_stays _), .inl (eqV_stays _), .inl (eqV_stays _), .inl (eqV_stays _), .inr (.inr (.inr (by kernel_rfl))), .inr (.inr (.inr (by kernel_rfl))), .inr (.inr (.inl rfl)), .inl (eqV_stays _), trivial⟩, trivial⟩ ⟨fun _ _ p b => row_keep p b, fun _ _ p b => row_keep p b, fun _ _ p b => row_keep p b, fun _ _ p b => ⟨p.1.below b, p.2.1.below b, Nat.le_trans p.2.2 b.size⟩, fun _ _ p b => ⟨row_keep p.1 b, Nat.le_trans p.2 b.size⟩, fun _ _ p b => ⟨p.1.trans (b.mono p.2), Nat.le_trans p.2 b.size⟩, trivial⟩ ⟨⟨.inl (fun _ _ p g => (g.block r hrl).trans p), .inl (fun _ _ p g => (g.block r hrl).trans p), .inr (.inl (by kernel_rfl)), .inr (.inr rfl), .inl (fun _ _ p g => ⟨(g.block r hrl).trans p.1, Nat.le_trans p.2 g.size⟩), .inl (fun _ _ p g => ⟨p.1.trans g, Nat.le_trans p.2 g.size⟩), trivial⟩, ⟨.inl (fun _ _ p g => (g.block r hrl).trans p), .inl (fun _ _ p g => (g.block r hrl).trans p), .inr (.inl (by kernel_rfl)), .inr (.inl (by kernel_rfl)), .inr (.inr rfl), .inl (fun _ _ p g => ⟨p.1.trans g, Nat.le_trans p.2 g.size⟩), trivial⟩, ⟨.inr (.inl (by kernel_rfl)), .inr (.inl (by kernel_rfl)), .inr (.inl (by kernel_rfl)), .inr (.inl (by kernel_rfl)), .inr (.inl (by kernel_rfl)), .inr (.inr rfl), trivial⟩, trivial⟩ ⟨ROW5.out, ROW5.out, ROW5.out, ⟨OX.out.drew, HPR5.out.drewA, hl5⟩, ⟨ROW5.out, hl5⟩, ⟨below_drew B5.out, hl5⟩, trivial⟩ 128 rfl (by kernel_rfl) (by kernel_rfl) rfl rfl 23 rfl ?q4obl ?q4fin
            case q4obl =>
              refine And.intro ?q4o0 (And.intro ?q4o1 (And.intro ?q4o2 (And.intro ?q4o3 (And.intro ?q4o4 (And.intro ?q4o5 (And.intro ?q4o6 (And.intro ?q4o7 (And.intro ?q4o8 (And.intro ?q4o9 (And.intro ?q4o10 (And.intro ?q4o11 (And.intro ?q4o12 (And.intro ?q4o13 (And.intro ?q4o14 (And.intro ?q4o15 (And.intro ?q4o16 (And.intro ?q4o17 (And.intro ?q4o18 (And.intro ?q4o19 (And.intro ?q4o20 (And.intro ?q4o21 (And.intro ?q4o22 (True.intro)))))))))))))))))))))))
              case q4o0 =>
                intro w1 hI
                refine turn2_on (by rfl) ?_
                intro K hK
                go_simp
                refine hK _ _ ⟨rfl, Kept.refl _, ?_⟩
                show _ = _
                simp only [gv1]
                rfl
              case q4o1 =>
                intro w1 hI
                intro v0 h0
                change _ = _ at h0
                subst v0
                refine turn2_on (by rfl) ?_
                intro K hK
                simp only [gv2]
                go_simp
                refine hK _ _ ⟨rfl, Kept.refl _, ?_⟩
                show _ = _
                simp only [gv1]
                rfl
              case q4o2 =>
                intro w1 hI
                intro v1 h1
                change _ = _ at h1
                subst v1
                refine turn2_on (by rfl) ?_
                intro K hK
                simp only [gv2]
                go_simp
                refine hK _ _ ⟨rfl, Kept.refl _, ?_⟩
                show _ = _
                simp only [gv1]
                rfl
              case q4o3 =>
                intro w1 hI
                replace hI : (fun w => w.heap[r]? = some (rowJ d sv1 J)) w1 := hI
                intro v2 h2
                change _ = _ at h2
                subst v2
                refine turn2_on (by rfl) ?_
                intro K hK
                simp only [gv2]
                obtain ⟨y0, y1, y2, y3, y4, y5, y6, y7, y8, yf⟩ := cellsJ hI
                clear hI
                go_simp
                refine hK _ _ ⟨rfl, Kept.refl _, ?_⟩
                show _ = _
                simp only [gv1]
                rfl
              case q4o4 =>
                intro w1 hI
                refine turn2_on (by rfl) ?_
                intro K hK
                go_simp
                refine hK _ _ ⟨rfl, Kept.refl _, ?_⟩
                show _ = _
                simp only [gv1]
                rfl
              case q4o5 =>
                intro w1 hI
                intro v4 h4
                change _ = _ at h4
                subst v4
                refine turn2_on (by rfl) ?_
                intro K hK
                simp only [gv2]
                go_simp
                refine hK _ _ ⟨rfl, Kept.refl _, ?_⟩
                show _ = _
                simp only [gv1]
                rfl
              case q4o6 =>
                intro w1 hI
                intro v5 h5
                change _ = _ at h5
                subst v5
                refine turn2_on (by rfl) ?_
                intro K hK
                simp only [gv2]
                go_simp
                refine hK _ _ ⟨rfl, Kept.refl _, ?_⟩
                show _ = _
                simp only [gv1]
                rfl
              case q4o7 =>
                intro w1 hI
                replace hI : (fun w => w.heap[r]? = some (rowJ d sv1 J)) w1 := hI
                intro v6 h6
                change _ = _ at h6
                subst v6
                refine turn2_on (by rfl) ?_
                intro K hK
                simp only [gv2]
                obtain ⟨y0, y1, y2, y3, y4, y5, y6, y7, y8, yf⟩ := cellsJ hI
                clear hI
                go_simp
                refine hK _ _ ⟨rfl, Kept.refl _, ?_⟩
                show _ = _
                simp only [gv1]
                rfl
              case q4o8 =>
                intro w1 hI
                intro v7 h7
                change _ = _ at h7
                subst v7
                refine turn2_on (by rfl) ?_
                intro K hK
                simp only [gv2]
                go_simp
                refine hK _ _ ⟨rfl, Kept.refl _, ?_⟩
                show _ = _
                simp only [gv1]
                rfl
              case q4o9 =>
                intro w1 hI
                refine turn2_on (by rfl) ?_
                intro K hK
                go_simp
                refine hK _ _ ⟨rfl, Kept.refl _, ?_⟩
                show _ = _
                simp only [gv1]
                rfl
              case q4o10 =>
                intro w1 hI
                refine turn2_on (by rfl) ?_
                intro K hK
                go_simp
                refine hK _ _ ⟨rfl, Kept.refl _, ?_⟩
                show _ = _
                simp only [gv1]
                rfl
              case q4o11 =>
                intro w1 hI
                intro v9 h9
                change _ = _ at h9
                subst v9
                intro v10 h10
                change _ = _ at h10
                subst v10
                refine turn2_on (by rfl) ?_
                intro K hK
                simp only [gv2]
                go_simp
                refine hK _ _ ⟨rfl, Kept.refl _, ?_⟩
                show _ = _
                simp only [gv1]
                rfl
              case q4o12 =>
                intro w1 hI
                refine turn2_on (by rfl) ?_
                intro K hK
                go_simp
                refine hK _ _ ⟨rfl, Kept.refl _, ?_⟩
                show _ = _
                simp only [gv1]
                rfl
              case q4o13 =>
                intro w1 hI
                replace hI : (fun w => w.heap[r]? = some (rowJ d sv1 J)) w1 := hI
                intro v12 h12
                change _ = _ at h12
                subst v12
                refine turn2_on (by rfl) ?_
                intro K hK
                simp only [gv2]
                go_simp
                refine Calls.mono (area_any r d sv1 J w1 hI OK.out) ?_
                rintro e w2 ⟨rfl, rfl⟩
                refine hK _ _ ⟨rfl, Kept.refl _, ?_⟩
                show _ = _
                simp only [gv1]
                rfl
              case q4o14 =>
                intro w1 hI
                intro v11 h11
                change _ = _ at h11
                subst v11
                intro v13 h13
                change _ = _ at h13
                subst v13
                refine turn2_on (by rfl) ?_
                intro K hK
                simp only [gv2]
                go_simp
                refine hK _ _ ⟨rfl, Kept.refl _, ?_⟩
                show _ = _
                simp only [gv1]
                rfl
              case q4o15 =>
                intro w1 hI
                intro v8 h8
                change _ = _ at h8
                subst v8
                intro v14 h14
                change _ = _ at h14
                subst v14
                refine turn2_on (by rfl) ?_
                intro K hK
                simp only [gv2]
                go_simp
                refine hK _ _ ⟨rfl, Kept.refl _, ?_⟩
                show _ = _
                simp only [gv1]
                rfl
              case q4o16 =>
                intro w1 hI
                refine turn2_on (by rfl) ?_
                intro K hK
                go_simp
                refine hK _ _ ⟨rfl, Kept.refl _, ?_⟩
                show _ = _
                simp only [gv1]
                rfl
              case q4o17 =>
                intro w1 hI
                refine turn2_on (by rfl) ?_
                intro K hK
                go_simp
                refine hK _ _ ⟨rfl, Kept.refl _, ?_⟩
                show _ = _
                simp only [gv1]
                rfl
              case q4o18 =>
                intro w1 hI
                refine turn2_on (by rfl) ?_
                intro K hK
                go_simp
                refine hK _ _ ⟨rfl, Kept.refl _, ?_⟩
                show _ = _
                simp only [gv1]
                rfl
              case q4o19 =>
                intro w1 hI
                replace hI : (fun w => Owns .u8 5 w hB (.slice a10 14 c10) XL ∧ RdAt .u8 w (some ((⟨qb, qo, qs⟩ : Addr).add p)) (n - p) (c - p) PL ∧ hB ≤ w.heap.size) w1 := hI
                intro v17 h17
                change _ = _ at h17
                subst v17
                intro v18 h18
                change _ = _ at h18
                subst v18
                refine turn2_on (by rfl) ?_
                intro K hK
                simp only [gv2]
                obtain ⟨i1, i2, i3⟩ := hI
                refine wp_app_all 84 rfl u8TR u8IR (by decide) (.tmp 82) (.tmp 83) rfl _ hB (.slice a10 14 c10) XL rfl i1 _ _ _ _ rfl i2 (by rw [HXL.out]; omega) i3 ?_
                intro v2 w2 ho2 hg2
                refine hK _ _ ⟨rfl, hg2.below i3 (fun g hg => (i1.at_base g hg).1), ?_⟩
                show Owns _ _ _ _ _ _ ∧ _ ≤ _
                simp only [gv1]
                exact ⟨ho2, Nat.le_trans i3 hg2.1.size⟩
              case q4o20 =>
                intro w1 hI
                replace hI : (fun w => w.heap[r]? = some (rowJ d sv1 J) ∧ hB ≤ w.heap.size) w1 := hI
                intro v16 h16
                change _ = _ at h16
                subst v16
                intro v19 h19
                obtain ⟨h19, h19s⟩ := h19
                refine turn2_on (by rfl) ?_
                intro K hK
                simp only [gv2]
                obtain ⟨i1, i2⟩ := hI
                go_simp
                refine Calls.mono (sector_any r d sv1 J w1 i1 OK.out hB _ _ h19 i2 HSZ.out) ?_
                rintro e w2 ⟨v2, rfl, ho2, hb2⟩
                rw [HSS.out] at ho2
                obtain ⟨a2, c2, rfl⟩ := ho2.shape
                refine hK _ _ ⟨rfl, hb2, ?_⟩
                show ∃ a n c, _ = Value.slice a n c ∧ Owns .u8 5 w2 hB (Value.slice a n c) SS
                simp only [gv1]
                exact ⟨_, _, _, rfl, ho2.mono i2⟩
              case q4o21 =>
                intro w1 hI
                replace hI : (fun w => Below hB wr w ∧ hB ≤ w.heap.size) w1 := hI
                intro v3 h3
                change _ = _ at h3
                subst v3
                intro v15 h15
                change _ = _ at h15
                subst v15
                intro v20 h20
                obtain ⟨a20, n20, c20, rfl, h20⟩ := h20
                refine turn2_on (by rfl) ?_
                intro K hK
                simp only [gv2]
                go_simp
                rw [HS1.out]
                refine Calls.mono (HWR.out w1 _ _ _ hI.1 h20) ?_
                rintro e w2 ⟨rfl, h2⟩
                refine hK _ _ ⟨rfl, trivial, ?_⟩
                show _ = Value.int .i64 EE ∧ ∃ Q', RiIn w2 Q' r d ST J ∧ Tnd Q1 Q' wr w2
                simp only [gv1]
                exact ⟨trivial, h2⟩
              case q4o22 =>
                intro w1 hI
                intro v21 h21
                obtain ⟨rfl, h21⟩ := h21
                refine turn2_on (by rfl) ?_
                intro K hK
                simp only [gv2]
                go_simp
                refine hK _ _ ⟨rfl, Kept.refl _, ?_⟩
                show _ = _
                simp only [gv1]
                rfl
            intro w9 hI
            intro v0 h0
            replace h0 := h0 (by kernel_rfl)
            change _ = _ at h0
            subst v0
            intro v1 h1
            replace h1 := h1 (by kernel_rfl)
            change _ = _ at h1
            subst v1
            intro v2 h2
            replace h2 := h2 (by kernel_rfl)
            change _ = _ at h2
            subst v2
            intro v3 h3
            replace h3 := h3 (by kernel_rfl)
            change _ = _ at h3
            subst v3
            intro v4 h4
            replace h4 := h4 (by kernel_rfl)
            change _ = _ at h4
            subst v4
            intro v5 h5
            replace h5 := h5 (by kernel_rfl)
            change _ = _ at h5
            subst v5
            intro v6 h6
            replace h6 := h6 (by kernel_rfl)
            change _ = _ at h6
            subst v6
            intro v7 h7
            replace h7 := h7 (by kernel_rfl)
            change _ = _ at h7
            subst v7
            intro v8 h8
            replace h8 := h8 (by kernel_rfl)
            change _ = _ at h8
            subst v8
            intro v9 h9
            replace h9 := h9 (by kernel_rfl)
            change _ = _ at h9
            subst v9
            intro v10 h10
            replace h10 := h10 (by kernel_rfl)
            change _ = _ at h10
            subst v10
            intro v11 h11
            replace h11 := h11 (by kernel_rfl)
            change _ = _ at h11
            subst v11
            intro v12 h12
            replace h12 := h12 (by kernel_rfl)
            change _ = _ at h12
            subst v12
            intro v13 h13
            replace h13 := h13 (by kernel_rfl)
            change _ = _ at h13
            subst v13
            intro v14 h14
            replace h14 := h14 (by kernel_rfl)
            change _ = _ at h14
            subst v14
            intro v15 h15
            replace h15 := h15 (by kernel_rfl)
            change _ = _ at h15
            subst v15
            intro v16 h16
            replace h16 := h16 (by kernel_rfl)
            change _ = _ at h16
            subst v16
            intro v17 h17
            replace h17 := h17 (by kernel_rfl)
            change _ = _ at h17
            subst v17
            intro v18 h18
            replace h18 := h18 (by kernel_rfl)
            change _ = _ at h18
            subst v18
            intro v19 _
            intro v20 _
            intro v21 h21
            replace h21 := h21 (by kernel_rfl)
            obtain ⟨rfl, h21⟩ := h21
            intro v22 h22
            replace h22 := h22 (by kernel_rfl)
            change _ = _ at h22
            subst v22
            simp only [Given, gv2]
            obtain ⟨Q9, hr9, ht9⟩ := h21
            have R9_ := Lib.hid hr9
            have T9_ := Lib.hid (TK.out.trans ht9)
            clear hr9 ht9
            by_cases harm : s.armed = 1
            · have e8 : EE = 8 := by rw [← HEE.out]; unfold wr1E; rw [if_pos harm]
              have ES : Hid (ST = RES) := by show _ = _; rw [← HSTT.out, GC.out harm]; unfold wr1; rw [if_pos harm]
              have HAP : Hid (AP = ⟨RES, J, 8⟩) := by show _ = _; rw [HA1.out, GC.out harm]; rfl
              subst e8
              clear harm
              go_wp2_with fail
              go_ret2
              rw [HAP.out]
              refine ⟨?_, Q9, by rw [← ES.out]; exact R9_.out, T9_.out⟩
              rfl
            · have e8 : EE = 0 := by rw [← HEE.out]; unfold wr1E; rw [if_neg harm]
              have ES : Hid (ST = putS s si SS) := by show _ = _; rw [← HSTT.out]; unfold wr1; rw [if_neg harm]
              have GP2 := Lib.hid (GP.out harm)
              subst e8
              clear harm
              go_wp2_with fail
              go_roundw
              case rel =>
                exact ⟨k + 1, Q9, putS s si SS, by omega, by go_num, by rw [← ES.out]; exact R9_.out, T9_.out, ⟨SK.out.1, by show (s.pend ++ [_]).length = _; rw [List.length_append, SK.out.2.1]; rfl, by show s.writes + 1 = _; rw [SK.out.2.2]; omega⟩, GP2⟩
              case measure => simp [intOf] <;> omega
      · obtain ⟨qb, qo, rfl⟩ : ∃ qb qo, a = some ⟨qb, qo, none⟩ := by
          obtain ⟨b, o, e, _⟩ := HLW.out.cell 0 (by omega)
          exact ⟨b, o, e⟩
        have hcap := HLW.out.cap
        have hp5 : p < n := hp1.2 hn0
        have hp6 : c ≠ p := by omega
        clear hp1
        by_cases hlt : p + R ≤ n
        · have hmn : (p : Int) + (R : Int) ≤ (n : Int) := by omega
          have HPR : Hid (RdAt .u8 wr (some ⟨qb, qo + p, none⟩) R (c - p) PL) := by
            show RdAt _ _ _ _ _ _
            have h := rd_slice HLW.out p (p + R) (by omega) hlt
            rw [HPRf.out, Nat.min_eq_left (show p ≤ n by omega), Nat.min_eq_left hlt, Nat.add_sub_cancel_left]
            rw [Nat.add_sub_cancel_left] at h
            exact h
          go_wp2_with (first | (go_at_call 35; refine (HROOM.out _ rfl).mono ?_; rintro e w2 ⟨rfl, rfl⟩))
          refine (put_any none 0 0 [] J.h.next 8 wr (RdAt.nil _ _) (by omega) hnx0.1 hnx0.2 (by omega) (by omega)).mono ?_
          rintro e w3 ⟨v3, rfl, ho3, hb3⟩
          rw [hhB] at hb3 ho3
          obtain ⟨a3, c3, rfl⟩ := ho3.shapeN 8 (by rw [List.length_append, putL_len]; rfl)
          have O3 := Lib.hid ho3
          have B3 := Lib.hid hb3
          have hl3 : hB ≤ w3.heap.size := by have := hb3.size; omega
          clear ho3 hb3
          go_wp2_with fail
          refine (put_any a3 8 c3 _ k 2 w3 O3.out.rd (by omega) (by omega) (by omega) (by omega) (by omega)).mono ?_
          rintro e w4 ⟨v4, rfl, ho4, hb4⟩
          obtain ⟨a4, c4, rfl⟩ := ho4.shapeN 10 (by rw [List.length_append, List.length_append, putL_len, putL_len]; rfl)
          have O4 := Lib.hid (ho4.mono hl3)
          have B4 := Lib.hid (B3.out.trans (hb4.mono hl3))
          have hl4 : hB ≤ w4.heap.size := Nat.le_trans hl3 hb4.size
          clear ho4 hb4
          go_wp2_with fail
          refine (put_any a4 10 c4 _ n 4 w4 O4.out.rd (by omega) (by omega) (by omega) (by omega) (by omega)).mono ?_
          rintro e w5 ⟨v5, rfl, ho5, hb5⟩
          obtain ⟨a10, c10, rfl⟩ := ho5.shapeN 14 (by rw [List.length_append, List.length_append, List.length_append, putL_len, putL_len, putL_len]; rfl)
          have OX : Hid (Owns .u8 5 w5 hB (.slice a10 14 c10) XL) := by
            show Owns _ _ _ _ _ _
            have h := ho5.mono hl4
            rw [List.nil_append, show putN 8 = 8 from rfl, show putN 2 = 2 from rfl, show putN 4 = 4 from rfl, HXX.out] at h
            exact h
          have B5 := Lib.hid (B4.out.trans (hb5.mono hl4))
          have hl5 : hB ≤ w5.heap.size := Nat.le_trans hl4 hb5.size
          have ROW5 := Lib.hid ((B5.out.block r hrl).trans ROW1.out)
          have HPR5 := Lib.hid (HPR.out.below (w' := w5) (by rw [hhB]; exact B5.out))
          clear ho5 hb5 y0 y1 y2 y3 y4 y5 y6 y7 y8 yf
          go_wp2_with fail
          refine' reg_kill [(20, 19), (21, 19), (21, 20)] [eqV _, eqV _, eqV _, eqV _, eqV _, eqV _, eqV _, eqV _, eqV _, eqV _, eqV _, eqV _, eqV _, eqV _, eqV _, eqV _, eqV _, eqV _, eqV _, fun v w => Owns .u8 5 w hB v (XL ++ PL) ∧ hB ≤ w.heap.size, fun v w => ∃ a n c, v = Value.slice a n c ∧ Owns .u8 5 w hB (Value.slice a n c) SS, fun v w => v = Value.int .i64 EE ∧ ∃ Q', RiIn w Q' r d ST J ∧ Tnd Q1 Q' wr w, eqV _] [(19, fun w w' => Below hB w w'), (20, fun w w' => Below hB w w'), (21, fun w w' => True)] [(3, fun w => w.heap[r]? = some (rowJ d sv1 J)), (7, fun w => w.heap[r]? = some (rowJ d sv1 J)), (13, fun w => w.heap[r]? = some (rowJ d sv1 J)), (19, fun w => Owns .u8 5 w hB (.slice a10 14 c10) XL ∧ RdAt .u8 w (some ⟨qb, qo + p, none⟩) R (c - p) PL ∧ hB ≤ w.heap.size), (20, fun w => w.heap[r]? = some (rowJ d sv1 J) ∧ hB ≤ w.heap.size), (21, fun w => Below hB wr w ∧ hB ≤ w.heap.size)] [65, 66, 67, 68, 69, 70, 71, 72, 73, 74, 75, 76, 77, 78, 79, 80, 81, 82, 83, 84, 85, 86, 11] [[], [0], [1], [2], [], [4], [5], [6], [7], [], [], [9, 10], [], [12], [11, 13], [8, 14], [], [], [], [17, 18], [16, 19], [3, 15, 20], [21]] [0, 1, 2, 3, 4, 5, 6, 7, 8, 9, 10, 11, 12, 13, 14, 15, 16, 17, 18, 19, 20, 21, 22] 23 (by kernel_rfl) (by kernel_rfl) ⟨eqV_stays _, eqV_stays _, eqV_stays _, eqV_stays _, eqV_stays _, eqV_stays _, eqV_stays _, eqV_stays _, eqV_stays _, eqV_stays _, eqV_stays _, eqV_stays _, eqV_stays _, eqV_stays _, eqV_stays _, eqV_stays _, eqV_stays _, eqV_stays _, eqV_stays _, fun _ _ _ p b => ⟨p.1.below b, Nat.le_trans p.2 b.size⟩, fun _ _ _ p b => p.elim fun a q => q.elim fun n q => q.elim fun c q => ⟨a, n, c, q.1, q.2.below b⟩, fun _ _ _ p b => ⟨p.1, p.2.elim fun Q' q => ⟨Q', q.1.below b, q.2.below_r b⟩⟩, eqV_stays _, trivial⟩ ⟨⟨.inl (eqV_stays _), .inl (eqV_stays _), .inl (eqV_stays _), .inl (eqV_stays _), .inl (eqV_stays _), .inl (eqV_stays _), .inl (eqV_stays _), .inl (eqV_stays _), .inl (eqV_stays _), .inl (eqV_stays _), .inl (eqV_stays _), .inl (eqV_stays _), .inl (eqV_stays _), .inl (eqV_stays _), .inl (eqV_stays _), .inl (eqV_stays _), .inl (eqV_stays _), .inl (eqV_stays _), .inl (eqV_stays _), .inr (.inr (.inl rfl)), .inr (.inl (by kernel_rfl)), .inr (.inl (by kernel_rfl)), .inl (eqV_stays _), trivial⟩, ⟨.inl (eqV_stays _), .inl (eqV_stays _), .inl (eqV_stays _), .inl (eqV_stays _), .inl (eqV_stays _), .inl (eqV_stays _), .inl (eqV_stays _), .inl (eqV_stays _), .inl (eqV_stays _), .inl (eqV_stays _), .inl (eqV_stays _), .inl (eqV_stays _), .inl (eqV_stays _), .inl (eqV_stays _), .inl (eqV_stays _), .inl (eqV_stays _), .inl (eqV_stays _), .inl (eqV_stays _), .inl (eqV_stays _), .inr (.inr (.inr (by kernel_rfl))), .inr (.inr (.inl rfl)), .inr (.inl (by kernel_rfl)), .inl (eqV_stays _), trivial⟩, ⟨.inl (eqV_stays _), .inl (eqV_stays _), .inl (eqV_stays _), .inl (eqV_stays _), .inl (eqV_stays _), .inl (eqV_stays _), .inl (eqV_stays _), .inl (eqV_stays _), .inl (eqV_stays _), .inl (eqV_stays _), .inl (eqV_stays _), .inl (eqV_stays _), .inl (eqV_stays _), .inl (eqV_stays _), .inl (eqV_stays _), .inl (eqV_stays _), .inl (eqV_stays _), .inl (eqV_stays _), .inl (eqV_stays _), .inr (.inr (.inr (by kernel_rfl))), .inr (.inr (.inr (by kernel_rfl))), .inr (.inr (.inl rfl)), .inl (eqV_stays _), trivial⟩, trivial⟩ ⟨fun _ _ p b => row_keep p b, fun _ _ p b => row_keep p b, fun _ _ p b => row_keep p b, fun _ _ p b => ⟨p.1.below b, p.2.1.below b, Nat.le_trans p.2.2 b.size⟩, fun _ _ p b => ⟨row_keep p.1 b, Nat.le_trans p.2 b.size⟩, fun _ _ p b => ⟨p.1.trans (b.mono p.2), Nat.le_trans p.2 b.size⟩, trivial⟩ ⟨⟨.inl (fun _ _ p g => (g.block r hrl).trans p), .inl (fun _ _ p g => (g.block r hrl).trans p), .inr (.inl (by kernel_rfl)), .inr (.inr rfl), .inl (fun _ _ p g => ⟨(g.block r hrl).trans p.1, Nat.le_trans p.2 g.size⟩), .inl (fun _ _ p g => ⟨p.1.trans g, Nat.le_trans p.2 g.size⟩), trivial⟩, ⟨.inl (fun _ _ p g => (g.block r hrl).trans p), .inl (fun _ _ p g => (g.block r hrl).trans p), .inr (.inl (by kernel_rfl)), .inr (.inl (by kernel_rfl)), .inr (.inr rfl), .inl (fun _ _ p g => ⟨p.1.trans g, Nat.le_trans p.2 g.size⟩), trivial⟩, ⟨.inr (.inl (by kernel_rfl)), .inr (.inl (by kernel_rfl)), .inr (.inl (by kernel_rfl)), .inr (.inl (by kernel_rfl)), .inr (.inl (by kernel_rfl)), .inr (.inr rfl), trivial⟩, trivial⟩ ⟨ROW5.out, ROW5.out, ROW5.out, ⟨OX.out.drew, HPR5.out.drewA, hl5⟩, ⟨ROW5.out, hl5⟩, ⟨below_drew B5.out, hl5⟩, trivial⟩ 128 rfl (by kernel_rfl) (by kernel_rfl) rfl rfl 23 rfl ?q5obl ?q5fin
          case q5obl =>
            refine And.intro ?q5o0 (And.intro ?q5o1 (And.intro ?q5o2 (And.intro ?q5o3 (And.intro ?q5o4 (And.intro ?q5o5 (And.intro ?q5o6 (And.intro ?q5o7 (And.intro ?q5o8 (And.intro ?q5o9 (And.intro ?q5o10 (And.intro ?q5o11 (And.intro ?q5o12 (And.intro ?q5o13 (And.intro ?q5o14 (And.intro ?q5o15 (And.intro ?q5o16 (And.intro ?q5o17 (And.intro ?q5o18 (And.intro ?q5o19 (And.intro ?q5o20 (And.intro ?q5o21 (And.intro ?q5o22 (True.intro)))))))))))))))))))))))
            case q5o0 =>
              intro w1 hI
              refine turn2_on (by rfl) ?_
              intro K hK
              go_simp
              refine hK _ _ ⟨rfl, Kept.refl _, ?_⟩
              show _ = _
              simp only [gv1]
              rfl
            case q5o1 =>
              intro w1 hI
              intro v0 h0
              change _ = _ at h0
              subst v0
              refine turn2_on (by rfl) ?_
              intro K hK
              simp only [gv2]
              go_simp
              refine hK _ _ ⟨rfl, Kept.refl _, ?_⟩
              show _ = _
              simp only [gv1]
              rfl
            case q5o2 =>
              intro w1 hI
              intro v1 h1
              change _ = _ at h1
              subst v1
              refine turn2_on (by rfl) ?_
              intro K hK
              simp only [gv2]
              go_simp
              refine hK _ _ ⟨rfl, Kept.refl _, ?_⟩
              show _ = _
              simp only [gv1]
              rfl
            case q5o3 =>
              intro w1 hI
              replace hI : (fun w => w.heap[r]? = some (rowJ d sv1 J)) w1 := hI
              intro v2 h2
              change _ = _ at h2
              subst v2
              refine turn2_on (by rfl) ?_
              intro K hK
              simp only [gv2]
              obtain ⟨y0, y1, y2, y3, y4, y5, y6, y7, y8, yf⟩ := cellsJ hI
              clear hI
              go_simp
              refine hK _ _ ⟨rfl, Kept.refl _, ?_⟩
              show _ = _
              simp only [gv1]
              rfl
            case q5o4 =>
              intro w1 hI
              refine turn2_on (by rfl) ?_
              intro K hK
              go_simp
              refine hK _ _ ⟨rfl, Kept.refl _, ?_⟩
              show _ = _
              simp only [gv1]
              rfl
            case q5o5 =>
              intro w1 hI
              intro v4 h4
              change _ = _ at h4
              subst v4
              refine turn2_on (by rfl) ?_
              intro K hK
              simp only [gv2]
              go_simp
              refine hK _ _ ⟨rfl, Kept.refl _, ?_⟩
              show _ = _
              simp only [gv1]
              rfl
            case q5o6 =>
              intro w1 hI
              intro v5 h5
              change _ = _ at h5
              subst v5
              refine turn2_on (by rfl) ?_
              intro K hK
              simp only [gv2]
              go_simp
              refine hK _ _ ⟨rfl, Kept.refl _, ?_⟩
              show _ = _
              simp only [gv1]
              rfl
            case q5o7 =>
              intro w1 hI
              replace hI : (fun w => w.heap[r]? = some (rowJ d sv1 J)) w1 := hI
              intro v6 h6
              change _ = _ at h6
              subst v6
              refine turn2_on (by rfl) ?_
              intro K hK
              simp only [gv2]
              obtain ⟨y0, y1, y2, y3, y4, y5, y6, y7, y8, yf⟩ := cellsJ hI
              clear hI
              go_simp
              refine hK _ _ ⟨rfl, Kept.refl _, ?_⟩
              show _ = _
              simp only [gv1]
              rfl
            case q5o8 =>
              intro w1 hI
              intro v7 h7
              change _ = _ at h7
              subst v7
              refine turn2_on (by rfl) ?_
              intro K hK
              simp only [gv2]
              go_simp
              refine hK _ _ ⟨rfl, Kept.refl _, ?_⟩
              show _ = _
              simp only [gv1]
              rfl
            case q5o9 =>
              intro w1 hI
              refine turn2_on (by rfl) ?_
              intro K hK
              go_simp
              refine hK _ _ ⟨rfl, Kept.refl _, ?_⟩
              show _ = _
              simp only [gv1]
              rfl
            case q5o10 =>
              intro w1 hI
              refine turn2_on (by rfl) ?_
              intro K hK
              go_simp
              refine hK _ _ ⟨rfl, Kept.refl _, ?_⟩
              show _ = _
              simp only [gv1]
              rfl
            case q5o11 =>
              intro w1 hI
              intro v9 h9
              change _ = _ at h9
              subst v9
              intro v10 h10
              change _ = _ at h10
              subst v10
              refine turn2_on (by rfl) ?_
              intro K hK
              simp only [gv2]
              go_simp
              refine hK _ _ ⟨rfl, Kept.refl _, ?_⟩
              show _ = _
              simp only [gv1]
              rfl
            case q5o12 =>
              intro w1 hI
              refine turn2_on (by rfl) ?_
              intro K hK
              go_simp
              refine hK _ _ ⟨rfl, Kept.refl _, ?_⟩
              show _ = _
              simp only [gv1]
              rfl
            case q5o13 =>
              intro w1 hI
              replace hI : (fun w => w.heap[r]? = some (rowJ d sv1 J)) w1 := hI
              intro v12 h12
              change _ = _ at h12
              subst v12
              refine turn2_on (by rfl) ?_
              intro K hK
              simp only [gv2]
              go_simp
              refine Calls.mono (area_any r d sv1 J w1 hI OK.out) ?_
              rintro e w2 ⟨rfl, rfl⟩
              refine hK _ _ ⟨rfl, Kept.refl _, ?_⟩
              show _ = _
              simp only [gv1]
              rfl
            case q5o14 =>
              intro w1 hI
              intro v11 h11
              change _ = _ at h11
              subst v11
              intro v13 h13
              change _ = _ at h13
              subst v13
              refine turn2_on (by rfl) ?_
              intro K hK
              simp only [gv2]
              go_simp
              refine hK _ _ ⟨rfl, Kept.refl _, ?_⟩
              show _ = _
              simp only [gv1]
              rfl
            case q5o15 =>
              intro w1 hI
              intro v8 h8
              change _ = _ at h8
              subst v8
              intro v14 h14
              change _ = _ at h14
              subst v14
              refine turn2_on (by rfl) ?_
              intro K hK
              simp only [gv2]
              go_simp
              refine hK _ _ ⟨rfl, Kept.refl _, ?_⟩
              show _ = _
              simp only [gv1]
              rfl
            case q5o16 =>
              intro w1 hI
              refine turn2_on (by rfl) ?_
              intro K hK
              go_simp
              refine hK _ _ ⟨rfl, Kept.refl _, ?_⟩
              show _ = _
              simp only [gv1]
              rfl
            case q5o17 =>
              intro w1 hI
              refine turn2_on (by rfl) ?_
              intro K hK
              go_simp
              refine hK _ _ ⟨rfl, Kept.refl _, ?_⟩
              show _ = _
              simp only [gv1]
              rfl
            case q5o18 =>
              intro w1 hI
              refine turn2_on (by rfl) ?_
              intro K hK
              go_simp
              refine hK _ _ ⟨rfl, Kept.refl _, ?_⟩
              show _ = _
              simp only [gv1]
              rfl
            case q5o19 =>
              intro w1 hI
              replace hI : (fun w => Owns .u8 5 w hB (.slice a10 14 c10) XL ∧ RdAt .u8 w (some ⟨qb, qo + p, none⟩) R (c - p) PL ∧ hB ≤ w.heap.size) w1 := hI
              intro v17 h17
              change _ = _ at h17
              subst v17
              intro v18 h18
              change _ = _ at h18
              subst v18
              refine turn2_on (by rfl) ?_
              intro K hK
              simp only [gv2]
              obtain ⟨i1, i2, i3⟩ := hI
              refine wp_app_all 84 rfl u8TR u8IR (by decide) (.tmp 82) (.tmp 83) rfl _ hB (.slice a10 14 c10) XL rfl i1 _ _ _ _ rfl i2 (by rw [HXL.out]; omega) i3 ?_
              intro v2 w2 ho2 hg2
              refine hK _ _ ⟨rfl, hg2.below i3 (fun g hg => (i1.at_base g hg).1), ?_⟩
              show Owns _ _ _ _ _ _ ∧ _ ≤ _
              simp only [gv1]
              exact ⟨ho2, Nat.le_trans i3 hg2.1.size⟩
            case q5o20 =>
              intro w1 hI
              replace hI : (fun w => w.heap[r]? = some (rowJ d sv1 J) ∧ hB ≤ w.heap.size) w1 := hI
              intro v16 h16
              change _ = _ at h16
              subst v16
              intro v19 h19
              obtain ⟨h19, h19s⟩ := h19
              refine turn2_on (by rfl) ?_
              intro K hK
              simp only [gv2]
              obtain ⟨i1, i2⟩ := hI
              go_simp
              refine Calls.mono (sector_any r d sv1 J w1 i1 OK.out hB _ _ h19 i2 HSZ.out) ?_
              rintro e w2 ⟨v2, rfl, ho2, hb2⟩
              rw [HSS.out] at ho2
              obtain ⟨a2, c2, rfl⟩ := ho2.shape
              refine hK _ _ ⟨rfl, hb2, ?_⟩
              show ∃ a n c, _ = Value.slice a n c ∧ Owns .u8 5 w2 hB (Value.slice a n c) SS
              simp only [gv1]
              exact ⟨_, _, _, rfl, ho2.mono i2⟩
            case q5o21 =>
              intro w1 hI
              replace hI : (fun w => Below hB wr w ∧ hB ≤ w.heap.size) w1 := hI
              intro v3 h3
              change _ = _ at h3
              subst v3
              intro v15 h15
              change _ = _ at h15
              subst v15
              intro v20 h20
              obtain ⟨a20, n20, c20, rfl, h20⟩ := h20
              refine turn2_on (by rfl) ?_
              intro K hK
              simp only [gv2]
              go_simp
              rw [HS1.out]
              refine Calls.mono (HWR.out w1 _ _ _ hI.1 h20) ?_
              rintro e w2 ⟨rfl, h2⟩
              refine hK _ _ ⟨rfl, trivial, ?_⟩
              show _ = Value.int .i64 EE ∧ ∃ Q', RiIn w2 Q' r d ST J ∧ Tnd Q1 Q' wr w2
              simp only [gv1]
              exact ⟨trivial, h2⟩
            case q5o22 =>
              intro w1 hI
              intro v21 h21
              obtain ⟨rfl, h21⟩ := h21
              refine turn2_on (by rfl) ?_
              intro K hK
              simp only [gv2]
              go_simp
              refine hK _ _ ⟨rfl, Kept.refl _, ?_⟩
              show _ = _
              simp only [gv1]
              rfl
          intro w9 hI
          intro v0 h0
          replace h0 := h0 (by kernel_rfl)
          change _ = _ at h0
          subst v0
          intro v1 h1
          replace h1 := h1 (by kernel_rfl)
          change _ = _ at h1
          subst v1
          intro v2 h2
          replace h2 := h2 (by kernel_rfl)
          change _ = _ at h2
          subst v2
          intro v3 h3
          replace h3 := h3 (by kernel_rfl)
          change _ = _ at h3
          subst v3
          intro v4 h4
          replace h4 := h4 (by kernel_rfl)
          change _ = _ at h4
          subst v4
          intro v5 h5
          replace h5 := h5 (by kernel_rfl)
          change _ = _ at h5
          subst v5
          intro v6 h6
          replace h6 := h6 (by kernel_rfl)
          change _ = _ at h6
          subst v6
          intro v7 h7
          replace h7 := h7 (by kernel_rfl)
          change _ = _ at h7
          subst v7
          intro v8 h8
          replace h8 := h8 (by kernel_rfl)
          change _ = _ at h8
          subst v8
          intro v9 h9
          replace h9 := h9 (by kernel_rfl)
          change _ = _ at h9
          subst v9
          intro v10 h10
          replace h10 := h10 (by kernel_rfl)
          change _ = _ at h10
          subst v10
          intro v11 h11
          replace h11 := h11 (by kernel_rfl)
          change _ = _ at h11
          subst v11
          intro v12 h12
          replace h12 := h12 (by kernel_rfl)
          change _ = _ at h12
          subst v12
          intro v13 h13
          replace h13 := h13 (by kernel_rfl)
          change _ = _ at h13
          subst v13
          intro v14 h14
          replace h14 := h14 (by kernel_rfl)
          change _ = _ at h14
          subst v14
          intro v15 h15
          replace h15 := h15 (by kernel_rfl)
          change _ = _ at h15
          subst v15
          intro v16 h16
          replace h16 := h16 (by kernel_rfl)
          change _ = _ at h16
          subst v16
          intro v17 h17
          replace h17 := h17 (by kernel_rfl)
          change _ = _ at h17
          subst v17
          intro v18 h18
          replace h18 := h18 (by kernel_rfl)
          change _ = _ at h18
          subst v18
          intro v19 _
          intro v20 _
          intro v21 h21
          replace h21 := h21 (by kernel_rfl)
          obtain ⟨rfl, h21⟩ := h21
          intro v22 h22
          replace h22 := h22 (by kernel_rfl)
          change _ = _ at h22
          subst v22
          simp only [Given, gv2]
          obtain ⟨Q9, hr9, ht9⟩ := h21
          have R9_ := Lib.hid hr9
          have T9_ := Lib.hid (TK.out.trans ht9)
          clear hr9 ht9
          by_cases harm : s.armed = 1
          · have e8 : EE = 8 := by rw [← HEE.out]; unfold wr1E; rw [if_pos harm]
            have ES : Hid (ST = RES) := by show _ = _; rw [← HSTT.out, GC.out harm]; unfold wr1; rw [if_pos harm]
            have HAP : Hid (AP = ⟨RES, J, 8⟩) := by show _ = _; rw [HA1.out, GC.out harm]; rfl
            subst e8
            clear harm
            go_wp2_with fail
            go_ret2
            rw [HAP.out]
            refine ⟨?_, Q9, by rw [← ES.out]; exact R9_.out, T9_.out⟩
            rfl
          · have e8 : EE = 0 := by rw [← HEE.out]; unfold wr1E; rw [if_neg harm]
            have ES : Hid (ST = putS s si SS) := by show _ = _; rw [← HSTT.out]; unfold wr1; rw [if_neg harm]
            have GP2 := Lib.hid (GP.out harm)
            subst e8
            clear harm
            go_wp2_with fail
            go_roundw
            case rel =>
              exact ⟨k + 1, Q9, putS s si SS, by omega, by go_num, by rw [← ES.out]; exact R9_.out, T9_.out, ⟨SK.out.1, by show (s.pend ++ [_]).length = _; rw [List.length_append, SK.out.2.1]; rfl, by show s.writes + 1 = _; rw [SK.out.2.2]; omega⟩, GP2⟩
            case measure => simp [intOf] <;> omega
        · have hmn : (n : Int) < (p : Int) + (R : Int) := by omega
          have HPR : Hid (RdAt .u8 wr (some ⟨qb, qo + p, none⟩) (n - p) (c - p) PL) := by
            show RdAt _ _ _ _ _ _
            rw [HPRf.out, Nat.min_eq_left (show p ≤ n by omega), Nat.min_eq_right (show n ≤ p + R by omega)]
            exact rd_slice HLW.out p n (by omega) (Nat.le_refl _)
          go_wp2_with (first | (go_at_call 35; refine (HROOM.out _ rfl).mono ?_; rintro e w2 ⟨rfl, rfl⟩))
          refine (put_any none 0 0 [] J.h.next 8 wr (RdAt.nil _ _) (by omega) hnx0.1 hnx0.2 (by omega) (by omega)).mono ?_
          rintro e w3 ⟨v3, rfl, ho3, hb3⟩
          rw [hhB] at hb3 ho3
          obtain ⟨a3, c3, rfl⟩ := ho3.shapeN 8 (by rw [List.length_append, putL_len]; rfl)
          have O3 := Lib.hid ho3
          have B3 := Lib.hid hb3
          have hl3 : hB ≤ w3.heap.size := by have := hb3.size; omega
          clear ho3 hb3
          go_wp2_with fail
          refine (put_any a3 8 c3 _ k 2 w3 O3.out.rd (by omega) (by omega) (by omega) (by omega) (by omega)).mono ?_
          rintro e w4 ⟨v4, rfl, ho4, hb4⟩
          obtain ⟨a4, c4, rfl⟩ := ho4.shapeN 10 (by rw [List.length_append, List.length_append, putL_len, putL_len]; rfl)
          have O4 := Lib.hid (ho4.mono hl3)
          have B4 := Lib.hid (B3.out.trans (hb4.mono hl3))
          have hl4 : hB ≤ w4.heap.size := Nat.le_trans hl3 hb4.size
          clear ho4 hb4
          go_wp2_with fail
          refine (put_any a4 10 c4 _ n 4 w4 O4.out.rd (by omega) (by omega) (by omega) (by omega) (by omega)).mono ?_
          rintro e w5 ⟨v5, rfl, ho5, hb5⟩
          obtain ⟨a10, c10, rfl⟩ := ho5.shapeN 14 (by rw [List.length_append, List.length_append, List.length_append, putL_len, putL_len, putL_len]; rfl)
          have OX : Hid (Owns .u8 5 w5 hB (.slice a10 14 c10) XL) := by
            show Owns _ _ _ _ _ _
            have h := ho5.mono hl4
            rw [List.nil_append, show putN 8 = 8 from rfl, show putN 2 = 2 from rfl, show putN 4 = 4 from rfl, HXX.out] at h
            exact h
          have B5 := Lib.hid (B4.out.trans (hb5.mono hl4))
          have hl5 : hB ≤ w5.heap.size := Nat.le_trans hl4 hb5.size
          have ROW5 := Lib.hid ((B5.out.block r hrl).trans ROW1.out)
          have HPR5 := Lib.hid (HPR.out.below (w' := w5) (by rw [hhB]; exact B5.out))
          clear ho5 hb5 y0 y1 y2 y3 y4 y5 y6 y7 y8 yf
          go_wp2_with fail
          refine' reg_kill [(20, 19), (21, 19), (21, 20)] [eqV _, eqV _, eqV _, eqV _, eqV _, eqV _, eqV _, eqV _, eqV _, eqV _, eqV _, eqV _, eqV _, eqV _, eqV _, eqV _, eqV _, eqV _, eqV _, fun v w => Owns .u8 5 w hB v (XL ++ PL) ∧ hB ≤ w.heap.size, fun v w => ∃ a n c, v = Value.slice a n c ∧ Owns .u8 5 w hB (Value.slice a n c) SS, fun v w => v = Value.int .i64 EE ∧ ∃ Q', RiIn w Q' r d ST J ∧ Tnd Q1 Q' wr w, eqV _] [(19, fun w w' => Below hB w w'), (20, fun w w' => Below hB w w'), (21, fun w w' => True)] [(3, fun w => w.heap[r]? = some (rowJ d sv1 J)), (7, fun w => w.heap[r]? = some (rowJ d sv1 J)), (13, fun w => w.heap[r]? = some (rowJ d sv1 J)), (19, fun w => Owns .u8 5 w hB (.slice a10 14 c10) XL ∧ RdAt .u8 w (some ⟨qb, qo + p, none⟩) (n - p) (c - p) PL ∧ hB ≤ w.heap.size), (20, fun w => w.heap[r]? = some (rowJ d sv1 J) ∧ hB ≤ w.heap.size), (21, fun w => Below hB wr w ∧ hB ≤ w.heap.size)] [65, 66, 67, 68, 69, 70, 71, 72, 73, 74, 75, 76, 77, 78, 79, 80, 81, 82, 83, 84, 85, 86, 11] [[], [0], [1], [2], [], [4], [5], [6], [7], [], [], [9, 10], [], [12], [11, 13], [8, 14], [], [], [], [17, 18], [16, 19], [3, 15, 20], [21]] [0, 1, 2, 3, 4, 5, 6, 7, 8, 9, 10, 11, 12, 13, 14, 15, 16, 17, 18, 19, 20, 21, 22] 23 (by kernel_rfl) (by kernel_rfl) ⟨eqV_stays _, eqV_stays _, eqV_stays _, eqV_stays _, eqV_stays _, eqV_stays _, eqV_stays _, eqV_stays _, eqV_stays _, eqV_stays _, eqV_stays _, eqV_stays _, eqV_stays _, eqV_stays _, eqV_stays _, eqV_stays _, eqV_stays _, eqV_stays _, eqV_stays _, fun _ _ _ p b => ⟨p.1.below b, Nat.le_trans p.2 b.size⟩, fun _ _ _ p b => p.elim fun a q => q.elim fun n q => q.elim fun c q => ⟨a, n, c, q.1, q.2.below b⟩, fun _ _ _ p b => ⟨p.1, p.2.elim fun Q' q => ⟨Q', q.1.below b, q.2.below_r b⟩⟩, eqV_stays _, trivial⟩ ⟨⟨.inl (eqV_stays _), .inl (eqV_stays _), .inl (eqV_stays _), .inl (eqV_stays _), .inl (eqV_stays _), .inl (eqV_stays _), .inl (eqV_stays _), .inl (eqV_stays _), .inl (eqV_stays _), .inl (eqV_stays _), .inl (eqV_stays _), .inl (eqV_stays _), .inl (eqV_stays _), .inl (eqV_stays _), .inl (eqV_stays _), .inl (eqV_stays _), .inl (eqV_stays _), .inl (eqV_stays _), .inl (eqV_stays _), .inr (.inr (.inl rfl)), .inr (.inl (by kernel_rfl)), .inr (.inl (by kernel_rfl)), .inl (eqV_stays _), trivial⟩, ⟨.inl (eqV_stays _), .inl (eqV_stays _), .inl (eqV_stays _), .inl (eqV_stays _), .inl (eqV_stays _), .inl (eqV_stays _), .inl (eqV_stays _), .inl (eqV_stays _), .inl (eqV_stays _), .inl (eqV_stays _), .inl (eqV_stays _), .inl (eqV_stays _), .inl (eqV_stays _), .inl (eqV_stays _), .inl (eqV_stays _), .inl (eqV_stays _), .inl (eqV_stays _), .inl (eqV_stays _), .inl (eqV_stays _), .inr (.inr (.inr (by kernel_rfl))), .inr (.inr (.inl rfl)), .inr (.inl (by kernel_rfl)), .inl (eqV_stays _), trivial⟩, ⟨.inl (eqV_stays _), .inl (eqV_stays _), .inl (eqV_stays _), .inl (eqV_stays _), .inl (eqV_stays _), .inl (eqV_stays _), .inl (eqV_stays _), .inl (eqV_stays _), .inl (eqV_stays _), .inl (eqV_stays _), .inl (eqV_stays _), .inl (eqV_stays _), .inl (eqV_stays _), .inl (eqV_stays _), .inl (eqV_stays _), .inl (eqV_stays _), .inl (eqV_stays _), .inl (eqV_stays _), .inl (eqV_stays _), .inr (.inr (.inr (by kernel_rfl))), .inr (.inr (.inr (by kernel_rfl))), .inr (.inr (.inl rfl)), .inl (eqV_stays _), trivial⟩, trivial⟩ ⟨fun _ _ p b => row_keep p b, fun _ _ p b => row_keep p b, fun _ _ p b => row_keep p b, fun _ _ p b => ⟨p.1.below b, p.2.1.below b, Nat.le_trans p.2.2 b.size⟩, fun _ _ p b => ⟨row_keep p.1 b, Nat.le_trans p.2 b.size⟩, fun _ _ p b => ⟨p.1.trans (b.mono p.2), Nat.le_trans p.2 b.size⟩, trivial⟩ ⟨⟨.inl (fun _ _ p g => (g.block r hrl).trans p), .inl (fun _ _ p g => (g.block r hrl).trans p), .inr (.inl (by kernel_rfl)), .inr (.inr rfl), .inl (fun _ _ p g => ⟨(g.block r hrl).trans p.1, Nat.le_trans p.2 g.size⟩), .inl (fun _ _ p g => ⟨p.1.trans g, Nat.le_trans p.2 g.size⟩), trivial⟩, ⟨.inl (fun _ _ p g => (g.block r hrl).trans p), .inl (fun _ _ p g => (g.block r hrl).trans p), .inr (.inl (by kernel_rfl)), .inr (.inl (by kernel_rfl)), .inr (.inr rfl), .inl (fun _ _ p g => ⟨p.1.trans g, Nat.le_trans p.2 g.size⟩), trivial⟩, ⟨.inr (.inl (by kernel_rfl)), .inr (.inl (by kernel_rfl)), .inr (.inl (by kernel_rfl)), .inr (.inl (by kernel_rfl)), .inr (.inl (by kernel_rfl)), .inr (.inr rfl), trivial⟩, trivial⟩ ⟨ROW5.out, ROW5.out, ROW5.out, ⟨OX.out.drew, HPR5.out.drewA, hl5⟩, ⟨ROW5.out, hl5⟩, ⟨below_drew B5.out, hl5⟩, trivial⟩ 128 rfl (by kernel_rfl) (by kernel_rfl) rfl rfl 23 rfl ?q6obl ?q6fin
          case q6obl =>
            refine And.intro ?q6o0 (And.intro ?q6o1 (And.intro ?q6o2 (And.intro ?q6o3 (And.intro ?q6o4 (And.intro ?q6o5 (And.intro ?q6o6 (And.intro ?q6o7 (And.intro ?q6o8 (And.intro ?q6o9 (And.intro ?q6o10 (And.intro ?q6o11 (And.intro ?q6o12 (And.intro ?q6o13 (And.intro ?q6o14 (And.intro ?q6o15 (And.intro ?q6o16 (And.intro ?q6o17 (And.intro ?q6o18 (And.intro ?q6o19 (And.intro ?q6o20 (And.intro ?q6o21 (And.intro ?q6o22 (True.intro)))))))))))))))))))))))
            case q6o0 =>
              intro w1 hI
              refine turn2_on (by rfl) ?_
              intro K hK
              go_simp
              refine hK _ _ ⟨rfl, Kept.refl _, ?_⟩
              show _ = _
              simp only [gv1]
              rfl
            case q6o1 =>
              intro w1 hI
              intro v0 h0
              change _ = _ at h0
              subst v0
              refine turn2_on (by rfl) ?_
              intro K hK
              simp only [gv2]
              go_simp
              refine hK _ _ ⟨rfl, Kept.refl _, ?_⟩
              show _ = _
              simp only [gv1]
              rfl
            case q6o2 =>
              intro w1 hI
              intro v1 h1
              change _ = _ at h1
              subst v1
              refine turn2_on (by rfl) ?_
              intro K hK
              simp only [gv2]
              go_simp
              refine hK _ _ ⟨rfl, Kept.refl _, ?_⟩
              show _ = _
              simp only [gv1]
              rfl
            case q6o3 =>
              intro w1 hI
              replace hI : (fun w => w.heap[r]? = some (rowJ d sv1 J)) w1 := hI
              intro v2 h2
              change _ = _ at h2
              subst v2
              refine turn2_on (by rfl) ?_
              intro K hK
              simp only [gv2]
              obtain ⟨y0, y1, y2, y3, y4, y5, y6, y7, y8, yf⟩ := cellsJ hI
              clear hI
              go_simp
              refine hK _ _ ⟨rfl, Kept.refl _, ?_⟩
              show _ = _
              simp only [gv1]
              rfl
            case q6o4 =>
              intro w1 hI
              refine turn2_on (by rfl) ?_
              intro K hK
              go_simp
              refine hK _ _ ⟨rfl, Kept.refl _, ?_⟩
              show _ = _
              simp only [gv1]
              rfl
            case q6o5 =>
              intro w1 hI
              intro v4 h4
              change _ = _ at h4
              subst v4
              refine turn2_on (by rfl) ?_
              intro K hK
              simp only [gv2]
              go_simp
              refine hK _ _ ⟨rfl, Kept.refl _, ?_⟩
              show _ = _
              simp only [gv1]
              rfl
            case q6o6 =>
              intro w1 hI
              intro v5 h5
              change _ = _ at h5
              subst v5
              refine turn2_on (by rfl) ?_
              intro K hK
              simp only [gv2]
              go_simp
              refine hK _ _ ⟨rfl, Kept.refl _, ?_⟩
              show _ = _
              simp only [gv1]
              rfl
            case q6o7 =>
              intro w1 hI
              replace hI : (fun w => w.heap[r]? = some (rowJ d sv1 J)) w1 := hI
              intro v6 h6
              change _ = _ at h6
              subst v6
              refine turn2_on (by rfl) ?_
              intro K hK
              simp only [gv2]
              obtain ⟨y0, y1, y2, y3, y4, y5, y6, y7, y8, yf⟩ := cellsJ hI
              clear hI
              go_simp
              refine hK _ _ ⟨rfl, Kept.refl _, ?_⟩
              show _ = _
              simp only [gv1]
              rfl
            case q6o8 =>
              intro w1 hI
              intro v7 h7
              change _ = _ at h7
              subst v7
              refine turn2_on (by rfl) ?_
              intro K hK
              simp only [gv2]
              go_simp
              refine hK _ _ ⟨rfl, Kept.refl _, ?_⟩
              show _ = _
              simp only [gv1]
              rfl
            case q6o9 =>
              intro w1 hI
              refine turn2_on (by rfl) ?_
              intro K hK
              go_simp
              refine hK _ _ ⟨rfl, Kept.refl _, ?_⟩
              show _ = _
              simp only [gv1]
              rfl
            case q6o10 =>
              intro w1 hI
              refine turn2_on (by rfl) ?_
              intro K hK
              go_simp
              refine hK _ _ ⟨rfl, Kept.refl _, ?_⟩
              show _ = _
              simp only [gv1]
              rfl
            case q6o11 =>
              intro w1 hI
              intro v9 h9
              change _ = _ at h9
              subst v9
              intro v10 h10
              change _ = _ at h10
              subst v10
              refine turn2_on (by rfl) ?_
              intro K hK
              simp only [gv2]
              go_simp
              refine hK _ _ ⟨rfl, Kept.refl _, ?_⟩
              show _ = _
              simp only [gv1]
              rfl
            case q6o12 =>
              intro w1 hI
              refine turn2_on (by rfl) ?_
              intro K hK
              go_simp
              refine hK _ _ ⟨rfl, Kept.refl _, ?_⟩
              show _ = _
              simp only [gv1]
              rfl
            case q6o13 =>
              intro w1 hI
              replace hI : (fun w => w.heap[r]? = some (rowJ d sv1 J)) w1 := hI
              intro v12 h12
              change _ = _ at h12
              subst v12
              refine turn2_on (by rfl) ?_
              intro K hK
              simp only [gv2]
              go_simp
              refine Calls.mono (area_any r d sv1 J w1 hI OK.out) ?_
              rintro e w2 ⟨rfl, rfl⟩
              refine hK _ _ ⟨rfl, Kept.refl _, ?_⟩
              show _ = _
              simp only [gv1]
              rfl
            case q6o14 =>
              intro w1 hI
              intro v11 h11
              change _ = _ at h11
              subst v11
              intro v13 h13
              change _ = _ at h13
              subst v13
              refine turn2_on (by rfl) ?_
              intro K hK
              simp only [gv2]
              go_simp
              refine hK _ _ ⟨rfl, Kept.refl _, ?_⟩
              show _ = _
              simp only [gv1]
              rfl
            case q6o15 =>
              intro w1 hI
              intro v8 h8
              change _ = _ at h8
              subst v8
              intro v14 h14
              change _ = _ at h14
              subst v14
              refine turn2_on (by rfl) ?_
              intro K hK
              simp only [gv2]
              go_simp
              refine hK _ _ ⟨rfl, Kept.refl _, ?_⟩
              show _ = _
              simp only [gv1]
              rfl
            case q6o16 =>
              intro w1 hI
              refine turn2_on (by rfl) ?_
              intro K hK
              go_simp
              refine hK _ _ ⟨rfl, Kept.refl _, ?_⟩
              show _ = _
              simp only [gv1]
              rfl
            case q6o17 =>
              intro w1 hI
              refine turn2_on (by rfl) ?_
              intro K hK
              go_simp
              refine hK _ _ ⟨rfl, Kept.refl _, ?_⟩
              show _ = _
              simp only [gv1]
              rfl
            case q6o18 =>
              intro w1 hI
              refine turn2_on (by rfl) ?_
              intro K hK
              go_simp
              refine hK _ _ ⟨rfl, Kept.refl _, ?_⟩
              show _ = _
              simp only [gv1]
              rfl
            case q6o19 =>
              intro w1 hI
              replace hI : (fun w => Owns .u8 5 w hB (.slice a10 14 c10) XL ∧ RdAt .u8 w (some ⟨qb, qo + p, none⟩) (n - p) (c - p) PL ∧ hB ≤ w.heap.size) w1 := hI
              intro v17 h17
              change _ = _ at h17
              subst v17
              intro v18 h18
              change _ = _ at h18
              subst v18
              refine turn2_on (by rfl) ?_
              intro K hK
              simp only [gv2]
              obtain ⟨i1, i2, i3⟩ := hI
              refine wp_app_all 84 rfl u8TR u8IR (by decide) (.tmp 82) (.tmp 83) rfl _ hB (.slice a10 14 c10) XL rfl i1 _ _ _ _ rfl i2 (by rw [HXL.out]; omega) i3 ?_
              intro v2 w2 ho2 hg2
              refine hK _ _ ⟨rfl, hg2.below i3 (fun g hg => (i1.at_base g hg).1), ?_⟩
              show Owns _ _ _ _ _ _ ∧ _ ≤ _
              simp only [gv1]
              exact ⟨ho2, Nat.le_trans i3 hg2.1.size⟩
            case q6o20 =>
              intro w1 hI
              replace hI : (fun w => w.heap[r]? = some (rowJ d sv1 J) ∧ hB ≤ w.heap.size) w1 := hI
              intro v16 h16
              change _ = _ at h16
              subst v16
              intro v19 h19
              obtain ⟨h19, h19s⟩ := h19
              refine turn2_on (by rfl) ?_
              intro K hK
              simp only [gv2]
              obtain ⟨i1, i2⟩ := hI
              go_simp
              refine Calls.mono (sector_any r d sv1 J w1 i1 OK.out hB _ _ h19 i2 HSZ.out) ?_
              rintro e w2 ⟨v2, rfl, ho2, hb2⟩
              rw [HSS.out] at ho2
              obtain ⟨a2, c2, rfl⟩ := ho2.shape
              refine hK _ _ ⟨rfl, hb2, ?_⟩
              show ∃ a n c, _ = Value.slice a n c ∧ Owns .u8 5 w2 hB (Value.slice a n c) SS
              simp only [gv1]
              exact ⟨_, _, _, rfl, ho2.mono i2⟩
            case q6o21 =>
              intro w1 hI
              replace hI : (fun w => Below hB wr w ∧ hB ≤ w.heap.size) w1 := hI
              intro v3 h3
              change _ = _ at h3
              subst v3
              intro v15 h15
              change _ = _ at h15
              subst v15
              intro v20 h20
              obtain ⟨a20, n20, c20, rfl, h20⟩ := h20
              refine turn2_on (by rfl) ?_
              intro K hK
              simp only [gv2]
              go_simp
              rw [HS1.out]
              refine Calls.mono (HWR.out w1 _ _ _ hI.1 h20) ?_
              rintro e w2 ⟨rfl, h2⟩
              refine hK _ _ ⟨rfl, trivial, ?_⟩
              show _ = Value.int .i64 EE ∧ ∃ Q', RiIn w2 Q' r d ST J ∧ Tnd Q1 Q' wr w2
              simp only [gv1]
              exact ⟨trivial, h2⟩
            case q6o22 =>
              intro w1 hI
              intro v21 h21
              obtain ⟨rfl, h21⟩ := h21
              refine turn2_on (by rfl) ?_
              intro K hK
              simp only [gv2]
              go_simp
              refine hK _ _ ⟨rfl, Kept.refl _, ?_⟩
              show _ = _
              simp only [gv1]
              rfl
          intro w9 hI
          intro v0 h0
          replace h0 := h0 (by kernel_rfl)
          change _ = _ at h0
          subst v0
          intro v1 h1
          replace h1 := h1 (by kernel_rfl)
          change _ = _ at h1
          subst v1
          intro v2 h2
          replace h2 := h2 (by kernel_rfl)
          change _ = _ at h2
          subst v2
          intro v3 h3
          replace h3 := h3 (by kernel_rfl)
          change _ = _ at h3
          subst v3
          intro v4 h4
          replace h4 := h4 (by kernel_rfl)
          change _ = _ at h4
          subst v4
          intro v5 h5
          replace h5 := h5 (by kernel_rfl)
          change _ = _ at h5
          subst v5
          intro v6 h6
          replace h6 := h6 (by kernel_rfl)
          change _ = _ at h6
          subst v6
          intro v7 h7
          replace h7 := h7 (by kernel_rfl)
          change _ = _ at h7
          subst v7
          intro v8 h8
          replace h8 := h8 (by kernel_rfl)
          change _ = _ at h8
          subst v8
          intro v9 h9
          replace h9 := h9 (by kernel_rfl)
          change _ = _ at h9
          subst v9
          intro v10 h10
          replace h10 := h10 (by kernel_rfl)
          change _ = _ at h10
          subst v10
          intro v11 h11
          replace h11 := h11 (by kernel_rfl)
          change _ = _ at h11
          subst v11
          intro v12 h12
          replace h12 := h12 (by kernel_rfl)
          change _ = _ at h12
          subst v12
          intro v13 h13
          replace h13 := h13 (by kernel_rfl)
          change _ = _ at h13
          subst v13
          intro v14 h14
          replace h14 := h14 (by kernel_rfl)
          change _ = _ at h14
          subst v14
          intro v15 h15
          replace h15 := h15 (by kernel_rfl)
          change _ = _ at h15
          subst v15
          intro v16 h16
          replace h16 := h16 (by kernel_rfl)
          change _ = _ at h16
          subst v16
          intro v17 h17
          replace h17 := h17 (by kernel_rfl)
          change _ = _ at h17
          subst v17
          intro v18 h18
          replace h18 := h18 (by kernel_rfl)
          change _ = _ at h18
          subst v18
          intro v19 _
          intro v20 _
          intro v21 h21
          replace h21 := h21 (by kernel_rfl)
          obtain ⟨rfl, h21⟩ := h21
          intro v22 h22
          replace h22 := h22 (by kernel_rfl)
          change _ = _ at h22
          subst v22
          simp only [Given, gv2]
          obtain ⟨Q9, hr9, ht9⟩ := h21
          have R9_ := Lib.hid hr9
          have T9_ := Lib.hid (TK.out.trans ht9)
          clear hr9 ht9
          by_cases harm : s.armed = 1
          · have e8 : EE = 8 := by rw [← HEE.out]; unfold wr1E; rw [if_pos harm]
            have ES : Hid (ST = RES) := by show _ = _; rw [← HSTT.out, GC.out harm]; unfold wr1; rw [if_pos harm]
            have HAP : Hid (AP = ⟨RES, J, 8⟩) := by show _ = _; rw [HA1.out, GC.out harm]; rfl
            subst e8
            clear harm
            go_wp2_with fail
            go_ret2
            rw [HAP.out]
            refine ⟨?_, Q9, by rw [← ES.out]; exact R9_.out, T9_.out⟩
            rfl
          · have e8 : EE = 0 := by rw [← HEE.out]; unfold wr1E; rw [if_neg harm]
            have ES : Hid (ST = putS s si SS) := by show _ = _; rw [← HSTT.out]; unfold wr1; rw [if_neg harm]
            have GP2 := Lib.hid (GP.out harm)
            subst e8
            clear harm
            go_wp2_with fail
            go_roundw
            case rel =>
              exact ⟨k + 1, Q9, putS s si SS, by omega, by go_num, by rw [← ES.out]; exact R9_.out, T9_.out, ⟨SK.out.1, by show (s.pend ++ [_]).length = _; rw [List.length_append, SK.out.2.1]; rfl, by show s.writes + 1 = _; rw [SK.out.2.2]; omega⟩, GP2⟩
            case measure => simp [intOf] <;> omega
    · obtain rfl : k = N := by omega
      have HSR : Hid (s = RES) := by
        have h := GK.out
        rw [Nat.sub_self] at h
        exact h
      have HRES2 := Lib.hid (show RES.off = false by rw [← HSR.out]; exact SK.out.1)
      obtain ⟨⟨Z1, sv1, _, hr1, _⟩, _⟩ := RK.out
      obtain ⟨y0, y1, y2, y3, y4, y5, y6, y7, y8, yf⟩ := cellsJ hr1
      have HFL := Lib.hid (RK.out.flush SK.out.1)
      have HTU : Hid (∀ wx, RiIn wx Q1 r d (flushS s) J → Calls Try.prog 38 #[.pointer (some ⟨r, 0, none⟩), J.h.nxW.val] wx fun e w' => e = .returned (.int .i64 (wr1E (flushS s))) ∧ ∃ Q', RiIn w' Q' r d (tuSW (flushS s) J J.h.nxW) (tuJW (flushS s) J J.h.nxW) ∧ Tnd Q1 Q' wx w') := fun wx h => by
        have hw := HWF.out
        refine turnto_wr Q1 r d (flushS s) J J.h.nxW wx h SK.out.1 ⟨hw.t0, hw.t1, hw.f0, hw.f1, by show 0 ≤ (J.h.next + 1) % 18446744073709551616; omega, by show (J.h.next + 1) % 18446744073709551616 ≤ 18446744073709551615; omega, hw.s0, hw.s1⟩ HST.out (by show 0 + 1 ≤ _; omega) ?_
        show s.writes + 1 ≤ _
        rw [SK.out.2.2]
        omega
      replace HTU : Hid (∀ wx, RiIn wx Q1 r d (flushS s) J → Calls Try.prog 38 #[.pointer (some ⟨r, 0, none⟩), .agg #[.int .u64 J.h.turn, .int .u64 J.h.first, .int .u64 ((J.h.next + 1) % 18446744073709551616), .int .i64 (sn : Int)]] wx fun e w' => e = .returned (.int .i64 (wr1E (flushS s))) ∧ ∃ Q', RiIn w' Q' r d (tuSW (flushS s) J J.h.nxW) (tuJW (flushS s) J J.h.nxW) ∧ Tnd Q1 Q' wx w') := fun wx h => by
        have := HTU.out wx h
        rw [← hsn]
        exact this
      have hnx2 : IntKind.u64.wrap (J.h.next + 1) = (J.h.next + 1) % 18446744073709551616 := by rw [IntKind.wrap_u64]
      have hback : IntKind.u64.wrap ((J.h.next + 1) % 18446744073709551616 - 1) = J.h.next := by have h1 := HWF.out.n0; have h2 := HWF.out.n1; rw [IntKind.wrap_u64]; omega
      obtain ⟨nb, hnb⟩ : ∃ nb, (J.h.next + 1) % 18446744073709551616 = nb := ⟨_, rfl⟩
      rw [hnb] at hnx2 hback HTU
      have HNB := Lib.hid hnb
      clear hnb
      have hnx3 : IntKind.u64.wrap J.h.next = J.h.next := by have := HWF.out.n0; have := HWF.out.n1; rw [IntKind.wrap_u64]; omega
      clear hr1 hk
      go_wp2_with fail
      refine HFL.out.mono ?_
      rintro e w2 ⟨rfl, hr2, ht2⟩
      have R2 := Lib.hid hr2
      have T2 := Lib.hid (TK.out.trans ht2)
      clear hr2 ht2 y0 y1 y2 y3 y4 y5 y6 y7 y8 yf
      obtain ⟨⟨Z2, sv2, _, hr2, _⟩, _⟩ := R2.out
      obtain ⟨y0, y1, y2, y3, y4, y5, y6, y7, y8, yf⟩ := cellsJ hr2
      clear hr2
      go_wp2_with fail
      have hba : Below w2.heap.size w2 (w2.alloc (.cells #[.int .u64 J.h.turn, .int .u64 J.h.first, .int .u64 nb, .int .i64 (sn : Int)] 76)) := (Below.refl _ _).alloc (Nat.le_refl _) _
      obtain ⟨w3, hw3⟩ : ∃ w3, w2.alloc (.cells #[.int .u64 J.h.turn, .int .u64 J.h.first, .int .u64 nb, .int .i64 (sn : Int)] 76) = w3 := ⟨_, rfl⟩
      rw [hw3] at hba
      rw [hw3]
      have R3 := Lib.hid (R2.out.below hba)
      have T3 := Lib.hid (T2.out.below_r hba)
      clear hw3 hba y0 y1 y2 y3 y4 y5 y6 y7 y8 yf
      refine (HTU.out w3 R3.out).mono ?_
      rintro e w4 ⟨rfl, Q4, hr4, ht4⟩
      have R4 := Lib.hid hr4
      have T4 := Lib.hid (T3.out.trans ht4)
      clear hr4 ht4
      by_cases harm : s.armed = 1
      · have e8 : wr1E (flushS s) = 8 := by unfold wr1E; exact if_pos harm
        have HAP : Hid (AP = ⟨tuSW (flushS s) J J.h.nxW, J, 8⟩) := by
          show _ = _
          rw [HA1.out, ← HSR.out, SK.out.1, if_neg (by decide), if_pos harm]
        have HTJ : Hid (tuJW (flushS s) J J.h.nxW = J) := by show _ = _; unfold tuJW; exact if_pos harm
        rw [e8]
        clear harm e8
        go_wp2_with fail
        go_ret2
        rw [HAP.out]
        refine ⟨rfl, Q4, ?_, T4.out⟩
        have h := R4.out
        rw [HTJ.out] at h
        exact h
      · have e8 : wr1E (flushS s) = 0 := by unfold wr1E; exact if_neg harm
        have HAP : Hid (AP = ⟨tuSW (flushS s) J J.h.nxW, { tuJW (flushS s) J J.h.nxW with ks := J.ks ++ [k] }, 0⟩) := by
          show _ = _
          rw [HA1.out, ← HSR.out, SK.out.1, if_neg (by decide), if_neg harm]
        have HTJ : Hid (tuJW (flushS s) J J.h.nxW = { J with h := J.h.nxW.upW }) := by show _ = _; unfold tuJW; exact if_neg harm
        rw [e8]
        clear harm e8
        obtain ⟨T, hT⟩ : ∃ T, tuSW (flushS s) J J.h.nxW = T := ⟨_, rfl⟩
        have R5 : Hid (RiIn w4 Q4 r d T { J with h := J.h.nxW.upW }) := by
          have h := R4.out
          rw [HTJ.out, hT] at h
          exact h
        rw [hT, HTJ.out] at HAP
        clear R4 hT
        obtain ⟨⟨Z5, sv5, hd5, hr5, ho5, hz5, hq5, hn5, hg5⟩, ok5, dok5, lt5⟩ := R5.out
        have hok6 : JOk { J with h := J.h.nxW.upW, ks := J.ks ++ [k] } := ⟨ok5.n4, ok5.n1, ok5.lo, ok5.s0, ok5.s1, ok5.h, ok5.st, by show sumN (J.ks ++ [k]) ≤ J.n - 2; rw [sumN_app, HU.out]; show U + (k + 0) ≤ _; omega, fun x hx => by
          rcases List.mem_append.1 hx with h | h
          · exact ok5.kp x h
          · rw [List.mem_singleton.1 h, HND.out]; omega⟩
        have HPU : Hid (∀ v' w', Owns .i64 3 w' 0 v' (zs J.ks ++ [(k : Int)]) → Grows w4 sv5 w' v' → w'.heap[r]? = some (rowJ d sv5 { J with h := J.h.nxW.upW }) ∧ ∃ Q', RiIn (w'.setCell ⟨r, 8, none⟩ v') Q' r d T { J with h := J.h.nxW.upW, ks := J.ks ++ [k] } ∧ Tnd Q4 Q' w4 (w'.setCell ⟨r, 8, none⟩ v')) := fun v' w' h1 h2 => ri_push hd5 hr5 hz5 hq5 hn5 hg5 dok5 lt5 h1 h2 hok6
        have HO5 := Lib.hid ho5
        obtain ⟨y0, y1, y2, y3, y4, y5, y6, y7, y8, yf⟩ := cellsJ hr5
        have HKL : Hid ((zs J.ks).length ≤ 65536) := by show _ ≤ _; have h := ks_len J.ks ok5.kp; unfold zs; rw [List.length_map]; have h2 := ok5.ks; have h3 : sumN J.ks ≤ J.n - 2 := h2; omega
        have hkwf : (Lit.int .i64 (k : Int)).wf = true := by simp [Lit.wf, IntKind.min, IntKind.max, IntKind.signed, IntKind.bits]; omega
        clear hd5 hr5 ho5 hz5 hq5 hn5 hg5 ok5 dok5 lt5 hok6
        change w4.cell? ⟨r, 6, none⟩ = some (.int .u64 ((J.h.next + 1) % 18446744073709551616)) at y6
        rw [HNB.out] at y6
        go_wp2_with (at_builtin; go_loud (refine app_one i64TR i64IR (by decide) rfl (.tmp 116) (.tmp 118) rfl _ 0 sv5 (zs J.ks) rfl HO5.out _ rfl hkwf (Nat.le_trans HKL.out (by decide)) (Nat.zero_le _) ?_); intro v6 w6 ho6 hg6; obtain ⟨a6, c6, rfl⟩ := ho6.shapeN ((zs J.ks).length + 1) (by rw [List.length_append]; rfl); obtain ⟨hr6, Q6, hri6, ht6⟩ := HPU.out _ w6 ho6 hg6; have R6 := Lib.hid hri6; have T6 := Lib.hid (T4.out.trans ht6); clear y0 y1 y2 y3 y4 y5 y6 y7 y8 yf ho6 hg6 hri6 ht6; obtain ⟨y0, y1, y2, y3, y4, y5, y6, y7, y8, yf⟩ := cellsJ hr6; change w6.cell? ⟨r, 6, none⟩ = some (.int .u64 ((J.h.next + 1) % 18446744073709551616)) at y6; rw [HNB.out] at y6; clear hr6)
        go_ret2
        rw [HAP.out]
        exact ⟨rfl, Q6, R6.out, T6.out⟩
end Go.Proofs.Ytlhpdkapddnbcaa
