/- ring: turnTo, whatever its turn. -/
import Derived.Test.YtlhpdkapddnbcaaJn11
namespace Go.Proofs.Ytlhpdkapddnbcaa
open Go.RowKit
def Hd.upW (h : Hd) : Hd := ⟨(h.turn + 1) % 18446744073709551616, h.first, h.next, h.start⟩
/-- What the next state's write makes of the disk, and of the journal. -/
def tuSW (st : Dk) (J : Jr) (h : Hd) : Dk := if st.armed = 1 then cutS st st.keep else flushS (putS st ((J.lo : Int) + h.upW.turn % 2) (hdS J.size h.upW))
def tuJW (st : Dk) (J : Jr) (h : Hd) : Jr := if st.armed = 1 then J else { J with h := h.upW }
set_option linter.unusedSimpArgs false in
set_option linter.unusedVariables false in
set_option maxRecDepth 100000 in
set_option maxHeartbeats 8000000 in
theorem turnto_wr (Q : Nat → Prop) (r d : Nat) (st : Dk) (J : Jr) (h : Hd) (w0 : World) (hR : RiIn w0 Q r d st J) (hoff : st.off = false) (hh : h.Wf) (hs : h.start < (J.n : Int) - 2) (hfew : st.pend.length + 1 ≤ 1000000) (hwr : st.writes + 1 ≤ 4611686018427387904) :
    Calls Try.prog 38 #[.pointer (some ⟨r, 0, none⟩), h.val] w0 fun e w' => e = .returned (.int .i64 (wr1E st)) ∧ ∃ Q', RiIn w' Q' r d (tuSW st J h) (tuJW st J h) ∧ Tnd Q Q' w0 w' := by
  have hup : h.upW.Wf := ⟨by show 0 ≤ (h.turn + 1) % 18446744073709551616; omega, by show (h.turn + 1) % 18446744073709551616 ≤ 18446744073709551615; omega, hh.f0, hh.f1, hh.n0, hh.n1, hh.s0, hh.s1⟩
  have HWR : Hid (∀ w1, RiIn w1 Q r d st J → Calls Try.prog 43 #[.pointer (some ⟨r, 0, none⟩), h.upW.val] w1 fun e w' => e = .returned (.int .i64 (wr1E st)) ∧ ∃ Q', RiIn w' Q' r d (wr1 st ((J.lo : Int) + h.upW.turn % 2) (hdS J.size h.upW)) J ∧ Tnd Q Q' w1 w') := fun w1 h1 => rwrite_any Q r d st J h.upW w1 h1 hoff hup hfew hwr
  have RI := Lib.hid hR
  have HUP := Lib.hid hup
  have HS := Lib.hid hs
  have hlt := hR.lt
  have HLT := Lib.hid hlt
  have hT0 := hh.t0
  obtain ⟨ta, fa, xa, sa⟩ := h
  replace hT0 : 0 ≤ ta := hT0
  show Calls _ _ #[_, .agg #[.int .u64 ta, .int .u64 fa, .int .u64 xa, .int .i64 sa]] _ _
  replace HWR : Hid (∀ w1, RiIn w1 Q r d st J → Calls Try.prog 43 #[.pointer (some ⟨r, 0, none⟩), .agg #[.int .u64 ((ta + 1) % 18446744073709551616), .int .u64 fa, .int .u64 xa, .int .i64 sa]] w1 fun e w' => e = .returned (.int .i64 (wr1E st)) ∧ ∃ Q', RiIn w' Q' r d (wr1 st ((J.lo : Int) + ((ta + 1) % 18446744073709551616) % 2) (hdS J.size ⟨(ta + 1) % 18446744073709551616, fa, xa, sa⟩)) J ∧ Tnd Q Q' w1 w') := HWR
  replace HUP : Hid ((⟨(ta + 1) % 18446744073709551616, fa, xa, sa⟩ : Hd).Wf) := HUP
  replace HS : Hid (sa < (J.n : Int) - 2) := HS
  have HTS : Hid (tuSW st J ⟨ta, fa, xa, sa⟩ = if st.armed = 1 then cutS st st.keep else flushS (putS st ((J.lo : Int) + ((ta + 1) % 18446744073709551616) % 2) (hdS J.size ⟨(ta + 1) % 18446744073709551616, fa, xa, sa⟩))) := rfl
  have HTJ : Hid (tuJW st J ⟨ta, fa, xa, sa⟩ = if st.armed = 1 then J else { J with h := ⟨(ta + 1) % 18446744073709551616, fa, xa, sa⟩ }) := rfl
  have hw1 : IntKind.u64.wrap (ta + 1) = (ta + 1) % 18446744073709551616 := by rw [IntKind.wrap_u64]
  obtain ⟨hb, hhb⟩ : ∃ hb, w0.heap.size = hb := ⟨_, rfl⟩
  have hOF := hoff
  have HOFF := Lib.hid hoff
  clear hR hup hs hlt hh hoff hfew hwr hOF
  have htb0 : 0 ≤ (ta + 1) % 18446744073709551616 := by omega
  generalize (ta + 1) % 18446744073709551616 = tb at *
  go_enter Try.func38, Try.ntmps38
  have hrow := heap_alloc_new w0 (.cells #[.int .u64 tb, .int .u64 fa, .int .u64 xa, .int .i64 sa] 76)
  have hba : Below w0.heap.size w0 (w0.alloc (.cells #[.int .u64 tb, .int .u64 fa, .int .u64 xa, .int .i64 sa] 76)) := (Below.refl _ _).alloc (Nat.le_refl _) _
  go_wp2_with fail
  obtain ⟨wa, hwa⟩ : ∃ wa, w0.alloc (.cells #[.int .u64 tb, .int .u64 fa, .int .u64 xa, .int .i64 sa] 76) = wa := ⟨_, rfl⟩
  rw [hwa, hhb] at hrow
  rw [hwa] at hba
  rw [hwa]
  refine (HWR.out wa (RI.out.below hba)).mono ?_
  rintro e w1 ⟨rfl, Q1, hr1, ht1⟩
  have T1 := Lib.hid (Tnd.below_l hba ht1)
  have R1 := Lib.hid hr1
  have hbl := (Array.getElem?_eq_some_iff.1 hrow).1
  have hbq : ¬ Q hb := fun hq => by have := HLT.out hb hq; omega
  have HROW := Lib.hid ((ht1.block hb hbl hbq).trans hrow)
  have hbl1 : hb < w1.heap.size := Nat.lt_of_lt_of_le hbl ht1.size
  have hbq1 : ¬ Q1 hb := fun hq => by
    rcases ht1.sub hb hq with h1 | h1
    · exact hbq h1
    · omega
  clear hr1 ht1 hrow hba hwa
  by_cases harm : st.armed = 1
  · have e1 : wr1E st = 8 := by unfold wr1E; rw [if_pos harm]
    have E2 : Hid (wr1 st ((J.lo : Int) + tb % 2) (hdS J.size ⟨tb, fa, xa, sa⟩) = cutS st st.keep) := by show _ = _; unfold wr1; rw [if_pos harm]
    have HTS2 : Hid (tuSW st J ⟨ta, fa, xa, sa⟩ = cutS st st.keep) := by show _ = _; rw [HTS.out, if_pos harm]
    have HTJ2 : Hid (tuJW st J ⟨ta, fa, xa, sa⟩ = J) := by show _ = _; rw [HTJ.out, if_pos harm]
    have EE1 := Lib.hid e1
    rw [e1]
    clear e1 harm
    go_wp2_with fail
    go_ret
    refine ⟨by rw [EE1.out]; rfl, Q1, ?_, T1.out⟩
    rw [HTS2.out, HTJ2.out, ← E2.out]
    exact R1.out
  · have e1 : wr1E st = 0 := by unfold wr1E; rw [if_neg harm]
    have E2 : Hid (wr1 st ((J.lo : Int) + tb % 2) (hdS J.size ⟨tb, fa, xa, sa⟩) = putS st ((J.lo : Int) + tb % 2) (hdS J.size ⟨tb, fa, xa, sa⟩)) := by show _ = _; unfold wr1; rw [if_neg harm]
    have HTS2 : Hid (tuSW st J ⟨ta, fa, xa, sa⟩ = flushS (putS st ((J.lo : Int) + tb % 2) (hdS J.size ⟨tb, fa, xa, sa⟩))) := by show _ = _; rw [HTS.out, if_neg harm]
    have HTJ2 : Hid (tuJW st J ⟨ta, fa, xa, sa⟩ = { J with h := ⟨tb, fa, xa, sa⟩ }) := by show _ = _; rw [HTJ.out, if_neg harm]
    have EE1 := Lib.hid e1
    rw [e1]
    clear e1 harm
    obtain ⟨P, hP⟩ : ∃ P, putS st ((J.lo : Int) + tb % 2) (hdS J.size ⟨tb, fa, xa, sa⟩) = P := ⟨_, rfl⟩
    have hPo : P.off = false := by rw [← hP]; exact HOFF.out
    rw [hP] at E2 HTS2
    have R2 : Hid (RiIn w1 Q1 r d P J) := by
      have h := R1.out
      rw [E2.out] at h
      exact h
    have HFL := Lib.hid (R2.out.flush hPo)
    obtain ⟨⟨Z, sv, _, hr, _⟩, _⟩ := R2.out
    obtain ⟨y0, y1, y2, y3, y4, y5, y6, y7, y8, yf⟩ := cellsJ hr
    clear hP hPo hr R1 E2
    go_wp2_with fail
    refine HFL.out.mono ?_
    rintro e w2 ⟨rfl, hr2, ht2⟩
    have R3 := Lib.hid hr2
    have T2 := Lib.hid ht2
    obtain ⟨q0, q1, q2, q3⟩ := cells4 ((ht2.block hb hbl1 hbq1).trans HROW.out)
    clear y0 y1 y2 y3 y4 y5 y6 y7 y8 yf hr2 ht2
    obtain ⟨⟨Z2, sv2, _, hr, _⟩, _⟩ := R3.out
    obtain ⟨y0, y1, y2, y3, y4, y5, y6, y7, y8, yf⟩ := cellsJ hr
    clear hr
    go_wp2_with fail
    change bodyPost _ _ _ _ _ (setsR w2 r [(4, .int .u64 tb), (5, .int .u64 fa), (6, .int .u64 xa), (7, .int .i64 sa)])
    obtain ⟨h1, h2⟩ := R3.out.head ⟨tb, fa, xa, sa⟩ HUP.out HS.out
    go_ret
    refine ⟨by rw [EE1.out]; rfl, Q1, ?_, T1.out.trans (T2.out.trans h2)⟩
    rw [HTS2.out, HTJ2.out]
    exact h1
end Go.Proofs.Ytlhpdkapddnbcaa
