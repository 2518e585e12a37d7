/- ring: turnTo: the next state, written and flushed. -/
import Derived.Test.YtlhpdkapddnbcaaJk8
namespace Go.Proofs.Ytlhpdkapddnbcaa
open Go.RowKit
set_option maxRecDepth 100000 in
theorem RiIn.flush {w : World} {Q : Nat → Prop} {r d : Nat} {st : Dk} {J : Jr} (h : RiIn w Q r d st J) (hoff : st.off = false) :
    Calls Try.prog 28 #[.pointer (some ⟨d, 0, none⟩)] w fun e w' => e = .returned (.int .i64 0) ∧ RiIn w' Q r d (flushS st) J ∧ Tnd Q Q w w' := by
  obtain ⟨⟨Z, sv, hd, hr, ho, hz, hq, hn, hg⟩, ok, dok, lt⟩ := h
  refine (flush_any Z d st w hd).mono ?_
  rintro e w' ⟨rfl, hd', ht⟩
  rw [hoff] at hd' ⊢
  have hrl := (Array.getElem?_eq_some_iff.1 hr).1
  exact ⟨rfl, ⟨⟨Z, sv, hd', (ht.block r hrl hn).trans hr, ho.ats (fun g h3 => ht.block g (ho.at_base g h3).2 (hg g h3).2.1), hz, hq, hn, hg⟩, ok, ⟨dok.size, by show _ ≤ (settleK _ _ _ _).length; rw [settleK_len]; exact dok.n⟩, fun k hk => Nat.lt_of_lt_of_le (lt k hk) ht.size⟩, ht.os, ht.tape, ht.output, ht.size, fun k hk hq' => ht.block k hk (fun h3 => hq' (hz k h3)), fun k hk => .inl hk⟩
theorem Tnd.grown {Z : Nat → Prop} {w w' : World} {r : Nat} (hg : w.grownBy w' (some r)) (hr : Z r) : Tnd Z Z w w' := ⟨hg.os, hg.tape, hg.output, hg.size, fun k hk hz => hg.block k hk (fun e => by injection e with e; exact hz (e ▸ hr)), fun _ h => .inl h⟩
theorem RiIn.row {w w' : World} {Q : Nat → Prop} {r d : Nat} {st : Dk} {J J' : Jr} (h : RiIn w Q r d st J) (f : ∀ sv, w.heap[r]? = some (rowJ d sv J) → w'.heap[r]? = some (rowJ d sv J')) (hks : J'.ks = J.ks) (hg : w.grownBy w' (some r)) (ok' : JOk J') (dok' : DOk st J') : RiIn w' Q r d st J' ∧ Tnd Q Q w w' := by
  obtain ⟨⟨Z, sv, hd, hr, ho, hz, hq, hn, hgg⟩, ok, dok, lt⟩ := h
  refine ⟨⟨⟨Z, sv, hd.same (fun x hx => hg.block x (hd.1 x hx) (fun e => by injection e with e; exact hn (e ▸ hx))) hg.size, f sv hr, ?_, hz, hq, hn, hgg⟩, ok', dok', fun k hk => Nat.lt_of_lt_of_le (lt k hk) hg.size⟩, Tnd.grown hg hq⟩
  rw [hks]
  exact ho.ats (fun g h3 => hg.block g (ho.at_base g h3).2 (fun e => by injection e with e; exact (hgg g h3).2.2 e))
theorem foldJ (x0 x1 x2 x3 x4 x5 x6 x7 x8 y4 y5 y6 y7 : Value) : List.foldl (fun (c : Array Value) (p : Nat × Value) => c.setIfInBounds p.1 p.2) #[x0, x1, x2, x3, x4, x5, x6, x7, x8] [(4, y4), (5, y5), (6, y6), (7, y7)] = #[x0, x1, x2, x3, y4, y5, y6, y7, x8] := rfl
/-- The state stored in the journal's block. -/
theorem RiIn.head {w : World} {Q : Nat → Prop} {r d : Nat} {st : Dk} {J : Jr} (h : RiIn w Q r d st J) (g : Hd) (hw : g.Wf) (hs : g.start < (J.n : Int) - 2) : RiIn (setsR w r [(4, .int .u64 g.turn), (5, .int .u64 g.first), (6, .int .u64 g.next), (7, .int .i64 g.start)]) Q r d st { J with h := g } ∧ Tnd Q Q w (setsR w r [(4, .int .u64 g.turn), (5, .int .u64 g.first), (6, .int .u64 g.next), (7, .int .i64 g.start)]) :=
  h.row (fun sv hr => by have := setsR_row [(4, .int .u64 g.turn), (5, .int .u64 g.first), (6, .int .u64 g.next), (7, .int .i64 g.start)] hr; rw [foldJ] at this; exact this) rfl (setsR_grown _ _) ⟨h.ok.n4, h.ok.n1, h.ok.lo, h.ok.s0, h.ok.s1, hw, hs, h.ok.ks, h.ok.kp⟩ ⟨h.dok.size, h.dok.n⟩
def Hd.up (h : Hd) : Hd := ⟨h.turn + 1, h.first, h.next, h.start⟩
/-- What the next state's write makes of the disk, and of the journal. -/
def tuS (st : Dk) (J : Jr) (h : Hd) : Dk := if st.armed = 1 then cutS st st.keep else flushS (putS st ((J.lo : Int) + h.up.turn % 2) (hdS J.size h.up))
def tuJ (st : Dk) (J : Jr) (h : Hd) : Jr := if st.armed = 1 then J else { J with h := h.up }
set_option linter.unusedSimpArgs false in
set_option linter.unusedVariables false in
set_option maxRecDepth 100000 in
set_option maxHeartbeats 8000000 in
theorem turnto_any (Q : Nat → Prop) (r d : Nat) (st : Dk) (J : Jr) (h : Hd) (w0 : World) (hR : RiIn w0 Q r d st J) (hoff : st.off = false) (hh : h.Wf) (ht : h.turn < 18446744073709551615) (hs : h.start < (J.n : Int) - 2) (hfew : st.pend.length + 1 ≤ 1000000) (hwr : st.writes + 1 ≤ 4611686018427387904) :
    Calls Try.prog 38 #[.pointer (some ⟨r, 0, none⟩), h.val] w0 fun e w' => e = .returned (.int .i64 (wr1E st)) ∧ ∃ Q', RiIn w' Q' r d (tuS st J h) (tuJ st J h) ∧ Tnd Q Q' w0 w' := by
  have hup : h.up.Wf := ⟨by have := hh.t0; show 0 ≤ h.turn + 1; omega, by show h.turn + 1 ≤ _; omega, hh.f0, hh.f1, hh.n0, hh.n1, hh.s0, hh.s1⟩
  have HWR : Hid (∀ w1, RiIn w1 Q r d st J → Calls Try.prog 43 #[.pointer (some ⟨r, 0, none⟩), h.up.val] w1 fun e w' => e = .returned (.int .i64 (wr1E st)) ∧ ∃ Q', RiIn w' Q' r d (wr1 st ((J.lo : Int) + h.up.turn % 2) (hdS J.size h.up)) J ∧ Tnd Q Q' w1 w') := fun w1 h1 => rwrite_any Q r d st J h.up w1 h1 hoff hup hfew hwr
  have RI := Lib.hid hR
  have HUP := Lib.hid hup
  have HS := Lib.hid hs
  have hlt := hR.lt
  have HLT := Lib.hid hlt
  have hT0 := hh.t0
  obtain ⟨ta, fa, xa, sa⟩ := h
  replace ht : ta < 18446744073709551615 := ht
  replace hT0 : 0 ≤ ta := hT0
  show Calls _ _ #[_, .agg #[.int .u64 ta, .int .u64 fa, .int .u64 xa, .int .i64 sa]] _ _
  replace HWR : Hid (∀ w1, RiIn w1 Q r d st J → Calls Try.prog 43 #[.pointer (some ⟨r, 0, none⟩), .agg #[.int .u64 (ta + 1), .int .u64 fa, .int .u64 xa, .int .i64 sa]] w1 fun e w' => e = .returned (.int .i64 (wr1E st)) ∧ ∃ Q', RiIn w' Q' r d (wr1 st ((J.lo : Int) + (ta + 1) % 2) (hdS J.size ⟨ta + 1, fa, xa, sa⟩)) J ∧ Tnd Q Q' w1 w') := HWR
  replace HUP : Hid ((⟨ta + 1, fa, xa, sa⟩ : Hd).Wf) := HUP
  replace HS : Hid (sa < (J.n : Int) - 2) := HS
  have HTS : Hid (tuS st J ⟨ta, fa, xa, sa⟩ = if st.armed = 1 then cutS st st.keep else flushS (putS st ((J.lo : Int) + (ta + 1) % 2) (hdS J.size ⟨ta + 1, fa, xa, sa⟩))) := rfl
  have HTJ : Hid (tuJ st J ⟨ta, fa, xa, sa⟩ = if st.armed = 1 then J else { J with h := ⟨ta + 1, fa, xa, sa⟩ }) := rfl
  have hw1 : IntKind.u64.wrap (ta + 1) = ta + 1 := by rw [IntKind.wrap_u64]; omega
  obtain ⟨hb, hhb⟩ : ∃ hb, w0.heap.size = hb := ⟨_, rfl⟩
  have hOF := hoff
  have HOFF := Lib.hid hoff
  clear hR hup hs hlt hh hoff hfew hwr hOF
  go_enter Try.func38, Try.ntmps38
  have hrow := heap_alloc_new w0 (.cells #[.int .u64 (ta + 1), .int .u64 fa, .int .u64 xa, .int .i64 sa] 76)
  have hba : Below w0.heap.size w0 (w0.alloc (.cells #[.int .u64 (ta + 1), .int .u64 fa, .int .u64 xa, .int .i64 sa] 76)) := (Below.refl _ _).alloc (Nat.le_refl _) _
  go_wp2_with fail
  obtain ⟨wa, hwa⟩ : ∃ wa, w0.alloc (.cells #[.int .u64 (ta + 1), .int .u64 fa, .int .u64 xa, .int .i64 sa] 76) = wa := ⟨_, rfl⟩
  rw [hwa, hhb] at hrow
  rw [hwa] at hba
  rw [hwa]
  refine (HWR.out wa (RI.out.below hba)).mono ?_
  rintro e w1 ⟨rfl, Q1, hr1, ht1⟩
  have T1 := Lib.hid (Tnd.below_l hba ht1)
  have R1 := Lib.hid hr1
  have hbl := (Array.getElem?_eq_some_iff.1 hrow).1
  have hbq : ¬ Q hb := fun hq => by have := HLT.out hb hq; omega
  have HROW := Lib.hid ((ht1.block hb hbl hbq).trans hrow)
  have hbl1 : hb < w1.heap.size := Nat.lt_of_lt_of_le hbl ht1.size
  have hbq1 : ¬ Q1 hb := fun hq => by
    rcases ht1.sub hb hq with h1 | h1
    · exact hbq h1
    · omega
  clear hr1 ht1 hrow hba hwa
  by_cases harm : st.armed = 1
  · have e1 : wr1E st = 8 := by unfold wr1E; rw [if_pos harm]
    have E2 : Hid (wr1 st ((J.lo : Int) + (ta + 1) % 2) (hdS J.size ⟨ta + 1, fa, xa, sa⟩) = cutS st st.keep) := by show _ = _; unfold wr1; rw [if_pos harm]
    have HTS2 : Hid (tuS st J ⟨ta, fa, xa, sa⟩ = cutS st st.keep) := by show _ = _; rw [HTS.out, if_pos harm]
    have HTJ2 : Hid (tuJ st J ⟨ta, fa, xa, sa⟩ = J) := by show _ = _; rw [HTJ.out, if_pos harm]
    have EE1 := Lib.hid e1
    rw [e1]
    clear e1 harm
    go_wp2_with fail
    go_ret
    refine ⟨by rw [EE1.out]; rfl, Q1, ?_, T1.out⟩
    rw [HTS2.out, HTJ2.out, ← E2.out]
    exact R1.out
  · have e1 : wr1E st = 0 := by unfold wr1E; rw [if_neg harm]
    have E2 : Hid (wr1 st ((J.lo : Int) + (ta + 1) % 2) (hdS J.size ⟨ta + 1, fa, xa, sa⟩) = putS st ((J.lo : Int) + (ta + 1) % 2) (hdS J.size ⟨ta + 1, fa, xa, sa⟩)) := by show _ = _; unfold wr1; rw [if_neg harm]
    have HTS2 : Hid (tuS st J ⟨ta, fa, xa, sa⟩ = flushS (putS st ((J.lo : Int) + (ta + 1) % 2) (hdS J.size ⟨ta + 1, fa, xa, sa⟩))) := by show _ = _; rw [HTS.out, if_neg harm]
    have HTJ2 : Hid (tuJ st J ⟨ta, fa, xa, sa⟩ = { J with h := ⟨ta + 1, fa, xa, sa⟩ }) := by show _ = _; rw [HTJ.out, if_neg harm]
    have EE1 := Lib.hid e1
    rw [e1]
    clear e1 harm
    obtain ⟨P, hP⟩ : ∃ P, putS st ((J.lo : Int) + (ta + 1) % 2) (hdS J.size ⟨ta + 1, fa, xa, sa⟩) = P := ⟨_, rfl⟩
    have hPo : P.off = false := by rw [← hP]; exact HOFF.out
    rw [hP] at E2 HTS2
    have R2 : Hid (RiIn w1 Q1 r d P J) := by
      have h := R1.out
      rw [E2.out] at h
      exact h
    have HFL := Lib.hid (R2.out.flush hPo)
    obtain ⟨⟨Z, sv, _, hr, _⟩, _⟩ := R2.out
    obtain ⟨y0, y1, y2, y3, y4, y5, y6, y7, y8, yf⟩ := cellsJ hr
    clear hP hPo hr R1 E2
    go_wp2_with fail
    refine HFL.out.mono ?_
    rintro e w2 ⟨rfl, hr2, ht2⟩
    have R3 := Lib.hid hr2
    have T2 := Lib.hid ht2
    obtain ⟨q0, q1, q2, q3⟩ := cells4 ((ht2.block hb hbl1 hbq1).trans HROW.out)
    clear y0 y1 y2 y3 y4 y5 y6 y7 y8 yf hr2 ht2
    obtain ⟨⟨Z2, sv2, _, hr, _⟩, _⟩ := R3.out
    obtain ⟨y0, y1, y2, y3, y4, y5, y6, y7, y8, yf⟩ := cellsJ hr
    clear hr
    go_wp2_with fail
    change bodyPost _ _ _ _ _ (setsR w2 r [(4, .int .u64 (ta + 1)), (5, .int .u64 fa), (6, .int .u64 xa), (7, .int .i64 sa)])
    obtain ⟨h1, h2⟩ := R3.out.head ⟨ta + 1, fa, xa, sa⟩ HUP.out HS.out
    go_ret
    refine ⟨by rw [EE1.out]; rfl, Q1, ?_, T1.out.trans (T2.out.trans h2)⟩
    rw [HTS2.out, HTJ2.out]
    exact h1
end Go.Proofs.Ytlhpdkapddnbcaa
