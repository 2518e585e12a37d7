/- ring: turnTo: the next state, written and flushed. ring: a row of slices of bytes beside a journal; Open's records, plainly. ring: Format. -/
import Derived.Test.YtlhpdkapddnbcaaJn8
import Derived.Test.YtlhpdkapddnbcaaJn10
import Derived.OwnWalk
import Derived.LoopN
namespace Go.Proofs.Ytlhpdkapddnbcaa
open Go.RowKit
set_option maxRecDepth 100000 in
theorem RiIn.flush {w : World} {Q : Nat → Prop} {r d : Nat} {st : Dk} {J : Jr} (h : RiIn w Q r d st J) (hoff : st.off = false) :
    Calls Try.prog 28 #[.pointer (some ⟨d, 0, none⟩)] w fun e w' => e = .returned (.int .i64 0) ∧ RiIn w' Q r d (flushS st) J ∧ Tnd Q Q w w' := by
  obtain ⟨⟨Z, sv, hd, hr, ho, hz, hq, hn, hg⟩, ok, dok, lt⟩ := h
  refine (flush_any Z d st w hd).mono ?_
  rintro e w' ⟨rfl, hd', ht⟩
  rw [hoff] at hd' ⊢
  have hrl := (Array.getElem?_eq_some_iff.1 hr).1
  exact ⟨rfl, ⟨⟨Z, sv, hd', (ht.block r hrl hn).trans hr, ho.ats (fun g h3 => ht.block g (ho.at_base g h3).2 (hg g h3).2.1), hz, hq, hn, hg⟩, ok, ⟨dok.size, by show _ ≤ (settleK _ _ _ _).length; rw [settleK_len]; exact dok.n⟩, fun k hk => Nat.lt_of_lt_of_le (lt k hk) ht.size⟩, ht.os, ht.tape, ht.output, ht.size, fun k hk hq' => ht.block k hk (fun h3 => hq' (hz k h3)), fun k hk => .inl hk⟩
theorem Tnd.grown {Z : Nat → Prop} {w w' : World} {r : Nat} (hg : w.grownBy w' (some r)) (hr : Z r) : Tnd Z Z w w' := ⟨hg.os, hg.tape, hg.output, hg.size, fun k hk hz => hg.block k hk (fun e => by injection e with e; exact hz (e ▸ hr)), fun _ h => .inl h⟩
theorem RiIn.row {w w' : World} {Q : Nat → Prop} {r d : Nat} {st : Dk} {J J' : Jr} (h : RiIn w Q r d st J) (f : ∀ sv, w.heap[r]? = some (rowJ d sv J) → w'.heap[r]? = some (rowJ d sv J')) (hks : J'.ks = J.ks) (hg : w.grownBy w' (some r)) (ok' : JOk J') (dok' : DOk st J') : RiIn w' Q r d st J' ∧ Tnd Q Q w w' := by
  obtain ⟨⟨Z, sv, hd, hr, ho, hz, hq, hn, hgg⟩, ok, dok, lt⟩ := h
  refine ⟨⟨⟨Z, sv, hd.same (fun x hx => hg.block x (hd.1 x hx) (fun e => by injection e with e; exact hn (e ▸ hx))) hg.size, f sv hr, ?_, hz, hq, hn, hgg⟩, ok', dok', fun k hk => Nat.lt_of_lt_of_le (lt k hk) hg.size⟩, Tnd.grown hg hq⟩
  rw [hks]
  exact ho.ats (fun g h3 => hg.block g (ho.at_base g h3).2 (fun e => by injection e with e; exact (hgg g h3).2.2 e))
theorem foldJ (x0 x1 x2 x3 x4 x5 x6 x7 x8 y4 y5 y6 y7 : Value) : List.foldl (fun (c : Array Value) (p : Nat × Value) => c.setIfInBounds p.1 p.2) #[x0, x1, x2, x3, x4, x5, x6, x7, x8] [(4, y4), (5, y5), (6, y6), (7, y7)] = #[x0, x1, x2, x3, y4, y5, y6, y7, x8] := rfl
/-- The state stored in the journal's block. -/
theorem RiIn.head {w : World} {Q : Nat → Prop} {r d : Nat} {st : Dk} {J : Jr} (h : RiIn w Q r d st J) (g : Hd) (hw : g.Wf) (hs : g.start < (J.n : Int) - 2) : RiIn (setsR w r [(4, .int .u64 g.turn), (5, .int .u64 g.first), (6, .int .u64 g.next), (7, .int .i64 g.start)]) Q r d st { J with h := g } ∧ Tnd Q Q w (setsR w r [(4, .int .u64 g.turn), (5, .int .u64 g.first), (6, .int .u64 g.next), (7, .int .i64 g.start)]) :=
  h.row (fun sv hr => by have := setsR_row [(4, .int .u64 g.turn), (5, .int .u64 g.first), (6, .int .u64 g.next), (7, .int .i64 g.start)] hr; rw [foldJ] at this; exact this) rfl (setsR_grown _ _) ⟨h.ok.n4, h.ok.n1, h.ok.lo, h.ok.s0, h.ok.s1, hw, hs, h.ok.ks, h.ok.kp⟩ ⟨h.dok.size, h.dok.n⟩
def Hd.up (h : Hd) : Hd := ⟨h.turn + 1, h.first, h.next, h.start⟩
/-- What the next state's write makes of the disk, and of the journal. -/
def tuS (st : Dk) (J : Jr) (h : Hd) : Dk := if st.armed = 1 then cutS st st.keep else flushS (putS st ((J.lo : Int) + h.up.turn % 2) (hdS J.size h.up))
def tuJ (st : Dk) (J : Jr) (h : Hd) : Jr := if st.armed = 1 then J else { J with h := h.up }
set_option linter.unusedSimpArgs false in
set_option linter.unusedVariables false in
set_option maxRecDepth 100000 in
set_option maxHeartbeats 8000000 in
theorem turnto_any (Q : Nat → Prop) (r d : Nat) (st : Dk) (J : Jr) (h : Hd) (w0 : World) (hR : RiIn w0 Q r d st J) (hoff : st.off = false) (hh : h.Wf) (ht : h.turn < 18446744073709551615) (hs : h.start < (J.n : Int) - 2) (hfew : st.pend.length + 1 ≤ 1000000) (hwr : st.writes + 1 ≤ 4611686018427387904) :
    Calls Try.prog 38 #[.pointer (some ⟨r, 0, none⟩), h.val] w0 fun e w' => e = .returned (.int .i64 (wr1E st)) ∧ ∃ Q', RiIn w' Q' r d (tuS st J h) (tuJ st J h) ∧ Tnd Q Q' w0 w' := by
  have hup : h.up.Wf := ⟨by have := hh.t0; show 0 ≤ h.turn + 1; omega, by show h.turn + 1 ≤ _; omega, hh.f0, hh.f1, hh.n0, hh.n1, hh.s0, hh.s1⟩
  have HWR : Hid (∀ w1, RiIn w1 Q r d st J → Calls Try.prog 43 #[.pointer (some ⟨r, 0, none⟩), h.up.val] w1 fun e w' => e = .returned (.int .i64 (wr1E st)) ∧ ∃ Q', RiIn w' Q' r d (wr1 st ((J.lo : Int) + h.up.turn % 2) (hdS J.size h.up)) J ∧ Tnd Q Q' w1 w') := fun w1 h1 => rwrite_any Q r d st J h.up w1 h1 hoff hup hfew hwr
  have RI := Lib.hid hR
  have HUP := Lib.hid hup
  have HS := Lib.hid hs
  have hlt := hR.lt
  have HLT := Lib.hid hlt
  have hT0 := hh.t0
  obtain ⟨ta, fa, xa, sa⟩ := h
  replace ht : ta < 18446744073709551615 := ht
  replace hT0 : 0 ≤ ta := hT0
  show Calls _ _ #[_, .agg #[.int .u64 ta, .int .u64 fa, .int .u64 xa, .int .i64 sa]] _ _
  replace HWR : Hid (∀ w1, RiIn w1 Q r d st J → Calls Try.prog 43 #[.pointer (some ⟨r, 0, none⟩), .agg #[.int .u64 (ta + 1), .int .u64 fa, .int .u64 xa, .int .i64 sa]] w1 fun e w' => e = .returned (.int .i64 (wr1E st)) ∧ ∃ Q', RiIn w' Q' r d (wr1 st ((J.lo : Int) + (ta + 1) % 2) (hdS J.size ⟨ta + 1, fa, xa, sa⟩)) J ∧ Tnd Q Q' w1 w') := HWR
  replace HUP : Hid ((⟨ta + 1, fa, xa, sa⟩ : Hd).Wf) := HUP
  replace HS : Hid (sa < (J.n : Int) - 2) := HS
  have HTS : Hid (tuS st J ⟨ta, fa, xa, sa⟩ = if st.armed = 1 then cutS st st.keep else flushS (putS st ((J.lo : Int) + (ta + 1) % 2) (hdS J.size ⟨ta + 1, fa, xa, sa⟩))) := rfl
  have HTJ : Hid (tuJ st J ⟨ta, fa, xa, sa⟩ = if st.armed = 1 then J else { J with h := ⟨ta + 1, fa, xa, sa⟩ }) := rfl
  have hw1 : IntKind.u64.wrap (ta + 1) = ta + 1 := by rw [IntKind.wrap_u64]; omega
  obtain ⟨hb, hhb⟩ : ∃ hb, w0.heap.size = hb := ⟨_, rfl⟩
  have hOF := hoff
  have HOFF := Lib.hid hoff
  clear hR hup hs hlt hh hoff hfew hwr hOF
  go_enter Try.func38, Try.ntmps38
  have hrow := heap_alloc_new w0 (.cells #[.int .u64 (ta + 1), .int .u64 fa, .int .u64 xa, .int .i64 sa] 76)
  have hba : Below w0.heap.size w0 (w0.alloc (.cells #[.int .u64 (ta + 1), .int .u64 fa, .int .u64 xa, .int .i64 sa] 76)) := (Below.refl _ _).alloc (Nat.le_refl _) _
  go_wp2_with fail
  obtain ⟨wa, hwa⟩ : ∃ wa, w0.alloc (.cells #[.int .u64 (ta + 1), .int .u64 fa, .int .u64 xa, .int .i64 sa] 76) = wa := ⟨_, rfl⟩
  rw [hwa, hhb] at hrow
  rw [hwa] at hba
  rw [hwa]
  refine (HWR.out wa (RI.out.below hba)).mono ?_
  rintro e w1 ⟨rfl, Q1, hr1, ht1⟩
  have T1 := Lib.hid (Tnd.below_l hba ht1)
  have R1 := Lib.hid hr1
  have hbl := (Array.getElem?_eq_some_iff.1 hrow).1
  have hbq : ¬ Q hb := fun hq => by have := HLT.out hb hq; omega
  have HROW := Lib.hid ((ht1.block hb hbl hbq).trans hrow)
  have hbl1 : hb < w1.heap.size := Nat.lt_of_lt_of_le hbl ht1.size
  have hbq1 : ¬ Q1 hb := fun hq => by
    rcases ht1.sub hb hq with h1 | h1
    · exact hbq h1
    · omega
  clear hr1 ht1 hrow hba hwa
  by_cases harm : st.armed = 1
  · have e1 : wr1E st = 8 := by unfold wr1E; rw [if_pos harm]
    have E2 : Hid (wr1 st ((J.lo : Int) + (ta + 1) % 2) (hdS J.size ⟨ta + 1, fa, xa, sa⟩) = cutS st st.keep) := by show _ = _; unfold wr1; rw [if_pos harm]
    have HTS2 : Hid (tuS st J ⟨ta, fa, xa, sa⟩ = cutS st st.keep) := by show _ = _; rw [HTS.out, if_pos harm]
    have HTJ2 : Hid (tuJ st J ⟨ta, fa, xa, sa⟩ = J) := by show _ = _; rw [HTJ.out, if_pos harm]
    have EE1 := Lib.hid e1
    rw [e1]
    clear e1 harm
    go_wp2_with fail
    go_ret
    refine ⟨by rw [EE1.out]; rfl, Q1, ?_, T1.out⟩
    rw [HTS2.out, HTJ2.out, ← E2.out]
    exact R1.out
  · have e1 : wr1E st = 0 := by unfold wr1E; rw [if_neg harm]
    have E2 : Hid (wr1 st ((J.lo : Int) + (ta + 1) % 2) (hdS J.size ⟨ta + 1, fa, xa, sa⟩) = putS st ((J.lo : Int) + (ta + 1) % 2) (hdS J.size ⟨ta + 1, fa, xa, sa⟩)) := by show _ = _; unfold wr1; rw [if_neg harm]
    have HTS2 : Hid (tuS st J ⟨ta, fa, xa, sa⟩ = flushS (putS st ((J.lo : Int) + (ta + 1) % 2) (hdS J.size ⟨ta + 1, fa, xa, sa⟩))) := by show _ = _; rw [HTS.out, if_neg harm]
    have HTJ2 : Hid (tuJ st J ⟨ta, fa, xa, sa⟩ = { J with h := ⟨ta + 1, fa, xa, sa⟩ }) := by show _ = _; rw [HTJ.out, if_neg harm]
    have EE1 := Lib.hid e1
    rw [e1]
    clear e1 harm
    obtain ⟨P, hP⟩ : ∃ P, putS st ((J.lo : Int) + (ta + 1) % 2) (hdS J.size ⟨ta + 1, fa, xa, sa⟩) = P := ⟨_, rfl⟩
    have hPo : P.off = false := by rw [← hP]; exact HOFF.out
    rw [hP] at E2 HTS2
    have R2 : Hid (RiIn w1 Q1 r d P J) := by
      have h := R1.out
      rw [E2.out] at h
      exact h
    have HFL := Lib.hid (R2.out.flush hPo)
    obtain ⟨⟨Z, sv, _, hr, _⟩, _⟩ := R2.out
    obtain ⟨y0, y1, y2, y3, y4, y5, y6, y7, y8, yf⟩ := cellsJ hr
    clear hP hPo hr R1 E2
    go_wp2_with fail
    refine HFL.out.mono ?_
    rintro e w2 ⟨rfl, hr2, ht2⟩
    have R3 := Lib.hid hr2
    have T2 := Lib.hid ht2
    obtain ⟨q0, q1, q2, q3⟩ := cells4 ((ht2.block hb hbl1 hbq1).trans HROW.out)
    clear y0 y1 y2 y3 y4 y5 y6 y7 y8 yf hr2 ht2
    obtain ⟨⟨Z2, sv2, _, hr, _⟩, _⟩ := R3.out
    obtain ⟨y0, y1, y2, y3, y4, y5, y6, y7, y8, yf⟩ := cellsJ hr
    clear hr
    go_wp2_with fail
    change bodyPost _ _ _ _ _ (setsR w2 r [(4, .int .u64 (ta + 1)), (5, .int .u64 fa), (6, .int .u64 xa), (7, .int .i64 sa)])
    obtain ⟨h1, h2⟩ := R3.out.head ⟨ta + 1, fa, xa, sa⟩ HUP.out HS.out
    go_ret
    refine ⟨by rw [EE1.out]; rfl, Q1, ?_, T1.out.trans (T2.out.trans h2)⟩
    rw [HTS2.out, HTJ2.out]
    exact h1
end Go.Proofs.Ytlhpdkapddnbcaa

namespace Go.Proofs.Ytlhpdkapddnbcaa
open Go.RowKit
def rowInfoR : Prop := (Try.prog.info? 36).map (fun i => (i.zero, i.size, i.bytes)) = some (some (.slice none 0 0), 1, 24)
theorem rowIR : rowInfoR := by unfold rowInfoR; kernel_rfl
set_option maxRecDepth 100000 in
theorem rowTR : Try.prog.underlying 28 = some (.slice 36) := Try.underlying28
/-- A row of slices, none of whose blocks is in Q. -/
structure RowsIn (w : World) (Q : Nat → Prop) (v : Value) (vs : List Value) (ls : List (List Int)) : Prop where
  own : w.ownsRow 0 36 1 v vs.length vs
  len : vs.length = ls.length
  nq : ∀ g, v.ownBlock = some g → ¬ Q g
  each : ∀ (i : Nat) (l : List Int), ls[i]? = some l → ∃ a n c, vs[i]? = some (.slice a n c) ∧ RdAt .u8 w a n c l ∧ ∀ x, a = some x → 0 < n → ¬ Q x.block ∧ some x.block ≠ v.ownBlock
theorem RowsIn.nil (w : World) (Q : Nat → Prop) : RowsIn w Q (.slice none 0 0) [] [] := ⟨⟨rfl, .inl ⟨rfl, rfl⟩⟩, rfl, fun g h => (by simp [Value.ownBlock] at h), fun i l h => by simp at h⟩
theorem RowsIn.shape {w : World} {Q : Nat → Prop} {v : Value} {vs : List Value} {ls : List (List Int)} (h : RowsIn w Q v vs ls) : ∃ a c, v = .slice a vs.length c := by
  rcases h.own.2 with ⟨hv, hn⟩ | ⟨g, cap, cur, hv, _⟩
  · exact ⟨none, 0, by rw [hv, hn]⟩
  · exact ⟨_, _, hv⟩
theorem rd_keepR {kd : IntKind} {w w' : World} {a : Option Addr} {n c : Nat} {l : List Int} (h : RdAt kd w a n c l) (hb : ∀ x, a = some x → 0 < n → w'.heap[x.block]? = w.heap[x.block]?) : RdAt kd w' a n c l :=
  ⟨h.len, h.cap, h.max, fun i hi => by
    obtain ⟨b, o, e, hc⟩ := h.cell i hi
    exact ⟨b, o, e, by rw [← hc]; exact World.cell?_of_block (a := ⟨b, o + i, none⟩) (hb ⟨b, o, none⟩ e (by omega))⟩, h.wf, h.void⟩
theorem rd_ltR {kd : IntKind} {w : World} {a : Option Addr} {n c : Nat} {l : List Int} (h : RdAt kd w a n c l) : ∀ x, a = some x → 0 < n → x.block < w.heap.size := fun x hx hn => by
  obtain ⟨b, o, e, hc⟩ := h.cell 0 hn
  rw [hx] at e
  injection e with e
  subst e
  exact block_lt_of_cell hc
theorem RowsIn.tnd {w w' : World} {Q Q' : Nat → Prop} {v : Value} {vs : List Value} {ls : List (List Int)} (h : RowsIn w Q v vs ls) (t : Tnd Q Q' w w') : RowsIn w' Q' v vs ls := by
  have hlt := fun g hg => (h.own.lt g hg).2
  have hnew : ∀ k, k < w.heap.size → ¬ Q k → ¬ Q' k := fun k h1 h2 h3 => by
    rcases t.sub k h3 with h4 | h4
    · exact h2 h4
    · omega
  refine ⟨ownsRow_at h.own (fun g hg => t.block g (hlt g hg) (h.nq g hg)), h.len, fun g hg => hnew g (hlt g hg) (h.nq g hg), fun i l hl => ?_⟩
  obtain ⟨a, n, c, h1, h2, h3⟩ := h.each i l hl
  exact ⟨a, n, c, h1, rd_keepR h2 (fun x hx hn => t.block x.block (rd_ltR h2 x hx hn) (h3 x hx hn).1), fun x hx hn => ⟨hnew _ (rd_ltR h2 x hx hn) (h3 x hx hn).1, (h3 x hx hn).2⟩⟩
theorem RowsIn.below {w w' : World} {Q : Nat → Prop} {v : Value} {vs : List Value} {ls : List (List Int)} (h : RowsIn w Q v vs ls) (b : Below w.heap.size w w') : RowsIn w' Q v vs ls := h.tnd (below_tnd b Q)
theorem RowsIn.push {w w' : World} {Q : Nat → Prop} {v v' : Value} {vs : List Value} {ls : List (List Int)} (h : RowsIn w Q v vs ls) {a : Option Addr} {n c : Nat} {l : List Int} (hr : RdAt .u8 w a n c l) (hq : ∀ x, a = some x → 0 < n → ¬ Q x.block ∧ some x.block ≠ v.ownBlock)
    (hQ : ∀ k, Q k → k < w.heap.size) (ho : w'.ownsRow 0 36 1 v' (vs.length + 1) (vs ++ [.slice a n c])) (hg : w.grownBy w' v.ownBlock) (hb : v'.ownBlock = v.ownBlock ∨ ∀ g, v'.ownBlock = some g → w.heap.size ≤ g) : RowsIn w' Q v' (vs ++ [.slice a n c]) (ls ++ [l]) := by
  have hne : ∀ k, k < w.heap.size → some k ≠ v.ownBlock → some k ≠ v'.ownBlock := fun k h1 h2 h3 => by
    rcases hb with h4 | h4
    · exact h2 (h3.trans h4)
    · have := h4 k h3.symm; omega
  have hgb : ∀ (a : Option Addr) (n c : Nat) (l : List Int), RdAt .u8 w a n c l → (∀ x, a = some x → 0 < n → ¬ Q x.block ∧ some x.block ≠ v.ownBlock) → RdAt .u8 w' a n c l ∧ ∀ x, a = some x → 0 < n → ¬ Q x.block ∧ some x.block ≠ v'.ownBlock := fun a n c l h1 h2 =>
    ⟨rd_keepR h1 (fun x hx hn => hg.block x.block (rd_ltR h1 x hx hn) (h2 x hx hn).2), fun x hx hn => ⟨(h2 x hx hn).1, hne _ (rd_ltR h1 x hx hn) (h2 x hx hn).2⟩⟩
  refine ⟨by simpa using ho, by simp [h.len], fun g hg' => ?_, fun i l' hl => ?_⟩
  · rcases hb with h4 | h4
    · exact h.nq g (by rw [← h4]; exact hg')
    · intro h5
      have := h4 g hg'
      have := hQ g h5
      omega
  · by_cases e : i < ls.length
    · rw [List.getElem?_append_left e] at hl
      obtain ⟨a', n', c', h1, h2, h3⟩ := h.each i l' hl
      obtain ⟨h4, h5⟩ := hgb a' n' c' l' h2 h3
      exact ⟨a', n', c', by rw [List.getElem?_append_left (by rw [h.len]; exact e)]; exact h1, h4, h5⟩
    · have hi : i = ls.length := by
        have := (List.getElem?_eq_some_iff.1 hl).1
        simp at this
        omega
      subst hi
      simp at hl
      subst hl
      obtain ⟨h4, h5⟩ := hgb a n c l hr hq
      exact ⟨a, n, c, by rw [← h.len]; simp, h4, h5⟩
section
variable {ops : Array Oper} {rest : List Oper} {o : Oper} {act : Act} {E : Exit → Act → World → Prop}
set_option maxRecDepth 100000 in
/-- append(rows, b): one more. -/
theorem rowsin_one (hg : o.guard = none) (s x : Operand) (ho : o.op = .call { callee := .builtin .append, args := #[s, x], argTypes := #[28, 28] }) (w : World) (Q : Nat → Prop) (v : Value) (vs : List Value) (ls : List (List Int))
    (hs : act.eval s = v) (h : RowsIn w Q v vs ls) (a : Option Addr) (n c : Nat) (l : List Int) (hr : RdAt .u8 w a n c l) (hq : ∀ x, a = some x → 0 < n → ¬ Q x.block ∧ some x.block ≠ v.ownBlock) (hQ : ∀ k, Q k → k < w.heap.size) (hx : act.eval x = .slice (some ⟨w.heap.size, 0, none⟩) 1 1) (hlen : vs.length ≤ 1000000)
    (hK : ∀ v' w', RowsIn w' Q v' (vs ++ [.slice a n c]) (ls ++ [l]) → w.grownBy w' v.ownBlock → (v'.ownBlock = v.ownBlock ∨ ∀ g, v'.ownBlock = some g → w.heap.size ≤ g) → wpList Try.prog ops E rest (act.put o.dst v') w') :
    wpList Try.prog ops E (o :: rest) act (w.alloc (.cells #[.slice a n c] 36)) := by
  obtain ⟨i, hi, hz0, hz1, hz2⟩ := info_parts rowIR
  have hba : Below w.heap.size w (w.alloc (.cells #[.slice a n c] 36)) := (Below.refl _ _).alloc (Nat.le_refl _) _
  refine wpList_append_own_at _ hg s x _ ho 0 36 i (.slice none 0 0) 1 24 rowTR hi hz0 hz1 hz2 rfl (by decide) v vs.length vs hs (h.own.alloc _) ⟨w.heap.size, 0, none⟩ 1 1 [.slice a n c] hx rfl ?_ ?_ ?_ ?_ ?_ ?_
  · intro j u hj
    cases j with
    | zero =>
      simp at hj
      subst hj
      simp [Addr.add]
    | succ j => simp at hj
  · intro u hu
    simp at hu
    subst hu
    rfl
  · unfold maxLen; omega
  · omega
  · omega
  · intro v' w' h1 h2 _ h4
    have hsz : (w.alloc (.cells #[.slice a n c] 36)).heap.size = w.heap.size + 1 := by simp
    have h5 : w.grownBy w' v.ownBlock := ⟨h2.os.trans hba.os, h2.tape.trans hba.tape, h2.output.trans hba.output, Nat.le_trans hba.size h2.size, fun k hk hne => (h2.block k (Nat.lt_of_lt_of_le hk hba.size) hne).trans (hba.block k hk)⟩
    have h7 : v'.ownBlock = v.ownBlock ∨ ∀ g, v'.ownBlock = some g → w.heap.size ≤ g := h4.imp id fun h6 g hg' => by
      rw [h6] at hg'
      injection hg' with hg'
      omega
    exact hK v' w' (h.push hr hq hQ h1 h5 h7) h5 h7
end
/-- The records that Open reads. -/
def opF (kx : Nat → List Int) (lo n size : Nat) : Nat → Nat → Int → Nat → Option (List (List Int))
  | 0, _, _, _ => some []
  | c + 1, p, num, left => (recF kx lo n size p num left).bind fun b => (opF kx lo n size c ((p + ndN size b.length) % (n - 2)) (num + 1) (left - ndN size b.length)).map (b :: ·)
theorem nd_mul {size len K : Nat} (hs : 64 ≤ size) (h : ndN size len ≤ K) : len ≤ K * (size - 18) := by
  unfold ndN at h
  obtain ⟨R, hR⟩ : ∃ R, size - 18 = R := ⟨_, rfl⟩
  rw [hR] at h ⊢
  have h1 : (len + R - 1) / R < K + 1 := by omega
  rw [Nat.div_lt_iff_lt_mul (by omega), Nat.add_mul] at h1
  omega
theorem nd_lt {size len k : Nat} (hs : 64 ≤ size) (hk : 0 < k) (h : k < ndN size len) : k * (size - 18) < len := by
  unfold ndN at h
  obtain ⟨R, hR⟩ : ∃ R, size - 18 = R := ⟨_, rfl⟩
  rw [hR] at h ⊢
  have h1 : k + 1 ≤ (len + R - 1) / R := by omega
  have h2 : (k + 1) * R ≤ len + R - 1 := (Nat.le_div_iff_mul_le (by omega)).1 h1
  rw [Nat.add_mul] at h2
  omega
/-- A record takes no more sectors than there were left. -/
theorem recGo_len (kx : Nat → List Int) (lo n size at0 : Nat) (num : Int) (hs : 64 ≤ size) (hx : ∀ i, (kx (lo + 2 + i % (n - 2))).length = size) :
    ∀ (f k len : Nat) (out b : List Int), recGo kx lo n size at0 num f k len out = some b → ((k = 0 ∧ out = []) ∨ (0 < k ∧ out.length = min len (k * (size - 18)))) → ndN size b.length ≤ k + f
  | 0, k, len, out, b, h, hi => by
    unfold recGo at h
    split at h
    · cases h
    · rename_i hm
      injection h with h
      subst h
      rcases hi with ⟨h1, _⟩ | ⟨h1, h2⟩
      · exact absurd (.inl h1) hm
      · have h3 : ndN size len ≤ k := by have : ¬ k < ndN size len := fun h => hm (.inr h); omega
        have h4 := nd_mul hs h3
        rw [h2, Nat.min_eq_left h4]
        omega
  | f + 1, k, len, out, b, h, hi => by
    unfold recGo at h
    split at h
    · rename_i hm
      cases hp : recS size (kx (lo + 2 + (at0 + k) % (n - 2))) num k len out with
      | none => rw [hp] at h; cases h
      | some p =>
        rw [hp] at h
        have h9 := recGo_len kx lo n size at0 num hs hx f (k + 1) p.1 p.2 b h (.inr ⟨by omega, ?_⟩)
        · omega
        · unfold recS at hp
          split at hp
          · rename_i hop
            split at hp
            · rename_i hk
              injection hp with hp
              subst hp
              have hl := hx (at0 + k)
              obtain ⟨X, hX⟩ : ∃ X, kx (lo + 2 + (at0 + k) % (n - 2)) = X := ⟨_, rfl⟩
              rw [hX] at hl hk hop ⊢
              have hB : (openL X).length = size - 4 := by unfold openL; rw [if_pos hop, List.length_take]; omega
              unfold recP
              show (out ++ _).length = _
              rw [List.length_append, List.length_take, List.length_drop, hB, Nat.add_mul]
              obtain ⟨R, hR⟩ : ∃ R, size - 18 = R := ⟨_, rfl⟩
              rw [hR, show size - 4 - 14 = R by omega]
              rcases hi with ⟨h1, h2⟩ | ⟨h1, h2⟩
              · rw [h1, h2, Nat.zero_mul, List.length_nil]
                omega
              · have h3 := nd_lt hs h1 (hm.resolve_left (by omega))
                rw [hR] at h2 h3
                unfold recK at hk
                simp only [Bool.and_eq_true, Bool.or_eq_true, decide_eq_true_eq] at hk
                have h4 : (getK ((openL X).drop 10) 4).toNat = len := by
                  rcases hk.2 with h | h
                  · omega
                  · rw [h]; rfl
                rw [h4, h2]
                obtain ⟨p, hp⟩ : ∃ p, k * R = p := ⟨_, rfl⟩
                rw [hp] at h3 ⊢
                omega
            · cases hp
          · cases hp
    · rename_i hm
      injection h with h
      subst h
      rcases hi with ⟨h1, _⟩ | ⟨h1, h2⟩
      · exact absurd (.inl h1) hm
      · have h3 : ndN size len ≤ k := by have : ¬ k < ndN size len := fun h => hm (.inr h); omega
        have h4 := nd_mul hs h3
        rw [h2, Nat.min_eq_left h4]
        omega
theorem recF_len {kx : Nat → List Int} {lo n size at0 most : Nat} {num : Int} {b : List Int} (hs : 64 ≤ size) (hx : ∀ i, (kx (lo + 2 + i % (n - 2))).length = size) (h : recF kx lo n size at0 num most = some b) : ndN size b.length ≤ most := by
  have := recGo_len kx lo n size at0 num hs hx most 0 0 [] b h (.inl ⟨rfl, rfl⟩)
  omega
end Go.Proofs.Ytlhpdkapddnbcaa

namespace Go.Proofs.Ytlhpdkapddnbcaa
open Go.RowKit
theorem DkIn.secBytes {w : World} {Z : Nat → Prop} {d : Nat} {st : Dk} (h : DkIn w Z d st) (s : Nat) : Bytes (secB st s) := by
  obtain ⟨_, kb, mb, pv, kv, vals, pvs, p⟩ := h
  have hrd : ∀ {M Z : Nat → Prop} {v : Value} {l : List Int}, SlcV w M Z v l → Bytes l := fun h x hx => by
    obtain ⟨b, o, n, c, _, hr, _⟩ := h
    exact wf_u8_bd (hr.wf x hx)
  unfold secB
  split
  · rename_i i hi
    cases hq : st.pend[i.toNat]? with
    | none => intro x hx; simp at hx
    | some q =>
      obtain ⟨v, _, hv⟩ := p.pvals.get hq
      exact hrd hv
  · cases hq : st.kept[s]? with
    | none => intro x hx; simp at hx
    | some l =>
      obtain ⟨v, _, hv⟩ := p.kvals.get hq
      rcases hv with ⟨_, h2⟩ | h2
      · intro x hx
        rw [Option.getD_some, h2] at hx
        rw [List.eq_of_mem_replicate hx]
        omega
      · exact hrd h2
def stepT (t : Int) : Option Hd → Int
  | none => t
  | some h => if h.turn < 4611686018427387904 then max t (h.turn / 2 * 2 + 4) else t
/-- The turn that a journal begins with, behind what stood there. -/
def fmT (n : Nat) (x : Nat → List Int) : Nat → Int
  | 0 => 0
  | k + 1 => stepT (fmT n x k) (hdR n (x k) k)
theorem fmT_bd (n : Nat) (x : Nat → List Int) : ∀ k, 0 ≤ fmT n x k ∧ fmT n x k ≤ 4611686018427387908 ∧ fmT n x k % 2 = 0
  | 0 => by unfold fmT; decide
  | k + 1 => by
    have h := fmT_bd n x k
    unfold fmT stepT
    split
    · exact h
    · split <;> omega
def hdI (t : Int) : Hd := ⟨t, 1, 1, 0⟩
theorem hdI_wf {t : Int} (h0 : 0 ≤ t) (h1 : t ≤ 18446744073709551615) : (hdI t).Wf := ⟨h0, h1, by show (0 : Int) ≤ 1; decide, by show (1 : Int) ≤ 18446744073709551615; decide, by show (0 : Int) ≤ 1; decide, by show (1 : Int) ≤ 18446744073709551615; decide, by show (0 : Int) ≤ 0; decide, by show (0 : Int) ≤ 65536; decide⟩
/-- The disk behind Format. -/
def fmS (st : Dk) (lo size : Nat) (t : Int) : Dk := flushS (putS (putS (st.rd (st.reads + 2)) lo (hdS size (hdI t))) ((lo + 1 : Nat) : Int) (hdS size (hdI (t + 1))))
def fmJ (lo n size : Nat) (t : Int) : Jr := ⟨lo, n, size, hdI (t + 1), []⟩
set_option linter.unusedSimpArgs false in
set_option linter.unusedVariables false in
set_option maxRecDepth 100000 in
set_option maxHeartbeats 8000000 in
theorem format_any (Z : Nat → Prop) (d : Nat) (st : Dk) (lo n : Nat) (w0 : World) (h : DkIn w0 Z d st) (h4 : 4 ≤ n) (hn : lo + n ≤ st.kept.length) (hoff : st.off = false) (harm : st.armed = 0) (hpend : st.pend = []) (hrd : st.reads + 2 ≤ 4611686018427387904) (hwr : st.writes + 2 ≤ 4611686018427387904) :
    Calls Try.prog 14 #[.pointer (some ⟨d, 0, none⟩), .int .i64 (lo : Int), .int .i64 (n : Int)] w0 fun e w' => ∃ r, e = .returned (.tuple #[.pointer (some ⟨r, 0, none⟩), .nilIface]) ∧ ∃ Q', RiIn w' Q' r d (fmS st lo st.size (fmT n (fun k => secB st (lo + k)) 2)) (fmJ lo n st.size (fmT n (fun k => secB st (lo + k)) 2)) ∧ Tnd Z Q' w0 w' := by
  have HON := Lib.hid (ron_any Z d st lo n w0 h h4 hn)
  have hbytes : ∀ k, Bytes (secB st (lo + k)) := fun k => h.secBytes _
  have hn65 : n ≤ 65536 := by have := h.okR.n.2; omega
  obtain ⟨S, hS⟩ : ∃ S, st.size = S := ⟨_, rfl⟩
  rw [hS] at HON
  rw [hS]
  have HZ := Lib.hid h.1
  obtain ⟨x, hx⟩ : ∃ x, (fun k => secB st (lo + k)) = x := ⟨_, rfl⟩
  have HX : Hid (∀ k, secB st (lo + k) = x k) := fun k => by rw [← hx]
  have HBY : Hid (∀ k, Bytes (x k)) := fun k => by rw [← HX.out]; exact hbytes k
  clear hbytes
  rw [hx]
  have HRD : Hid (∀ (Q : Nat → Prop) (r k : Nat) (R : Int) (w : World), RiIn w Q r d (st.rd R) ⟨lo, n, S, hd0, []⟩ → k ≤ 1 → R + 1 ≤ 4611686018427387904 → Calls Try.prog 42 #[.pointer (some ⟨r, 0, none⟩), .int .i64 (k : Int)] w fun e w' => e = .returned (.tuple #[((hdR n (x k) k).getD hd0).val, .int .i64 (hdE (hdR n (x k) k))]) ∧ RiIn w' Q r d (st.rd (R + 1)) ⟨lo, n, S, hd0, []⟩ ∧ Tnd Q Q w w') := fun Q r k R w h1 h2 h3 => by
    have := rread_any Q r d (st.rd R) ⟨lo, n, S, hd0, []⟩ k w h1 hoff h2 h3
    rw [show secB (st.rd R) ((⟨lo, n, S, hd0, []⟩ : Jr).lo + k) = x k from HX.out k] at this
    exact this
  obtain ⟨rd0, hrd0⟩ : ∃ y, st.reads = y := ⟨_, rfl⟩
  have HRD0 := Lib.hid hrd0
  rw [hrd0] at hrd
  have hbt := fmT_bd n x 2
  obtain ⟨t, ht⟩ : ∃ t, fmT n x 2 = t := ⟨_, rfl⟩
  rw [ht] at hbt ⊢
  have HT := Lib.hid ht
  have HOFF := Lib.hid hoff
  have HARM := Lib.hid harm
  have HPEND := Lib.hid hpend
  have HWR := Lib.hid hwr
  clear h hS hx hoff hrd0 ht harm hpend hwr
  go_enter Try.func14, Try.ntmps14
  go_wp2_with fail
  refine HON.out.mono ?_
  rintro e w1 ⟨r, rfl, hr1, hb1, hrg⟩
  obtain ⟨Q, hQ⟩ : ∃ Q : Nat → Prop, (fun k => Z k ∨ k = r) = Q := ⟨_, rfl⟩
  rw [hQ] at hr1
  have R1 : Hid (RiIn w1 Q r d (st.rd rd0) ⟨lo, n, S, hd0, []⟩) := by rw [← HRD0.out]; exact hr1
  have T1 : Hid (Tnd Z Q w0 w1) := ⟨hb1.os, hb1.tape, hb1.output, hb1.size, fun k hk _ => hb1.block k hk, fun k hk => by
    rw [← hQ] at hk
    rcases hk with h | h
    · exact .inl h
    · exact .inr (by omega)⟩
  clear hr1 hb1 hrg hQ HON
  go_wp2_with fail
  go_loopw [10, 28] (fun tv i wr => ∃ (k : Nat) (tn : Int), k ≤ 2 ∧ i = .int .i64 k ∧ tv = .int .u64 tn ∧ Hid (RiIn wr Q r d (st.rd (rd0 + k)) ⟨lo, n, S, hd0, []⟩) ∧ Hid (Tnd Z Q w0 wr) ∧ Hid (fmT n x k = tn) ∧ 0 ≤ tn ∧ tn ≤ 4611686018427387908) (fun _ i _ => 2 - (intOf i).toNat)
  case atStart => exact ⟨0, 0, by omega, rfl, rfl, by rw [show rd0 + ((0 : Nat) : Int) = rd0 by omega]; exact R1.out, T1.out, rfl, by omega, by omega⟩
  case round =>
    obtain ⟨k, tn, hk, rfl, rfl, RK, TK, FK, ht0, ht1⟩ := hrel
    clear R1 T1
    by_cases hk2 : k < 2
    · have dk : decide ((k : Int) < 2) = true := decide_eq_true (by omega)
      have HF : Hid (fmT n x (k + 1) = stepT tn (hdR n (x k) k)) := by show stepT (fmT n x k) _ = _; rw [FK.out]
      have HRK := Lib.hid (HRD.out Q r k (rd0 + k) wr RK.out (by omega) (by omega))
      have HB : Hid ((hdR n (x k) k).getD hd0 = (hdR n (x k) k).getD hd0) := rfl
      obtain ⟨o, ho⟩ : ∃ o, hdR n (x k) k = o := ⟨_, rfl⟩
      rw [ho] at HF HRK
      have HO := Lib.hid ho
      clear ho HB
      go_wp2_with fail
      refine HRK.out.mono ?_
      rintro e w2 ⟨rfl, hr2, ht2⟩
      have R2 := Lib.hid hr2
      have T2 := Lib.hid (TK.out.trans ht2)
      clear hr2 ht2 HRK
      cases o with
      | none =>
        simp only [Option.getD_none, hd0, Hd.val, hdE]
        have hba : Below w2.heap.size w2 (w2.alloc (.cells #[.int .u64 0, .int .u64 0, .int .u64 0, .int .i64 0] 76)) := (Below.refl _ _).alloc (Nat.le_refl _) _
        go_wp2_with fail
        go_roundw
        case rel => exact ⟨k + 1, tn, by omega, by go_num, rfl, by rw [show rd0 + ((k + 1 : Nat) : Int) = rd0 + k + 1 by omega]; exact R2.out.below hba, T2.out.below_r hba, HF.out, ht0, ht1⟩
        case measure => simp [intOf] <;> omega
      | some A =>
        have hwf := hdR_wf HO.out (HBY.out k) hn65
        obtain ⟨ta, fa, xa, sa⟩ := A
        have hta : 0 ≤ ta ∧ ta ≤ 18446744073709551615 := ⟨hwf.t0, hwf.t1⟩
        have hba : Below w2.heap.size w2 (w2.alloc (.cells #[.int .u64 ta, .int .u64 fa, .int .u64 xa, .int .i64 sa] 76)) := (Below.refl _ _).alloc (Nat.le_refl _) _
        simp only [Option.getD_some, Hd.val, hdE]
        clear hwf
        by_cases hlt : ta < 4611686018427387904
        · have dl : decide (ta < 4611686018427387904) = true := decide_eq_true hlt
          obtain ⟨q, hq⟩ : ∃ q, ta / 2 = q := ⟨_, rfl⟩
          have hq1 : 0 ≤ q ∧ q < 2305843009213693952 := by omega
          have hq2 : ta.tdiv 2 = q := by rw [Int.tdiv_eq_ediv_of_nonneg hta.1, hq]
          have hq3 : IntKind.u64.wrap (q * 2) = q * 2 := by rw [IntKind.wrap_u64]; omega
          have hq4 : IntKind.u64.wrap (q * 2 + 4) = q * 2 + 4 := by rw [IntKind.wrap_u64]; omega
          have HF2 : Hid (fmT n x (k + 1) = max tn (q * 2 + 4)) := by
            show _ = _
            rw [HF.out]
            show (if ta < 4611686018427387904 then max tn (ta / 2 * 2 + 4) else tn) = _
            rw [if_pos hlt, hq]
          clear hq HF
          by_cases hmx : tn < q * 2 + 4
          · go_wp2_with fail
            go_roundw
            case rel => exact ⟨k + 1, q * 2 + 4, by omega, by go_num, rfl, by rw [show rd0 + ((k + 1 : Nat) : Int) = rd0 + k + 1 by omega]; exact R2.out.below hba, T2.out.below_r hba, by show _ = _; rw [HF2.out]; omega, by omega, by omega⟩
            case measure => simp [intOf] <;> omega
          · have hmx2 : q * 2 + 4 ≤ tn := by omega
            go_wp2_with fail
            go_roundw
            case rel => exact ⟨k + 1, tn, by omega, by go_num, rfl, by rw [show rd0 + ((k + 1 : Nat) : Int) = rd0 + k + 1 by omega]; exact R2.out.below hba, T2.out.below_r hba, by show _ = _; rw [HF2.out]; omega, by omega, by omega⟩
            case measure => simp [intOf] <;> omega
        · have dl : decide (ta < 4611686018427387904) = false := decide_eq_false hlt
          have HF2 : Hid (fmT n x (k + 1) = tn) := by
            show _ = _
            rw [HF.out]
            show (if ta < 4611686018427387904 then max tn (ta / 2 * 2 + 4) else tn) = _
            rw [if_neg hlt]
          clear HF
          go_wp2_with fail
          go_roundw
          case rel => exact ⟨k + 1, tn, by omega, by go_num, rfl, by rw [show rd0 + ((k + 1 : Nat) : Int) = rd0 + k + 1 by omega]; exact R2.out.below hba, T2.out.below_r hba, HF2.out, ht0, ht1⟩
          case measure => simp [intOf] <;> omega
    · obtain rfl : k = 2 := by omega
      obtain rfl : tn = t := by rw [← HT.out]; exact FK.out.symm
      go_wp2_with fail
      refine wp_loop_rounds 3 ?_
      rw [rounds_succ]
      obtain ⟨⟨Z1, sv1, _, hr1, _⟩, _⟩ := RK.out
      obtain ⟨y0, y1, y2, y3, y4, y5, y6, y7, y8, yf⟩ := cellsJ hr1
      clear hr1
      have hw0 := hdI_wf (t := tn) (by omega) (by omega)
      have hw1 := hdI_wf (t := tn + 1) (by omega) (by omega)
      have hs0 : (hdI tn).start < (n : Int) - 2 := by show (0 : Int) < _; omega
      have hs1 : (hdI (tn + 1)).start < (n : Int) - 2 := by show (0 : Int) < _; omega
      have hu1 : IntKind.u64.wrap (tn + 1) = tn + 1 := by rw [IntKind.wrap_u64]; omega
      have HE0 : Hid (∀ (s : Dk) (l : List Int) (b : Int), s.armed = 0 → wr1E s = 0 ∧ wr1 s b l = putS s b l ∧ (putS s b l).armed = 0) := fun s l b h => by
        refine ⟨by unfold wr1E; rw [if_neg (by omega)], by unfold wr1; rw [if_neg (by omega)], by unfold putS; show (if s.armed = 0 then (0 : Int) else _) = 0; rw [if_pos h]⟩
      have HH0 := Lib.hid (RK.out.head (hdI tn) hw0 hs0)
      have HT0 : Hid (tn % 2 = 0) := by show _ = _; exact hbt.2.2
      have HWA : Hid (∀ (w : World), RiIn w Q r d (st.rd (rd0 + ((2 : Nat) : Int))) ⟨lo, n, S, hdI tn, []⟩ → Calls Try.prog 43 #[.pointer (some ⟨r, 0, none⟩), .agg #[.int .u64 tn, .int .u64 1, .int .u64 1, .int .i64 0]] w fun e w' => e = .returned (.int .i64 0) ∧ ∃ Q', RiIn w' Q' r d (putS (st.rd (rd0 + 2)) lo (hdS S (hdI tn))) ⟨lo, n, S, hdI tn, []⟩ ∧ Tnd Q Q' w w') := fun w h => by
        have := rwrite_any Q r d _ _ (hdI tn) w h HOFF.out hw0 (by show st.pend.length + 1 ≤ _; rw [HPEND.out]; decide) (by show st.writes + 1 ≤ _; have := HWR.out; omega)
        obtain ⟨e1, e2, _⟩ := HE0.out (st.rd (rd0 + ((2 : Nat) : Int))) (hdS S (hdI tn)) ((lo : Int) + (hdI tn).turn % 2) HARM.out
        rw [e1] at this
        rw [show ((⟨lo, n, S, hdI tn, []⟩ : Jr).lo : Int) + (hdI tn).turn % 2 = (lo : Int) + (hdI tn).turn % 2 from rfl, show (⟨lo, n, S, hdI tn, []⟩ : Jr).size = S from rfl, e2, show (lo : Int) + (hdI tn).turn % 2 = (lo : Int) by show (lo : Int) + tn % 2 = _; rw [HT0.out]; omega] at this
        exact this
      have HWB : Hid (∀ (Q : Nat → Prop) (w : World), RiIn w Q r d (putS (st.rd (rd0 + 2)) lo (hdS S (hdI tn))) ⟨lo, n, S, hdI (tn + 1), []⟩ → Calls Try.prog 43 #[.pointer (some ⟨r, 0, none⟩), .agg #[.int .u64 (tn + 1), .int .u64 1, .int .u64 1, .int .i64 0]] w fun e w' => e = .returned (.int .i64 0) ∧ ∃ Q', RiIn w' Q' r d (putS (putS (st.rd (rd0 + 2)) lo (hdS S (hdI tn))) ((lo + 1 : Nat) : Int) (hdS S (hdI (tn + 1)))) ⟨lo, n, S, hdI (tn + 1), []⟩ ∧ Tnd Q Q' w w') := fun Q w h => by
        have := rwrite_any Q r d _ _ (hdI (tn + 1)) w h HOFF.out hw1 (by show (st.pend ++ [_]).length + 1 ≤ _; rw [HPEND.out]; show (1 + 1 : Nat) ≤ _; omega) (by show st.writes + 1 + 1 ≤ _; have := HWR.out; omega)
        obtain ⟨e1, e2, _⟩ := HE0.out (putS (st.rd (rd0 + 2)) lo (hdS S (hdI tn))) (hdS S (hdI (tn + 1))) ((lo : Int) + (hdI (tn + 1)).turn % 2) (HE0.out (st.rd (rd0 + 2)) (hdS S (hdI tn)) lo HARM.out).2.2
        rw [e1] at this
        rw [show ((⟨lo, n, S, hdI (tn + 1), []⟩ : Jr).lo : Int) + (hdI (tn + 1)).turn % 2 = (lo : Int) + (hdI (tn + 1)).turn % 2 from rfl, show (⟨lo, n, S, hdI (tn + 1), []⟩ : Jr).size = S from rfl, e2, show (lo : Int) + (hdI (tn + 1)).turn % 2 = ((lo + 1 : Nat) : Int) by show (lo : Int) + (tn + 1) % 2 = _; have := HT0.out; omega] at this
        exact this
      clear hs0
      go_wp2_with fail
      change Calls _ _ _ (setsR wr r [(4, .int .u64 tn), (5, .int .u64 1), (6, .int .u64 1), (7, .int .i64 0)]) _
      obtain ⟨ha1, ha2⟩ := HH0.out
      change RiIn (setsR wr r [(4, .int .u64 tn), (5, .int .u64 1), (6, .int .u64 1), (7, .int .i64 0)]) _ _ _ _ _ at ha1
      change Tnd _ _ _ (setsR wr r [(4, .int .u64 tn), (5, .int .u64 1), (6, .int .u64 1), (7, .int .i64 0)]) at ha2
      obtain ⟨wa, hwa⟩ : ∃ wa, setsR wr r [(4, .int .u64 tn), (5, .int .u64 1), (6, .int .u64 1), (7, .int .i64 0)] = wa := ⟨_, rfl⟩
      rw [hwa] at ha1 ha2
      rw [hwa]
      have TA := Lib.hid (TK.out.trans ha2)
      have RA := Lib.hid ha1
      clear hwa ha1 ha2 y0 y1 y2 y3 y4 y5 y6 y7 y8 yf
      refine (HWA.out wa RA.out).mono ?_
      rintro e w3 ⟨rfl, Q3, hr3, ht3⟩
      have R3 := Lib.hid hr3
      have T3 := Lib.hid (TA.out.trans ht3)
      clear hr3 ht3
      have HH1 := Lib.hid (R3.out.head (hdI (tn + 1)) hw1 hs1)
      obtain ⟨⟨Z1, sv3, _, hr1, _⟩, _⟩ := R3.out
      obtain ⟨y0, y1, y2, y3, y4, y5, y6, y7, y8, yf⟩ := cellsJ hr1
      clear hr1
      go_wp2_with fail
      rw [rounds_succ]
      go_wp2_with fail
      change Calls _ _ _ (setsR w3 r [(4, .int .u64 (tn + 1)), (5, .int .u64 1), (6, .int .u64 1), (7, .int .i64 0)]) _
      obtain ⟨ha1, ha2⟩ := HH1.out
      change RiIn (setsR w3 r [(4, .int .u64 (tn + 1)), (5, .int .u64 1), (6, .int .u64 1), (7, .int .i64 0)]) _ _ _ _ _ at ha1
      change Tnd _ _ _ (setsR w3 r [(4, .int .u64 (tn + 1)), (5, .int .u64 1), (6, .int .u64 1), (7, .int .i64 0)]) at ha2
      obtain ⟨wb, hwb⟩ : ∃ wb, setsR w3 r [(4, .int .u64 (tn + 1)), (5, .int .u64 1), (6, .int .u64 1), (7, .int .i64 0)] = wb := ⟨_, rfl⟩
      rw [hwb] at ha1 ha2
      rw [hwb]
      have TB := Lib.hid (T3.out.trans ha2)
      have RB := Lib.hid ha1
      clear hwb ha1 ha2 y0 y1 y2 y3 y4 y5 y6 y7 y8 yf
      refine (HWB.out Q3 wb RB.out).mono ?_
      rintro e w4 ⟨rfl, Q4, hr4, ht4⟩
      have R4 := Lib.hid hr4
      have T4 := Lib.hid (TB.out.trans ht4)
      clear hr4 ht4
      have HFL := Lib.hid (R4.out.flush HOFF.out)
      go_wp2_with fail
      rw [rounds_succ]
      go_wp2_with fail
      refine HFL.out.mono ?_
      rintro e w5 ⟨rfl, hr5, ht5⟩
      have R5 := Lib.hid hr5
      have T5 := Lib.hid (T4.out.trans ht5)
      clear hr5 ht5
      go_wp2_with fail
      go_ret2
      refine ⟨r, rfl, Q4, ?_, T5.out⟩
      unfold fmS fmJ
      rw [HRD0.out]
      exact R5.out
end Go.Proofs.Ytlhpdkapddnbcaa
