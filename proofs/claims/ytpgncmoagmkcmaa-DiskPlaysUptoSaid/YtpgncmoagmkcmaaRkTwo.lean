/- disk: a disk and the reference's, side by side: plain laws. -/
import Derived.Test.YtpgncmoagmkcmaaRkSame
import Derived.Test.YtpgncmoagmkcmaaDkFew
namespace Go.Proofs.Ytpgncmoagmkcmaa
open Go.RowKit
theorem RdAt.same {k : IntKind} {w : World} {a : Option Addr} {n c : Nat} {l l' : List Int} (h : RdAt k w a n c l) (h' : RdAt k w a n c l') : l = l' := by
  apply List.ext_getElem
  · rw [h.len, h'.len]
  · intro i h1 h2
    have hi : i < n := by rw [← h.len]; exact h1
    obtain ⟨b, o, e, hc⟩ := h.cell i hi
    obtain ⟨b', o', e', hc'⟩ := h'.cell i hi
    rw [e] at e'
    injection e' with e'
    injection e' with e1 e2
    subst e1 e2
    rw [hc] at hc'
    injection hc' with hc'
    injection hc' with _ hc'
    rw [nth_eq h1, nth_eq h2] at hc'
    exact hc'
theorem RdB.same {w : World} {a : Option Addr} {n c : Nat} {l l' : List Bool} (h : RdB w a n c l) (h' : RdB w a n c l') : l = l' := by
  apply List.ext_getElem
  · rw [h.len, h'.len]
  · intro i h1 h2
    have hi : i < n := by rw [← h.len]; exact h1
    obtain ⟨b, o, e, hc⟩ := h.cell i hi
    obtain ⟨b', o', e', hc'⟩ := h'.cell i hi
    rw [e] at e'
    injection e' with e'
    injection e' with e1 e2
    subst e1 e2
    rw [hc] at hc'
    injection hc' with hc'
    injection hc' with hc'
    rw [List.getD_eq_getElem?_getD, List.getElem?_eq_getElem h1, List.getD_eq_getElem?_getD, List.getElem?_eq_getElem h2] at hc'
    exact hc'
theorem pendC_inj : ∀ {p p' : List (Int × List Int)} {vs vs' : List Value}, vs.length = p.length → vs'.length = p'.length → pendC p vs = pendC p' vs' → vs = vs' ∧ p.map (·.1) = p'.map (·.1)
  | [], [], [], [], _, _, _ => ⟨rfl, rfl⟩
  | [], _ :: _, vs, vs', h, h', e => by
    cases vs' with
    | nil => simp at h'
    | cons u t => cases vs <;> simp [pendC] at e
  | _ :: _, [], vs, vs', h, h', e => by
    cases vs with
    | nil => simp at h
    | cons u t => cases vs' <;> simp [pendC] at e
  | [], [], _ :: _, _, h, _, _ => by simp at h
  | [], [], [], _ :: _, _, h, _ => by simp at h
  | _ :: _, _ :: _, [], _, h, _, _ => by simp at h
  | _ :: _, _ :: _, _ :: _, [], _, h, _ => by simp at h
  | p :: r, p' :: r', u :: t, u' :: t', h, h', e => by
    simp only [pendC, List.cons.injEq] at e
    obtain ⟨e1, e2, e3⟩ := e
    obtain ⟨e4, e5⟩ := pendC_inj (by simpa using h) (by simpa using h') e3
    injection e1 with _ e1
    exact ⟨by rw [e2, e4], by simp only [List.map_cons, e1, e5]⟩
theorem flat_inj : ∀ {K K' : List (List Int)} {z : Nat}, (∀ x ∈ K, x.length = z) → (∀ x ∈ K', x.length = z) → K.length = K'.length → K.flatten = K'.flatten → K = K'
  | [], [], _, _, _, _, _ => rfl
  | [], _ :: _, _, _, _, h, _ => by simp at h
  | _ :: _, [], _, _, _, h, _ => by simp at h
  | x :: K, y :: K', z, h1, h2, h3, h4 => by
    rw [List.flatten_cons, List.flatten_cons] at h4
    have hx := h1 x (by simp)
    have hy := h2 y (by simp)
    obtain ⟨e1, e2⟩ := List.append_inj h4 (by rw [hx, hy])
    rw [e1, flat_inj (fun x hx => h1 x (by simp [hx])) (fun x hx => h2 x (by simp [hx])) (by simpa using h3) e2]
theorem u8_map_inj : ∀ {l l' : List Int}, l.map (Value.int .u8) = l'.map (Value.int .u8) → l = l'
  | [], [], _ => rfl
  | [], _ :: _, h => by simp at h
  | _ :: _, [], h => by simp at h
  | x :: l, y :: l', h => by
    simp only [List.map_cons, List.cons.injEq] at h
    injection h.1 with _ e
    rw [e, u8_map_inj h.2]
/-- What lies there is one disk. -/
theorem RkIn.inj {w : World} {Z Z' : Nat → Prop} {r : Nat} {st st' : Dk} (h : RkIn w Z r st) (h' : RkIn w Z' r st') : st = st' := by
  obtain ⟨hz, bb, lv, kv, pvs, p⟩ := h
  obtain ⟨hz', bb', lv', kv', pvs', p'⟩ := h'
  have hr := p.row
  rw [p'.row] at hr
  injection hr with hr
  injection hr with hr _ _
  simp only [Array.mk.injEq, List.cons.injEq, and_true] at hr
  obtain ⟨r0, r1, r2, r3, r4, r5, r6, r7, r8⟩ := hr
  injection r0 with _ r0
  injection r1 with _ r1
  injection r2 with r2 r2a r2b
  injection r2 with r2
  injection r2 with r2 _ _
  injection r4 with r4
  injection r5 with _ r5
  injection r7 with _ r7
  injection r8 with _ r8
  subst r2 r3 r6
  have hb := p.brow
  rw [p'.brow] at hb
  injection hb with hb
  injection hb with hb _ _
  have hfl := u8_map_inj (List.toArray_inj hb)
  have hkl : st'.kept.length = st.kept.length := by omega
  have hss : st'.size = st.size := by omega
  have hk : st'.kept = st.kept := flat_inj (z := st.size) (by rw [← hss]; exact p'.ok.kept) p.ok.kept hkl hfl
  have hpl : st'.pend.length = st.pend.length := by
    rcases p.prow.2 with ⟨e, e0⟩ | ⟨g, cap, cur, hv, _⟩
    · rcases p'.prow.2 with ⟨_, e0'⟩ | ⟨g', cap', cur', hv', _⟩
      · rw [e0, e0']
      · rw [e] at hv'; cases hv'
    · rcases p'.prow.2 with ⟨e, _⟩ | ⟨g', cap', cur', hv', _⟩
      · rw [e] at hv; cases hv
      · rw [hv] at hv'
        injection hv' with _ hv' _
        exact hv'.symm
  have hpc : pendC st'.pend pvs' = pendC st.pend pvs := by
    rcases p.prow.2 with ⟨e, e0⟩ | ⟨g, cap, cur, hv, _, hh, _, _, _, ht⟩
    · have h0 := List.eq_nil_of_length_eq_zero e0
      have h0' := List.eq_nil_of_length_eq_zero (hpl.trans e0)
      rw [h0, h0']
      unfold pendC
      rfl
    · rcases p'.prow.2 with ⟨e, _⟩ | ⟨g', cap', cur', hv', _, hh', _, _, _, ht'⟩
      · rw [e] at hv; cases hv
      · rw [hv] at hv'
        injection hv' with hv' _ _
        injection hv' with hv'
        injection hv' with hv'
        rw [← hv', hh] at hh'
        injection hh' with hh'
        injection hh' with hh' _ _
        rw [← ht, ← ht', hh', hpl]
  obtain ⟨hvs, hsec⟩ := pendC_inj p'.pvals.1 p.pvals.1 hpc
  subst hvs
  have hpd : st'.pend = st.pend := by
    apply List.ext_getElem hpl
    intro i h1 h2
    obtain ⟨v, hv, hb⟩ := p.pvals.get (List.getElem?_eq_getElem h2)
    obtain ⟨v', hv', hb'⟩ := p'.pvals.get (List.getElem?_eq_getElem h1)
    rw [hv] at hv'
    injection hv' with hv'
    subst hv'
    obtain ⟨b, o, n, c, e, hr, _⟩ := hb
    obtain ⟨b', o', n', c', e', hr', _⟩ := hb'
    rw [e] at e'
    injection e' with e1 e2 e3
    subst e2 e3
    rw [← e1] at hr'
    have h3 := hr'.same hr
    have h4 : (st'.pend.map (·.1))[i]? = (st.pend.map (·.1))[i]? := by rw [hsec]
    rw [List.getElem?_map, List.getElem?_map, List.getElem?_eq_getElem h1, List.getElem?_eq_getElem h2] at h4
    simp at h4
    exact Prod.ext h4 h3
  have hkp : st'.keep = st.keep := by
    obtain ⟨a, n, c, e, hr, _⟩ := p.keep
    obtain ⟨a', n', c', e', hr', _⟩ := p'.keep
    rw [e] at e'
    injection e' with e1 e2 e3
    subst e1 e2 e3
    exact hr'.same hr
  cases st
  cases st'
  simp only at *
  subst hk hss hpd hkp r4 r5 r7 r8
  rfl
structure Two (w0 w : World) (d r : Nat) (Z Zr : Nat → Prop) (st : Dk) : Prop where
  din : DkIn w Z d st
  rin : RkIn w Zr r st
  dis : ∀ k, Z k → Zr k → False
  base : ∀ k, Z k → w0.heap.size ≤ k
  rbase : ∀ k, Zr k → w0.heap.size ≤ k
  below : Below w0.heap.size w0 w
theorem Two.more {w0 w w' : World} {d r : Nat} {Z Zr : Nat → Prop} {st : Dk} (h : Two w0 w d r Z Zr st) (b : Below w.heap.size w w') : Two w0 w' d r Z Zr st :=
  ⟨h.din.below b, h.rin.below b, h.dis, h.base, h.rbase, Below.call h.below b⟩
/-- The disk alone has turned, then the reference's. -/
theorem Two.turn {w0 w w1 w2 : World} {d r : Nat} {Z Zr Z1 Zr1 : Nat → Prop} {st st1 : Dk} (h : Two w0 w d r Z Zr st) (h1 : DkIn w1 Z1 d st1) (t1 : Tnd Z Z1 w w1) (h2 : RkIn w2 Zr1 r st1) (t2 : Tnd Zr Zr1 w1 w2) : Two w0 w2 d r Z1 Zr1 st1 := by
  have hd1 : ∀ k, Zr k → Z1 k → False := fun k hr hz => by
    rcases t1.sub k hz with h3 | h3
    · exact h.dis k h3 hr
    · have := h.rin.1 k hr; omega
  refine ⟨h1.tnd t2 hd1, h2, fun k hz hr => ?_, t1.base h.base h.below.size, t2.base h.rbase (Nat.le_trans h.below.size t1.size), (h.below.trans (t1.below h.base h.below.size)).trans (t2.below h.rbase (Nat.le_trans h.below.size t1.size))⟩
  rcases t2.sub k hr with h3 | h3
  · exact hd1 k h3 hz
  · have := h1.1 k hz; omega
theorem RdAt.tndN {k : IntKind} {Z Z' : Nat → Prop} {w w' : World} {a : Option Addr} {n c : Nat} {l : List Int} (h : RdAt k w a n c l) (t : Tnd Z Z' w w') (hne : ∀ x, a = some x → 0 < n → ¬ Z x.block) : RdAt k w' a n c l :=
  ⟨h.len, h.cap, h.max, fun i hi => by
    obtain ⟨b, o, e, hc⟩ := h.cell i hi
    exact ⟨b, o, e, by rw [← hc]; exact World.cell?_of_block (a := ⟨b, o + i, none⟩) (t.block b (block_lt_of_cell hc) (hne _ e (by omega)))⟩, h.wf, h.void⟩
theorem row_tnd {Z Z' : Nat → Prop} {w w' : World} {b : Nat} {o : Obj} (h : w.heap[b]? = some o) (t : Tnd Z Z' w w') (hz : ¬ Z b) : w'.heap[b]? = some o := by
  rw [t.block b (Array.getElem?_eq_some_iff.1 h).1 hz]; exact h
/-- Counts of a play. -/
structure PlI (N S k : Nat) (st : Dk) : Prop where
  n : st.kept.length = N
  size : st.size = S
  few : st.pend.length ≤ k
  writes : 0 ≤ st.writes ∧ st.writes ≤ k
  reads : 0 ≤ st.reads ∧ st.reads ≤ k
theorem PlI.wr {N S k : Nat} {st : Dk} (h : PlI N S k st) (s : Int) (l : List Int) : (wrS st s l).kept.length = N ∧ (wrS st s l).size = S ∧ (wrS st s l).pend.length ≤ k + 1 ∧ (0 ≤ (wrS st s l).writes ∧ (wrS st s l).writes ≤ k + 1) ∧ (wrS st s l).reads = st.reads := by
  have h3 := h.few
  have h4 := h.writes
  unfold wrS
  split
  · exact ⟨h.n, h.size, by omega, by omega, rfl⟩
  · split
    · exact ⟨h.n, h.size, by omega, by omega, rfl⟩
    · split
      · refine ⟨?_, h.size, Nat.zero_le _, ⟨h4.1, ?_⟩, rfl⟩
        · show (settleK _ 0 st.pend st.kept).length = N
          rw [settleK_len]; exact h.n
        · show st.writes ≤ _
          omega
      · refine ⟨h.n, h.size, ?_, ⟨?_, ?_⟩, rfl⟩
        · show (st.pend ++ [(s, l)]).length ≤ _
          rw [List.length_append, List.length_singleton]; omega
        · show 0 ≤ st.writes + 1
          omega
        · show st.writes + 1 ≤ _
          omega
theorem PlI.next {N S k : Nat} {st st1 : Dk} (h : PlI N S k st) (h1 : st1.kept.length = N) (h2 : st1.size = S) (h3 : st1.pend.length ≤ k + 1) (h4 : 0 ≤ st1.writes ∧ st1.writes ≤ k + 1) (h5 : st1.reads = st.reads) (x : Int) : PlI N S (k + 1) (rdS st1 x) := by
  have h6 := h.reads
  unfold rdS
  split
  · refine ⟨h1, h2, h3, ⟨h4.1, by show st1.writes ≤ _; have := h4.2; omega⟩, ?_, ?_⟩
    · show 0 ≤ st1.reads + 1
      omega
    · show st1.reads + 1 ≤ _
      omega
  · exact ⟨h1, h2, h3, ⟨h4.1, by have := h4.2; omega⟩, by omega, by omega⟩
end Go.Proofs.Ytpgncmoagmkcmaa
