/- ring: Append, whole, leaves the records and one more. Plain. ring: an Append that is cut leaves the records as they were. Plain. Regions that draw their order, whatever the operations' common way (Kd) is. No program in sight. ring: Truncate. -/
import Derived.Test.YtlhpdkapddnbcaaJk0
import Derived.Test.YtlhpdkapddnbcaaJk14
import Derived.Test.YtlhpdkapddnbcaaJk5
import Derived.Deep.CutBlock
import Derived.Deep.DeepCutAuto
import Derived.Test.YtlhpdkapddnbcaaJk11
namespace Go.Proofs.Ytlhpdkapddnbcaa
open Go.RowKit
/-- The disk behind an Append that was not cut. -/
theorem ap_whole {st : Dk} {J : Jr} {l : List Int} (hoff : st.off = false) (hp : st.pend = []) (harm : st.armed = 0 ∨ ((ndN J.size l.length : Nat) : Int) + 1 < st.armed) (hf : ¬ roomN J < l.length) :
    (apS st J l).e = 0 ∧ (apS st J l).J = { J with h := J.h.nx.up, ks := J.ks ++ [ndN J.size l.length] } ∧ (apS st J l).st.off = false ∧ (apS st J l).st.pend = [] ∧ (apS st J l).st.size = st.size ∧ (apS st J l).st.reads = st.reads ∧ (apS st J l).st.writes = st.writes + (ndN J.size l.length : Nat) + 1 ∧ (st.armed = 0 → (apS st J l).st.armed = 0) ∧
    (apS st J l).st.kept = (setAll st.kept (apW J l 0 (ndN J.size l.length))).set (J.lo + ((J.h.turn + 1) % 2).toNat) (hdS J.size J.h.nx.up) := by
  obtain ⟨N, hN⟩ : ∃ N, ndN J.size l.length = N := ⟨_, rfl⟩
  rw [hN] at harm ⊢
  obtain ⟨e1, e2, e3, e4, e5, e6, e7, e8⟩ := apGo_whole J l N 0 st (by omega)
  obtain ⟨s, hs⟩ : ∃ s, apGo J l N 0 st = s := ⟨_, rfl⟩
  rw [hs] at e1 e2 e3 e4 e5 e6 e7 e8
  have ha : ¬ s.armed = 1 := by rw [e8]; split <;> omega
  have hA : apS st J l = ⟨tuS (flushS s) J J.h.nx, { tuJ (flushS s) J J.h.nx with ks := J.ks ++ [N] }, 0⟩ := by
    unfold apS
    rw [if_neg hf, hN, hs]
    show (if s.off = true then _ else _) = _
    rw [e3, hoff, if_neg (by decide), if_neg ha]
  have ha2 : ¬ (flushS s).armed = 1 := ha
  have hT : tuS (flushS s) J J.h.nx = flushS (putS (flushS s) ((J.lo : Int) + J.h.nx.up.turn % 2) (hdS J.size J.h.nx.up)) := by unfold tuS; rw [if_neg ha2]
  have hJ : tuJ (flushS s) J J.h.nx = { J with h := J.h.nx.up } := by unfold tuJ; rw [if_neg ha2]
  rw [hA, hT, hJ]
  refine ⟨rfl, rfl, by show s.off = false; rw [e3, hoff], rfl, e5, e6, by show s.writes + 1 = _; rw [e7], fun h0 => ?_, ?_⟩
  · show (if s.armed = 0 then (0 : Int) else s.armed - 1) = 0
    rw [e8, if_pos h0, if_pos rfl]
  · show settleK (fun _ => true) 0 ([] ++ [((J.lo : Int) + J.h.nx.up.turn % 2, hdS J.size J.h.nx.up)]) (settleK (fun _ => true) 0 s.pend s.kept) = _
    rw [e1, e2, hp, List.nil_append, List.nil_append, settle_setAll _ _ _ _ (fun _ => rfl)]
    unfold settleK settleK
    rw [if_pos rfl, show ((J.lo : Int) + J.h.nx.up.turn % 2).toNat = J.lo + ((J.h.turn + 1) % 2).toNat by show ((J.lo : Int) + (J.h.turn + 1) % 2).toNat = _; omega]
theorem secB_kept {st : Dk} (hp : st.pend = []) (s : Nat) : secB st s = (st.kept[s]?).getD [] := by unfold secB; rw [hp]; rfl
/-- It holds one record more. -/
theorem ap_holds {st : Dk} {J : Jr} {L : List (List Int)} {l : List Int} (ok : JOk J) (dok : DOk st J) (hoff : st.off = false) (hp : st.pend = []) (harm : st.armed = 0 ∨ ((ndN J.size l.length : Nat) : Int) + 1 < st.armed) (hf : ¬ roomN J < l.length) (H : HoldsK (secB st) J.lo J.n J.size J.h L) (hks : J.ks = ksOf J.size L) (hnx : J.h.next < 18446744073709551615) (htn : J.h.turn < 18446744073709551615) :
    HoldsK (secB (apS st J l).st) J.lo J.n J.size J.h.nx.up (L ++ [l]) := by
  obtain ⟨_, _, _, hp2, _, _, _, _, hk⟩ := ap_whole hoff hp harm hf
  obtain ⟨hsum, hl2⟩ := nd_room ok hf
  obtain ⟨N, hN⟩ : ∃ N, ndN J.size l.length = N := ⟨_, rfl⟩
  rw [hN] at hk hsum
  have hn4 := ok.n4
  have hdn := dok.n
  obtain ⟨s1, s2⟩ := ap_set (l := l) (k := st.kept) hn4 hdn hsum
  have hlen : (setAll st.kept (apW J l 0 N)).length = st.kept.length := setAll_len _ _
  have hpt : ∀ i, J.lo + 2 ≤ ptAt J i ∧ ptAt J i < J.lo + J.n := fun i => by
    have := Nat.mod_lt (J.h.start.toNat + sumN J.ks + i) (show 0 < J.n - 2 by omega)
    unfold ptAt
    omega
  have hsl : ((J.h.turn + 1) % 2).toNat < 2 := by omega
  have hx : ∀ s, s ≠ J.lo + ((J.h.turn + 1) % 2).toNat → secB (apS st J l).st s = ((setAll st.kept (apW J l 0 N))[s]?).getD [] := fun s h => by
    rw [secB_kept hp2, hk, List.getElem?_set_ne (fun e => h e.symm)]
  have hv := H.hv
  have hw : J.h.nx.up.Wf := ⟨by have := hv.wf.t0; show 0 ≤ J.h.turn + 1; omega, by show J.h.turn + 1 ≤ _; omega, hv.wf.f0, hv.wf.f1, by have := hv.wf.n0; show 0 ≤ J.h.next + 1; omega, by show J.h.next + 1 ≤ _; omega, hv.wf.s0, hv.wf.s1⟩
  have hrec : sumN J.ks = sumN (ksOf J.size L) := by rw [hks]
  refine ⟨⟨hw, hv.f1, by have := hv.le; show J.h.first ≤ J.h.next + 1; omega, hv.st⟩, ?_, ⟨J.h, hv, rfl, ?_⟩, ?_, ?_, ?_⟩
  · show secB _ (J.lo + ((J.h.turn + 1) % 2).toNat) = _
    rw [secB_kept hp2, hk, List.getElem?_set_self (by rw [hlen]; omega)]
    rfl
  · rw [hx _ (by omega), s2 _ (fun i _ => by have := hpt i; omega), ← secB_kept hp]
    exact H.new
  · show J.h.next + 1 = J.h.first + ((L ++ [l]).length : Int)
    rw [H.next, List.length_append]
    simp
    omega
  · rw [ksOf_snoc, sumN_app, ← hrec, hN]
    show sumN J.ks + (N + 0) ≤ _
    omega
  · show LieAt _ _ _ _ J.h.start.toNat J.h.first (L ++ [l])
    refine LieAt.app L [l] _ _ (LieAt.keep L _ _ H.lie (fun i hi => ?_)) ⟨by unfold recTop; omega, fun i hi => ?_, trivial⟩
    · rw [hx _ (by omega), s2 _ (fun j hj => ?_), ← secB_kept hp]
      unfold ptAt
      have h := mod_ne (m := J.n - 2) (p := J.h.start.toNat) (i := sumN J.ks + j) (j := i) (by omega) (by omega) (by omega)
      rw [← Nat.add_assoc] at h
      omega
    · rw [hN] at hi
      have he : J.lo + 2 + (J.h.start.toNat + sumN (ksOf J.size L) + i) % (J.n - 2) = ptAt J i := by unfold ptAt; rw [hrec]
      rw [he, hx _ (by have := hpt i; omega), s1 i hi]
      show ptS _ _ _ _ = ptS _ _ _ _
      rw [H.next]
end Go.Proofs.Ytlhpdkapddnbcaa

namespace Go.Proofs.Ytlhpdkapddnbcaa
open Go.RowKit
theorem settle_other (κ : Nat → Bool) (p : List (Int × List Int)) : ∀ (i : Nat) (k : List (List Int)) (s : Nat), (∀ q ∈ p, q.1 ≠ (s : Int) ∧ 0 ≤ q.1) → (settleK κ i p k)[s]? = k[s]? := by
  induction p with
  | nil => intro i k s _; rfl
  | cons q r ih =>
    intro i k s h
    obtain ⟨t, b⟩ := q
    have h1 := h (t, b) (List.mem_cons_self ..)
    have h2 : t ≠ (s : Int) := h1.1
    have h3 : 0 ≤ t := h1.2
    unfold settleK
    rw [ih (i + 1) _ s (fun q hq => h q (List.mem_cons_of_mem _ hq))]
    split
    · rw [List.getElem?_set_ne]
      omega
    · rfl
/-- A disk behind a cut. -/
structure CutOf (st st' : Dk) : Prop where
  off : st'.off = true
  pend : st'.pend = []
  armed : st'.armed = 0
  size : st'.size = st.size
  reads : st'.reads = st.reads
  len : st'.kept.length = st.kept.length
  writes : st.writes ≤ st'.writes
theorem apGo_cuts (J : Jr) (l : List Int) : ∀ (c i : Nat) (st : Dk), 1 ≤ st.armed → st.armed ≤ c → CutOf st (apGo J l c i st) ∧ (apGo J l c i st).writes ≤ st.writes + c ∧ ∀ s : Nat, (∀ j, j < c → ptAt J (i + j) ≠ s) → (∀ q ∈ st.pend, q.1 ≠ (s : Int) ∧ 0 ≤ q.1) → (apGo J l c i st).kept[s]? = st.kept[s]?
  | 0, i, st, h1, h2 => by omega
  | c + 1, i, st, h1, h2 => by
    by_cases ha : st.armed = 1
    · have e : apGo J l (c + 1) i st = cutS st st.keep := by unfold apGo; rw [if_pos ha]
      rw [e]
      refine ⟨⟨rfl, rfl, rfl, rfl, rfl, settleK_len _ _ _ _, Int.le_refl _⟩, by show st.writes ≤ st.writes + ((c + 1 : Nat) : Int); omega, fun s _ hq => settle_other _ _ _ _ s hq⟩
    · rw [apGo_put _ _ _ _ _ ha]
      have hput : (putS st (ptAt J i) (ptS J.size J.h.next l i)).armed = if st.armed = 0 then 0 else st.armed - 1 := rfl
      obtain ⟨e1, e2, e3⟩ := apGo_cuts J l c (i + 1) (putS st (ptAt J i) (ptS J.size J.h.next l i)) (by rw [hput, if_neg (by omega)]; omega) (by rw [hput, if_neg (by omega)]; omega)
      have hw : (putS st (ptAt J i) (ptS J.size J.h.next l i)).writes = st.writes + 1 := rfl
      refine ⟨⟨e1.off, e1.pend, e1.armed, e1.size, e1.reads, e1.len, by have := e1.writes; omega⟩, by omega, fun s hj hq => ?_⟩
      refine (e3 s (fun j hjc => ?_) (fun q hqm => ?_)).trans rfl
      · rw [show i + 1 + j = i + (j + 1) by omega]
        exact hj (j + 1) (by omega)
      · rcases List.mem_append.1 (show q ∈ st.pend ++ [((ptAt J i : Int), ptS J.size J.h.next l i)] from hqm) with h | h
        · exact hq q h
        · rw [List.mem_singleton.1 h]
          have := hj 0 (by omega)
          rw [Nat.add_zero] at this
          exact ⟨by show (ptAt J i : Int) ≠ s; omega, by show (0 : Int) ≤ (ptAt J i : Int); omega⟩
/-- The disk behind an Append that was cut. -/
theorem ap_cut {st : Dk} {J : Jr} {l : List Int} (hoff : st.off = false) (hp : st.pend = []) (h1 : 1 ≤ st.armed) (h2 : st.armed ≤ ((ndN J.size l.length : Nat) : Int) + 1) (hf : ¬ roomN J < l.length) :
    (apS st J l).e = 8 ∧ (apS st J l).J = J ∧ CutOf st (apS st J l).st ∧ (apS st J l).st.writes ≤ st.writes + (ndN J.size l.length : Nat) ∧ ∀ s : Nat, (∀ j, j < ndN J.size l.length → ptAt J j ≠ s) → (apS st J l).st.kept[s]? = st.kept[s]? := by
  obtain ⟨N, hN⟩ : ∃ N, ndN J.size l.length = N := ⟨_, rfl⟩
  rw [hN] at h2 ⊢
  by_cases ha : st.armed ≤ N
  · obtain ⟨e1, e2, e3⟩ := apGo_cuts J l N 0 st h1 ha
    have hA : apS st J l = ⟨apGo J l N 0 st, J, 8⟩ := by
      unfold apS
      rw [if_neg hf, hN]
      show (if (apGo J l N 0 st).off = true then _ else _) = _
      rw [if_pos e1.off]
    rw [hA]
    exact ⟨rfl, rfl, e1, e2, fun s hs => e3 s (fun j hj => by rw [Nat.zero_add]; exact hs j hj) (fun q hq => by rw [hp] at hq; cases hq)⟩
  · obtain ⟨e1, e2, e3, e4, e5, e6, e7, e8⟩ := apGo_whole J l N 0 st (by omega)
    obtain ⟨s, hs⟩ : ∃ s, apGo J l N 0 st = s := ⟨_, rfl⟩
    rw [hs] at e1 e2 e3 e4 e5 e6 e7 e8
    rw [if_neg (by omega)] at e8
    have ha1 : s.armed = 1 := by omega
    have hA : apS st J l = ⟨tuS (flushS s) J J.h.nx, J, 8⟩ := by
      unfold apS
      rw [if_neg hf, hN, hs]
      show (if s.off = true then _ else _) = _
      rw [e3, hoff, if_neg (by decide), if_pos ha1]
    have hT : tuS (flushS s) J J.h.nx = cutS (flushS s) s.keep := by unfold tuS; rw [if_pos (show (flushS s).armed = 1 from ha1)]; rfl
    have hk : (cutS (flushS s) s.keep).kept = setAll st.kept (apW J l 0 N) := by
      show settleK (fun i => s.keep.getD i false) 0 [] (settleK (fun _ => true) 0 s.pend s.kept) = _
      rw [e1, e2, hp, List.nil_append, settle_setAll _ _ _ _ (fun _ => rfl)]
      rfl
    rw [hA, hT]
    refine ⟨rfl, rfl, ⟨rfl, rfl, rfl, e5, e6, by rw [hk, setAll_len], by show st.writes ≤ s.writes; omega⟩, by show s.writes ≤ _; omega, fun t ht => ?_⟩
    show (cutS (flushS s) s.keep).kept[t]? = _
    rw [hk]
    refine setAll_other _ _ _ (fun p hp' => ?_)
    obtain ⟨j, hj⟩ := List.getElem?_of_mem hp'
    have hjN : j < N := by
      have := (List.getElem?_eq_some_iff.1 hj).1
      rw [apW_len] at this
      exact this
    rw [apW_at J l N 0 j hjN] at hj
    injection hj with hj
    rw [← hj]
    show ptAt J (0 + j) ≠ t
    rw [Nat.zero_add]
    exact ht j hjN
/-- What holds, by the sectors that are read alone. -/
theorem HoldsK.keep {kx kx' : Nat → List Int} {lo n size : Nat} {h : Hd} {L : List (List Int)} (H : HoldsK kx lo n size h L) (h1 : ∀ s, s < 2 → kx' (lo + s) = kx (lo + s)) (h2 : ∀ i, i < sumN (ksOf size L) → kx' (lo + 2 + (h.start.toNat + i) % (n - 2)) = kx (lo + 2 + (h.start.toNat + i) % (n - 2))) : HoldsK kx' lo n size h L := by
  obtain ⟨o, ov, ot, ok⟩ := H.old
  exact ⟨H.hv, by rw [h1 _ (by omega)]; exact H.new, ⟨o, ov, ot, by rw [h1 _ (by omega)]; exact ok⟩, H.next, H.sum, LieAt.keep L _ _ H.lie h2⟩
theorem ap_cut_holds {st : Dk} {J : Jr} {L : List (List Int)} {l : List Int} (ok : JOk J) (hoff : st.off = false) (hp : st.pend = []) (h1 : 1 ≤ st.armed) (h2 : st.armed ≤ ((ndN J.size l.length : Nat) : Int) + 1) (hf : ¬ roomN J < l.length) (H : HoldsK (secB st) J.lo J.n J.size J.h L) (hks : J.ks = ksOf J.size L) :
    HoldsK (secB (apS st J l).st) J.lo J.n J.size J.h L := by
  obtain ⟨_, _, hc, _, hk⟩ := ap_cut hoff hp h1 h2 hf
  obtain ⟨hsum, _⟩ := nd_room ok hf
  have hn4 := ok.n4
  have hx : ∀ s : Nat, (∀ j, j < ndN J.size l.length → ptAt J j ≠ s) → secB (apS st J l).st s = secB st s := fun s hs => by rw [secB_kept hc.pend, secB_kept hp, hk s hs]
  have hrec : sumN J.ks = sumN (ksOf J.size L) := by rw [hks]
  refine H.keep (fun s hs => hx _ (fun j _ => by unfold ptAt; omega)) (fun i hi => hx _ (fun j hj => ?_))
  unfold ptAt
  have h := mod_ne (m := J.n - 2) (p := J.h.start.toNat) (i := sumN J.ks + j) (j := i) (by omega) (by omega) (by omega)
  rw [← Nat.add_assoc] at h
  omega
/-- A cut that finds nothing pending. -/
theorem cut_none {st : Dk} {keep : List Bool} (hp : st.pend = []) : CutOf st (cutS st keep) ∧ (cutS st keep).kept = st.kept ∧ (cutS st keep).writes = st.writes := by
  have hk : (cutS st keep).kept = st.kept := by
    show settleK _ 0 st.pend st.kept = _
    rw [hp]
    rfl
  exact ⟨⟨rfl, rfl, rfl, rfl, rfl, by rw [hk], Int.le_refl _⟩, hk, rfl⟩
/-- The state behind a Truncate that lets k records go. -/
def trH (J : Jr) (k : Nat) : Hd := ⟨J.h.turn, J.h.first + k, J.h.next, (((J.h.start.toNat + sumN (J.ks.take k)) % (J.n - 2) : Nat) : Int)⟩
/-- What Truncate makes of a disk, a journal. -/
def trS (st : Dk) (J : Jr) (up : Int) : Ap :=
  if J.h.next ≤ up then ⟨st, J, 1⟩
  else if up < J.h.first then ⟨st, J, 0⟩
  else if st.armed = 1 then ⟨tuS st J (trH J ((up - J.h.first).toNat + 1)), J, 8⟩
  else ⟨tuS st J (trH J ((up - J.h.first).toNat + 1)), { tuJ st J (trH J ((up - J.h.first).toNat + 1)) with ks := J.ks.drop ((up - J.h.first).toNat + 1) }, 0⟩
theorem LieAt.mod {kx : Nat → List Int} {lo n size : Nat} : ∀ (L : List (List Int)) (p p' : Nat) (num : Int), p' % (n - 2) = p % (n - 2) → LieAt kx lo n size p num L → LieAt kx lo n size p' num L
  | [], _, _, _, _, _ => trivial
  | l :: r, p, p', num, hp, h => by
    obtain ⟨a1, a2, a3⟩ := h
    have hm : ∀ i, (p' + i) % (n - 2) = (p + i) % (n - 2) := fun i => by rw [Nat.add_mod, hp, ← Nat.add_mod]
    exact ⟨a1, fun i hi => by rw [hm i]; exact a2 i hi, LieAt.mod r _ _ _ (hm _) a3⟩
theorem LieAt.drop {kx : Nat → List Int} {lo n size : Nat} : ∀ (L : List (List Int)) (k p : Nat) (num : Int), LieAt kx lo n size p num L → LieAt kx lo n size (p + sumN ((ksOf size L).take k)) (num + k) (L.drop k)
  | L, 0, p, num, h => by
    rw [List.take_zero, List.drop_zero]
    show LieAt kx lo n size (p + 0) (num + ((0 : Nat) : Int)) L
    rw [Nat.add_zero, show num + ((0 : Nat) : Int) = num by omega]
    exact h
  | [], k + 1, p, num, h => by rw [List.drop_nil]; trivial
  | l :: r, k + 1, p, num, h => by
    obtain ⟨_, _, a3⟩ := h
    have h1 := LieAt.drop r k _ _ a3
    show LieAt kx lo n size (p + (ndN size l.length + sumN ((ksOf size r).take k))) _ (r.drop k)
    rw [← Nat.add_assoc, show num + ((k + 1 : Nat) : Int) = num + 1 + (k : Int) by omega]
    exact h1
theorem tr_cut {st : Dk} {J : Jr} {up : Int} (h1 : ¬ J.h.next ≤ up) (h2 : ¬ up < J.h.first) (ha : st.armed = 1) : trS st J up = ⟨cutS st st.keep, J, 8⟩ := by
  unfold trS tuS
  rw [if_neg h1, if_neg h2, if_pos ha, if_pos ha]
/-- The disk behind a Truncate that was not cut. -/
theorem tr_whole {st : Dk} {J : Jr} {up : Int} {k : Nat} (h1 : ¬ J.h.next ≤ up) (h2 : ¬ up < J.h.first) (hk : (up - J.h.first).toNat + 1 = k) (hp : st.pend = []) (ha : ¬ st.armed = 1) :
    (trS st J up).e = 0 ∧ (trS st J up).J = { J with h := (trH J k).up, ks := J.ks.drop k } ∧ (trS st J up).st.off = st.off ∧ (trS st J up).st.pend = [] ∧ (trS st J up).st.size = st.size ∧ (trS st J up).st.reads = st.reads ∧ (trS st J up).st.writes = st.writes + 1 ∧
    (trS st J up).st.kept = st.kept.set (J.lo + ((J.h.turn + 1) % 2).toNat) (hdS J.size (trH J k).up) := by
  have hA : trS st J up = ⟨flushS (putS st ((J.lo : Int) + (trH J k).up.turn % 2) (hdS J.size (trH J k).up)), { J with h := (trH J k).up, ks := J.ks.drop k }, 0⟩ := by
    unfold trS tuS tuJ
    rw [if_neg h1, if_neg h2, if_neg ha, if_neg ha, if_neg ha, hk]
  rw [hA]
  refine ⟨rfl, rfl, rfl, rfl, rfl, rfl, rfl, ?_⟩
  show settleK (fun _ => true) 0 (st.pend ++ [((J.lo : Int) + (J.h.turn + 1) % 2, hdS J.size (trH J k).up)]) st.kept = _
  rw [hp, List.nil_append]
  unfold settleK settleK
  rw [if_pos rfl, show ((J.lo : Int) + (J.h.turn + 1) % 2).toNat = J.lo + ((J.h.turn + 1) % 2).toNat by omega]
theorem sumN_drop (l : List Nat) (k : Nat) : sumN (l.drop k) ≤ sumN l := by
  have h := sumN_app (l.take k) (l.drop k)
  rw [List.take_append_drop] at h
  omega
/-- It holds the records behind those that went. -/
theorem tr_holds {st : Dk} {J : Jr} {L : List (List Int)} {up : Int} {k : Nat} (ok : JOk J) (dok : DOk st J) (h1 : ¬ J.h.next ≤ up) (h2 : ¬ up < J.h.first) (hk : (up - J.h.first).toNat + 1 = k) (hp : st.pend = []) (ha : ¬ st.armed = 1) (H : HoldsK (secB st) J.lo J.n J.size J.h L) (hks : J.ks = ksOf J.size L) (htn : J.h.turn < 18446744073709551615) :
    HoldsK (secB (trS st J up).st) J.lo J.n J.size (trH J k).up (L.drop k) := by
  obtain ⟨_, _, _, hp2, _, _, _, hkk⟩ := tr_whole h1 h2 hk hp ha
  have hn4 := ok.n4
  have hdn := dok.n
  have hv := H.hv
  have hnx := H.next
  have hkL : k ≤ L.length := by omega
  have hsl : ((J.h.turn + 1) % 2).toNat < 2 := by omega
  have hx : ∀ s, s ≠ J.lo + ((J.h.turn + 1) % 2).toNat → secB (trS st J up).st s = secB st s := fun s h => by
    rw [secB_kept hp2, hkk, List.getElem?_set_ne (fun e => h e.symm), secB_kept hp]
  have hmod := Nat.mod_lt (J.h.start.toNat + sumN (J.ks.take k)) (show 0 < J.n - 2 by omega)
  have hn1 := ok.n1
  have hst : (trH J k).up.start = (((J.h.start.toNat + sumN (J.ks.take k)) % (J.n - 2) : Nat) : Int) := rfl
  have hfi : (trH J k).up.first = J.h.first + k := rfl
  have hne : (trH J k).up.next = J.h.next := rfl
  have htu : (trH J k).up.turn = J.h.turn + 1 := rfl
  have q1 := hv.wf.t0
  have q2 := hv.wf.f0
  have q3 := hv.wf.n1
  have q4 := hv.f1
  have q5 := hv.wf.n0
  have hw : (trH J k).up.Wf := ⟨by omega, by omega, by omega, by omega, by omega, by omega, by omega, by omega⟩
  refine ⟨⟨hw, by omega, by omega, by omega⟩, ?_, ⟨J.h, hv, rfl, ?_⟩, ?_, ?_, ?_⟩
  · rw [htu, secB_kept hp2, hkk, List.getElem?_set_self (by omega)]
    rfl
  · rw [hx _ (by omega)]
    exact H.new
  · rw [hne, hfi, List.length_drop]
    omega
  · have h3 : ksOf J.size (L.drop k) = (ksOf J.size L).drop k := List.map_drop
    rw [h3]
    exact Nat.le_trans (sumN_drop _ _) H.sum
  · have h3 := LieAt.drop L k _ _ (LieAt.keep L _ _ H.lie (fun i hi => hx _ (by omega)))
    rw [hst, hfi, Int.toNat_natCast]
    refine LieAt.mod _ _ _ _ ?_ h3
    rw [Nat.mod_mod, hks]
end Go.Proofs.Ytlhpdkapddnbcaa

namespace Go.Proofs.Ytlhpdkapddnbcaa
open Go.RowKit
/-- The same but for what is drawn. -/
structure SameW (w w' : World) : Prop where
  os : w'.os = w.os
  tape : w'.tape = w.tape
  output : w'.output = w.output
  heap : w'.heap = w.heap
theorem SameW.refl (w : World) : SameW w w := ⟨rfl, rfl, rfl, rfl⟩
theorem SameW.below {w w' : World} (h : SameW w w') (B : Nat) : Below B w w' := ⟨h.os, h.tape, h.output, by rw [h.heap]; exact Nat.le_refl _, fun j _ => by rw [h.heap]⟩
section
variable {P : Program} {D : List Tmp} {ds : List Deferred} {l : List Oper} {t0 : Array Value} (Kd : World → World → Prop)
def pickGd : List (Nat × (World → World → Prop)) → Nat → World → World → Prop
  | [], _ => Kd
  | (s, G) :: r, j => if j = s then G else pickGd r j
def AllKeepId : List (Nat × (World → Prop)) → Prop
  | [] => True
  | (_, p) :: r => StaysI Kd p ∧ AllKeepId r
variable {Kd}
theorem keepI_getd : ∀ {L : List (Nat × (World → Prop))}, AllKeepId Kd L → ∀ i w w', pickI L i w → Kd w w' → pickI L i w'
  | [], _, _, _, _, _, _ => trivial
  | (k, p) :: r, h, i, w, w', hp, hg => by
    unfold pickI at hp ⊢
    by_cases e : i = k
    · rw [if_pos e] at hp ⊢; exact h.1 w w' hp hg
    · rw [if_neg e] at hp ⊢; exact keepI_getd (L := r) h.2 i w w' hp hg
theorem bearI_getd {f : Nat} {L : List (Nat × (World → Prop))} (hk : AllKeepId Kd L) : ∀ {S : List (Nat × (World → World → Prop))}, BearAllI l f L S → ∀ i j w w', j ≠ i → waits l f j i = false → pickI L i w → pickGd Kd S j w w' → pickI L i w'
  | [], _, i, _, w, w', _, _, hp, hg => keepI_getd hk i w w' hp hg
  | (s, G) :: r, h, i, j, w, w', hne, hw, hp, hg => by
    unfold pickGd at hg
    by_cases e : j = s
    · rw [if_pos e] at hg
      subst e
      exact AllBearI.get h.1 i w w' hne hw hp hg
    · rw [if_neg e] at hg
      exact bearI_getd hk (S := r) h.2 i j w w' hne hw hp hg
theorem bear3_getd {KL : List (Nat × Nat)} {f : Nat} {L : List (Value → World → Prop)} (hk : AllStay Kd L) : ∀ {S : List (Nat × (World → World → Prop))}, BearAll3 KL l f L S → ∀ i j v w w', j ≠ i → waits l f i j = false → kills KL j i = false → pickF L i v w → pickGd Kd S j w w' → pickF L i v w'
  | [], _, i, _, v, w, w', _, _, _, hp, hg => pick_stays hk i v w w' hp hg
  | (s, G) :: r, h, i, j, v, w, w', hne, hw, hkl, hp, hg => by
    unfold pickGd at hg
    by_cases e : j = s
    · rw [if_pos e] at hg
      subst e
      exact AllBear3.get h.1 i v w w' (by rw [Nat.zero_add]; exact hne) (by rw [Nat.zero_add]; exact hw) (by rw [Nat.zero_add]; exact hkl) hp hg
    · rw [if_neg e] at hg
      exact bear3_getd hk (S := r) h.2 i j v w w' hne hw hkl hp hg
theorem reg_gen (Kd : World → World → Prop) {Q : Exit → Act → World → Prop} {id : Nat} {w : World} (KL : List (Nat × Nat)) (L : List (Value → World → Prop)) (S : List (Nat × (World → World → Prop))) (IL : List (Nat × (World → Prop))) (D : List Tmp) (Bs : List (List Nat)) (Ns : List Nat) (f : Nat) (hm : P.follows .mixedOrders = true)
    (hkok : killOk l f KL Bs = true) (hLk : AllStay Kd L) (hLS : BearAll3 KL l f L S) (hIk : AllKeepId Kd IL) (hIS : BearAllI l f IL S) (h0 : HoldI w.drew IL)
    (m : Nat) (hsz : t0.size = m) (hok : slotsOk2 l D Bs m = true) (hap : slotsApart D l.length = true) (hB : Bs.length = l.length) (hN : List.range l.length = Ns) (n : Nat) (hn : l.length = n) (ho : Obls2 P (pickGd Kd S) (pickI IL) (pickF L) D ds l t0 l 0 Bs)
    (hQ : ∀ w', pickI IL n w' → Given (fun i v w => killed KL i = false → pickF L i v w) D w' t0 Ns fun t => Q .normal ⟨t, ds⟩ w') : (Code.region id l.toArray true).wp P Q ⟨t0, ds⟩ w := by
  subst hsz
  subst hN
  subst hn
  refine wp_region_any hm (reg_mid3 KL f (fun i j v w w' _ _ hne hw hkl hp hg => bear3_getd hLk hLS i j v w w' hne hw hkl hp hg) (killOk_get hkok) (fun i j w w' _ _ hne hw hp hg => bearI_getd hIk hIS i j w w' hne hw hp hg) hok hap hB ho hQ _ (fun _ => undef) _ _ _ ⟨by simp, rfl, fun j hj hl => ?_, fun j hj _ => hold_get h0 j, hold_get h0 _, fun d _ => rfl, fun j oj hoj hl => ?_⟩ (by simp))
  · simp [Array.getD, hj] at hl
  · simp [Array.getD, (List.getElem?_eq_some_iff.1 hoj).1] at hl
end
end Go.Proofs.Ytlhpdkapddnbcaa

namespace Go.Proofs.Ytlhpdkapddnbcaa
open Go.RowKit
section
variable {Q : Nat → Prop} {r d : Nat} {st : Dk} {J : Jr} {w0 w w' : World}
theorem RdL.at_ (h : RdL Q r d st J w0 w) {b : Nat} (hg : w.grownBy w' (some b)) (hb : w0.heap.size ≤ b) : RdL Q r d st J w0 w' :=
  ⟨h.ri.keep (fun k hk => hg.block k (h.ri.lt k hk) (fun e => by injection e with e; have := h.q k hk; omega)) hg.size, h.tnd.at_r hg hb, h.q⟩
end
theorem grown_below {w w1 w2 : World} {r : Option Nat} (h : w.grownBy w1 r) (b : Below w1.heap.size w1 w2) : w.grownBy w2 r := ⟨b.os.trans h.os, b.tape.trans h.tape, b.output.trans h.output, Nat.le_trans h.size b.size, fun k hk hn => (b.block k (Nat.lt_of_lt_of_le hk h.size)).trans (h.block k hk hn)⟩
theorem grown_drew {w w1 : World} {r : Option Nat} (h : w.grownBy w1 r) : w.grownBy w1.drew r := ⟨h.os, h.tape, h.output, h.size, h.block⟩
def pkT {α : Type} (c k : Nat) (A B : α) : α := if c = k then A else B
theorem rd_pkT {kd : IntKind} {w : World} {b o n c : Nat} {l : List Int} (h : RdAt kd w (some ⟨b, o, none⟩) n c l) (k : Nat) (hk : k ≤ n) : RdAt kd w (pkT c k (some ⟨b, o, none⟩) (some ⟨b, o + k, none⟩)) (n - k) (c - k) (l.drop k) := by
  unfold pkT
  by_cases hc : c = k
  · rw [if_pos hc]
    have hcap := h.cap
    have hmax := h.max
    have hl := h.len
    rw [show n - k = 0 by omega, show c - k = 0 by omega, List.drop_of_length_le (by omega)]
    exact ⟨rfl, Nat.le_refl _, by unfold maxLen; omega, fun i hi => by omega, by simp, fun h => by cases h⟩
  · rw [if_neg hc]
    exact RdAt.drop h k hk
theorem tr_back {k : Nat} (h1 : 1 ≤ k) (h2 : k ≤ 65536) : IntKind.i64.wrap (IntKind.i64.wrap ((k - 1 : Nat) : Int) + 1) = (k : Int) := by
  rw [i64_small (x := ((k - 1 : Nat) : Int)) (by omega) (by omega), i64_small (by omega) (by omega)]
  omega
set_option linter.unusedSimpArgs false in
set_option linter.unusedVariables false in
set_option maxRecDepth 100000 in
set_option maxHeartbeats 4000000 in
theorem truncate_any (Q : Nat → Prop) (r d : Nat) (st : Dk) (J : Jr) (up : Int) (w0 : World) (hR : RiIn w0 Q r d st J) (hoff : st.off = false) (hpend : st.pend = []) (h0 : 0 ≤ up) (h1 : up ≤ 18446744073709551615) (hlen : J.h.next = J.h.first + J.ks.length) (htn : J.h.turn < 18446744073709551615) (hwr : st.writes + 1 ≤ 4611686018427387904) :
    Calls Try.prog 53 #[.pointer (some ⟨r, 0, none⟩), .int .u64 up] w0 fun e w' => e = .returned (.int .i64 (trS st J up).e) ∧ ∃ Q', RiIn w' Q' r d (trS st J up).st (trS st J up).J ∧ Tnd Q Q' w0 w' := by
  obtain ⟨⟨Z, sv, hd, hr, ho, hz, hq, hn, hg⟩, ok, dok, lt⟩ := id hR
  have HOF := Lib.hid (off_any Z d st w0 hd)
  have ROW := Lib.hid hr
  have RI := Lib.hid hR
  have OK := Lib.hid ok
  have OSV := Lib.hid ho
  have HWF := Lib.hid ok.h
  have HST := Lib.hid ok.st
  obtain ⟨c0, c1, c2, c3, c4, c5, c6, c7, c8, cf⟩ := cellsJ hr
  have hoffF := hoff
  rw [hoff] at HOF
  by_cases h2 : J.h.next ≤ up
  · have HE : Hid (trS st J up = ⟨st, J, 1⟩) := by show _ = _; unfold trS; rw [if_pos h2]
    have d1 : decide (J.h.next ≤ up) = true := decide_eq_true h2
    clear hd hr ho hz hq hn hg ok dok lt hR hlen
    go_enter Try.func53, Try.ntmps53
    go_wp2_with fail
    go_ret
    rw [HE.out]
    exact ⟨rfl, Q, RI.out, Tnd.refl _ _⟩
  have d1 : decide (J.h.next ≤ up) = false := decide_eq_false h2
  by_cases h3 : up < J.h.first
  · have HE : Hid (trS st J up = ⟨st, J, 0⟩) := by show _ = _; unfold trS; rw [if_neg h2, if_pos h3]
    have d2 : decide (up < J.h.first) = true := decide_eq_true h3
    clear hd hr ho hz hq hn hg ok dok lt hR hlen
    go_enter Try.func53, Try.ntmps53
    go_wp2_with (first | (go_at_call 16; refine HOF.out.mono ?_; rintro e w1 ⟨rfl, rfl⟩))
    go_ret
    rw [HE.out]
    exact ⟨rfl, Q, RI.out, Tnd.refl _ _⟩
  have d2 : decide (up < J.h.first) = false := decide_eq_false h3
  obtain ⟨k, hk⟩ : ∃ k, (up - J.h.first).toNat + 1 = k := ⟨_, rfl⟩
  have hk1 : up = J.h.first + k - 1 := by omega
  have hk0 : 1 ≤ k := by omega
  have hkL : k ≤ J.ks.length := by omega
  have HE : Hid (trS st J up = if st.armed = 1 then ⟨tuS st J (trH J k), J, 8⟩ else ⟨tuS st J (trH J k), { tuJ st J (trH J k) with ks := J.ks.drop k }, 0⟩) := by
    show _ = _
    unfold trS
    rw [if_neg h2, if_neg h3, hk]
  obtain ⟨NL, hNL⟩ : ∃ NL, J.ks.length = NL := ⟨_, rfl⟩
  rw [hNL] at hkL
  have hNL2 : NL ≤ 65536 := by rw [← hNL]; have h := ks_len J.ks ok.kp; have := ok.ks; have := ok.n1; omega
  obtain ⟨a, c, rfl⟩ := ho.shapeN NL (by unfold zs; rw [List.length_map, hNL])
  have hrd := ho.rd
  have hcap := hrd.cap
  have hcm := hrd.max
  have HRD := Lib.hid hrd
  have HNL := Lib.hid hNL
  obtain ⟨hb, hhb⟩ : ∃ hb, w0.heap.size = hb := ⟨_, rfl⟩
  have HRB : Hid (r ≠ hb) := by show _ ≠ _; have := (Array.getElem?_eq_some_iff.1 hr).1; omega
  have RL0 : Hid (RdL Q r d st J w0 w0) := ⟨hR, Tnd.refl _ _, hR.lt⟩
  have hf0 := ok.h.f0
  have hf1 := ok.h.f1
  have hx1 := ok.h.n1
  have e1 : IntKind.u64.wrap (up - J.h.first) = ((k - 1 : Nat) : Int) := by rw [IntKind.wrap_u64]; omega
  have HK1 := Lib.hid hk1
  have HFK : Hid (J.h.first + (k : Int) ≤ 18446744073709551615) := by show _ ≤ _; omega
  clear hd hr ho hz hq hn hg ok dok lt hR hlen hrd hNL hk1 hk
  go_enter Try.func53, Try.ntmps53
  go_wp2_with (first | (go_at_call 16; refine HOF.out.mono ?_; rintro e w1 ⟨rfl, rfl⟩))
  refine' reg_gen SameW [] [eqV _, eqV _, eqV _, eqV _, eqV _, eqV _, eqV _, eqV _, eqV _, eqV _, eqV _, eqV _, eqV _, fun v w => v = .pointer (some ⟨hb, 0, none⟩) ∧ (w.heap[hb]? = some (.cells #[.int .u64 0, .int .u64 0, .int .u64 0, .int .i64 0] 76 (0, 0)) ∨ w.heap[hb]? = some (.cells #[.int .u64 J.h.turn, .int .u64 J.h.first, .int .u64 J.h.next, .int .i64 J.h.start] 76 (0, 0))), fun _ w => w.heap[hb]? = some (.cells #[.int .u64 J.h.turn, .int .u64 J.h.first, .int .u64 J.h.next, .int .i64 J.h.start] 76 (0, 0)), eqV _] [(13, fun w w' => Below w.heap.size w w'), (14, fun w w' => w.grownBy w' (some hb) ∧ w'.heap[hb]? = some (.cells #[.int .u64 J.h.turn, .int .u64 J.h.first, .int .u64 J.h.next, .int .i64 J.h.start] 76 (0, 0)))] [(3, fun w => w.heap[r]? = some (rowJ d (Value.slice a NL c) J)), (9, fun w => w.heap[r]? = some (rowJ d (Value.slice a NL c) J)), (13, fun w => w.heap.size = hb), (16, fun w => RdL Q r d st J w0 w)] [34, 35, 36, 37, 38, 39, 40, 41, 42, 43, 44, 45, 46, 5, 100, 6] [[], [0], [1], [2], [], [], [5], [6], [7], [8], [4, 9], [10], [11], [], [3, 13], [12]] [0, 1, 2, 3, 4, 5, 6, 7, 8, 9, 10, 11, 12, 13, 14, 15] 16 (by kernel_rfl) (by kernel_rfl) ⟨eqV_stays _, eqV_stays _, eqV_stays _, eqV_stays _, eqV_stays _, eqV_stays _, eqV_stays _, eqV_stays _, eqV_stays _, eqV_stays _, eqV_stays _, eqV_stays _, eqV_stays _, fun _ _ _ p b => ⟨p.1, (by rw [b.heap]; exact p.2)⟩, fun _ _ _ p b => (by show _ = _; rw [b.heap]; exact p), eqV_stays _, trivial⟩ ⟨⟨.inl (eqV_stays _), .inl (eqV_stays _), .inl (eqV_stays _), .inl (eqV_stays _), .inl (eqV_stays _), .inl (eqV_stays _), .inl (eqV_stays _), .inl (eqV_stays _), .inl (eqV_stays _), .inl (eqV_stays _), .inl (eqV_stays _), .inl (eqV_stays _), .inl (eqV_stays _), .inr (.inr (.inl rfl)), .inr (.inl (by kernel_rfl)), .inl (eqV_stays _), trivial⟩, ⟨.inl (eqV_stays _), .inl (eqV_stays _), .inl (eqV_stays _), .inl (eqV_stays _), .inl (eqV_stays _), .inl (eqV_stays _), .inl (eqV_stays _), .inl (eqV_stays _), .inl (eqV_stays _), .inl (eqV_stays _), .inl (eqV_stays _), .inl (eqV_stays _), .inl (eqV_stays _), .inl (fun _ _ _ p b => ⟨p.1, .inr b.2⟩), .inr (.inr (.inl rfl)), .inl (eqV_stays _), trivial⟩, trivial⟩ ⟨fun _ _ p b => (by show _ = _; rw [b.heap]; exact p), fun _ _ p b => (by show _ = _; rw [b.heap]; exact p), fun _ _ p b => (congrArg Array.size b.heap).trans p, fun _ _ p b => p.below (b.below _), trivial⟩ ⟨⟨.inl (fun _ _ p b => row_keep p b), .inl (fun _ _ p b => row_keep p b), .inr (.inr rfl), .inl (fun _ _ p b => p.below b), trivial⟩, ⟨.inr (.inl (by kernel_rfl)), .inl (fun _ _ p b => (b.1.block r (Array.getElem?_eq_some_iff.1 p).1 (fun e => by injection e with e; exact HRB.out e)).trans p), .inr (.inl (by kernel_rfl)), .inl (fun _ _ p b => p.at_ b.1 (Nat.le_of_eq hhb)), trivial⟩, trivial⟩ ⟨ROW.out, ROW.out, hhb, RL0.out.drew, trivial⟩ 86 rfl (by kernel_rfl) (by kernel_rfl) rfl rfl 16 rfl ?q2obl ?q2fin
  case q2obl =>
    refine And.intro ?q2o0 (And.intro ?q2o1 (And.intro ?q2o2 (And.intro ?q2o3 (And.intro ?q2o4 (And.intro ?q2o5 (And.intro ?q2o6 (And.intro ?q2o7 (And.intro ?q2o8 (And.intro ?q2o9 (And.intro ?q2o10 (And.intro ?q2o11 (And.intro ?q2o12 (And.intro ?q2o13 (And.intro ?q2o14 (And.intro ?q2o15 (True.intro))))))))))))))))
    case q2o0 =>
      intro w1 hI
      refine turn2_on (by rfl) ?_
      intro K hK
      go_simp
      refine hK _ _ ⟨rfl, SameW.refl _, ?_⟩
      show _ = _
      simp only [gv1]
      rfl
    case q2o1 =>
      intro w1 hI
      intro v0 h0
      change _ = _ at h0
      subst v0
      refine turn2_on (by rfl) ?_
      intro K hK
      simp only [gv2]
      go_simp
      refine hK _ _ ⟨rfl, SameW.refl _, ?_⟩
      show _ = _
      simp only [gv1]
      rfl
    case q2o2 =>
      intro w1 hI
      intro v1 h1
      change _ = _ at h1
      subst v1
      refine turn2_on (by rfl) ?_
      intro K hK
      simp only [gv2]
      go_simp
      refine hK _ _ ⟨rfl, SameW.refl _, ?_⟩
      show _ = _
      simp only [gv1]
      rfl
    case q2o3 =>
      intro w1 hI
      replace hI : (fun w => w.heap[r]? = some (rowJ d (Value.slice a NL c) J)) w1 := hI
      intro v2 h2
      change _ = _ at h2
      subst v2
      refine turn2_on (by rfl) ?_
      intro K hK
      simp only [gv2]
      obtain ⟨y0, y1, y2, y3, y4, y5, y6, y7, y8, yf⟩ := cellsJ hI
      go_simp
      refine hK _ _ ⟨rfl, SameW.refl _, ?_⟩
      show _ = _
      simp only [gv1]
      rfl
    case q2o4 =>
      intro w1 hI
      refine turn2_on (by rfl) ?_
      intro K hK
      go_simp
      refine hK _ _ ⟨rfl, SameW.refl _, ?_⟩
      show _ = _
      simp only [gv1]
      rfl
    case q2o5 =>
      intro w1 hI
      refine turn2_on (by rfl) ?_
      intro K hK
      go_simp
      refine hK _ _ ⟨rfl, SameW.refl _, ?_⟩
      show _ = _
      simp only [gv1]
      rfl
    case q2o6 =>
      intro w1 hI
      intro v5 h5
      change _ = _ at h5
      subst v5
      refine turn2_on (by rfl) ?_
      intro K hK
      simp only [gv2]
      go_simp
      refine hK _ _ ⟨rfl, SameW.refl _, ?_⟩
      show _ = _
      simp only [gv1]
      rfl
    case q2o7 =>
      intro w1 hI
      intro v6 h6
      change _ = _ at h6
      subst v6
      refine turn2_on (by rfl) ?_
      intro K hK
      simp only [gv2]
      go_simp
      refine hK _ _ ⟨rfl, SameW.refl _, ?_⟩
      show _ = _
      simp only [gv1]
      rfl
    case q2o8 =>
      intro w1 hI
      intro v7 h7
      change _ = _ at h7
      subst v7
      refine turn2_on (by rfl) ?_
      intro K hK
      simp only [gv2]
      go_simp
      refine hK _ _ ⟨rfl, SameW.refl _, ?_⟩
      show _ = _
      simp only [gv1]
      rfl
    case q2o9 =>
      intro w1 hI
      replace hI : (fun w => w.heap[r]? = some (rowJ d (Value.slice a NL c) J)) w1 := hI
      intro v8 h8
      change _ = _ at h8
      subst v8
      refine turn2_on (by rfl) ?_
      intro K hK
      simp only [gv2]
      obtain ⟨y0, y1, y2, y3, y4, y5, y6, y7, y8, yf⟩ := cellsJ hI
      go_simp
      refine hK _ _ ⟨rfl, SameW.refl _, ?_⟩
      show _ = _
      simp only [gv1]
      rfl
    case q2o10 =>
      intro w1 hI
      intro v4 h4
      change _ = _ at h4
      subst v4
      intro v9 h9
      change _ = _ at h9
      subst v9
      refine turn2_on (by rfl) ?_
      intro K hK
      simp only [gv2]
      go_simp
      refine hK _ _ ⟨rfl, SameW.refl _, ?_⟩
      show _ = _
      simp only [gv1]
      rfl
    case q2o11 =>
      intro w1 hI
      intro v10 h10
      change _ = _ at h10
      subst v10
      refine turn2_on (by rfl) ?_
      intro K hK
      simp only [gv2]
      go_simp
      refine hK _ _ ⟨rfl, SameW.refl _, ?_⟩
      show _ = _
      simp only [gv1]
      rfl
    case q2o12 =>
      intro w1 hI
      intro v11 h11
      change _ = _ at h11
      subst v11
      refine turn2_on (by rfl) ?_
      intro K hK
      simp only [gv2]
      go_simp
      refine hK _ _ ⟨rfl, SameW.refl _, ?_⟩
      show _ = _
      simp only [gv1]
      rfl
    case q2o13 =>
      intro w1 hI
      replace hI : (fun w => w.heap.size = hb) w1 := hI
      refine turn2_on (by rfl) ?_
      intro K hK
      have HI := Lib.hid hI
      clear hI
      go_simp
      refine hK _ _ ⟨rfl, (Below.refl _ _).alloc (Nat.le_refl _) _, ?_⟩
      show _ = _ ∧ (_ ∨ _)
      simp only [gv1]
      exact ⟨by rw [HI.out], .inl (by rw [← HI.out]; exact heap_alloc_new _ _)⟩
    case q2o14 =>
      intro w1 hI
      intro v3 h3
      change _ = _ at h3
      subst v3
      intro v13 h13
      obtain ⟨rfl, h13⟩ := h13
      refine turn2_on (by rfl) ?_
      intro K hK
      simp only [gv2]
      obtain ⟨x0, x1, x2, x3, hrow⟩ : ∃ x0 x1 x2 x3, w1.heap[hb]? = some (.cells #[x0, x1, x2, x3] 76 (0, 0)) := by
        rcases h13 with h | h
        · exact ⟨_, _, _, _, h⟩
        · exact ⟨_, _, _, _, h⟩
      obtain ⟨z0, z1, z2, z3⟩ := cells4 hrow
      have zf := fun i => frozen_of_row w1 hb i _ _ hrow
      have hend := setsR_row [(0, .int .u64 J.h.turn), (1, .int .u64 J.h.first), (2, .int .u64 J.h.next), (3, .int .i64 J.h.start)] hrow
      rw [fold4] at hend
      have hgr := setsR_grown (b := hb) [(0, .int .u64 J.h.turn), (1, .int .u64 J.h.first), (2, .int .u64 J.h.next), (3, .int .i64 J.h.start)] w1
      have HEND := Lib.hid hend
      have HGR := Lib.hid hgr
      clear hend hgr h13
      go_simp
      refine hK _ _ ⟨rfl, ⟨HGR.out, HEND.out⟩, ?_⟩
      exact HEND.out
    case q2o15 =>
      intro w1 hI
      intro v12 h12
      change _ = _ at h12
      subst v12
      refine turn2_on (by rfl) ?_
      intro K hK
      simp only [gv2]
      go_simp
      refine hK _ _ ⟨rfl, SameW.refl _, ?_⟩
      show _ = _
      simp only [gv1]
      rfl
  intro w9 hI
  replace hI : (fun w => RdL Q r d st J w0 w) w9 := hI
  intro v0 h0
  replace h0 := h0 (by kernel_rfl)
  change _ = _ at h0
  subst v0
  intro v1 h1
  replace h1 := h1 (by kernel_rfl)
  change _ = _ at h1
  subst v1
  intro v2 h2
  replace h2 := h2 (by kernel_rfl)
  change _ = _ at h2
  subst v2
  intro v3 h3
  replace h3 := h3 (by kernel_rfl)
  change _ = _ at h3
  subst v3
  intro v4 h4
  replace h4 := h4 (by kernel_rfl)
  change _ = _ at h4
  subst v4
  intro v5 h5
  replace h5 := h5 (by kernel_rfl)
  change _ = _ at h5
  subst v5
  intro v6 h6
  replace h6 := h6 (by kernel_rfl)
  change _ = _ at h6
  subst v6
  intro v7 h7
  replace h7 := h7 (by kernel_rfl)
  change _ = _ at h7
  subst v7
  intro v8 h8
  replace h8 := h8 (by kernel_rfl)
  change _ = _ at h8
  subst v8
  intro v9 h9
  replace h9 := h9 (by kernel_rfl)
  change _ = _ at h9
  subst v9
  intro v10 h10
  replace h10 := h10 (by kernel_rfl)
  change _ = _ at h10
  subst v10
  intro v11 h11
  replace h11 := h11 (by kernel_rfl)
  change _ = _ at h11
  subst v11
  intro v12 h12
  replace h12 := h12 (by kernel_rfl)
  change _ = _ at h12
  subst v12
  intro v13 h13
  replace h13 := h13 (by kernel_rfl)
  obtain ⟨rfl, h13⟩ := h13
  intro v14 h14
  replace h14 := h14 (by kernel_rfl)
  intro v15 h15
  replace h15 := h15 (by kernel_rfl)
  change _ = _ at h15
  subst v15
  simp only [Given, gv2]
  have e2 := tr_back hk0 (show k ≤ 65536 by omega)
  rw [e2]
  clear e2
  have H14 : Hid (w9.heap[hb]? = some (.cells #[.int .u64 J.h.turn, .int .u64 J.h.first, .int .u64 J.h.next, .int .i64 J.h.start] 76 (0, 0))) := h14
  have RL9 := Lib.hid hI
  clear h14 hI
  have hNA4 := OK.out.n4
  have hNA1 := OK.out.n1
  obtain ⟨NA, hNA⟩ : ∃ NA, J.n - 2 = NA := ⟨_, rfl⟩
  have hNA2 : (J.n : Int) - 2 = NA := by omega
  have hNA3 : NA ≤ 65536 := by omega
  obtain ⟨sn, hsn⟩ : ∃ sn : Nat, J.h.start = sn := Int.eq_ofNat_of_zero_le HWF.out.s0
  have hsn1 : sn < NA := by have := HST.out; omega
  have HP : Hid (∀ i, (sn + sumN (J.ks.take i)) % NA < NA) := fun i => Nat.mod_lt _ (by omega)
  have HAR : Hid (∀ w1, RdL Q r d st J w0 w1 → Calls Try.prog 32 #[.pointer (some ⟨r, 0, none⟩)] w1 fun e w' => e = .returned (.int .i64 (NA : Int)) ∧ w1 = w') := fun w1 h => by
    obtain ⟨⟨Z1, sv1, _, hr1, _⟩, ok1, _⟩ := h.ri
    have := area_any r d sv1 J w1 hr1 ok1
    rw [hNA2] at this
    exact this
  have HTU : Hid (∀ w1, RiIn w1 Q r d st J → Calls Try.prog 38 #[.pointer (some ⟨r, 0, none⟩), .agg #[.int .u64 J.h.turn, .int .u64 (J.h.first + k), .int .u64 J.h.next, .int .i64 (((sn + sumN (J.ks.take k)) % NA : Nat) : Int)]] w1 fun e w' => e = .returned (.int .i64 (wr1E st)) ∧ ∃ Q', RiIn w' Q' r d (tuS st J (trH J k)) (tuJ st J (trH J k)) ∧ Tnd Q Q' w1 w') := fun w1 h1 => by
    have hwf : (trH J k).Wf := ⟨HWF.out.t0, HWF.out.t1, by have := HWF.out.f0; show 0 ≤ J.h.first + (k : Int); omega, HFK.out, HWF.out.n0, HWF.out.n1, by show 0 ≤ (((J.h.start.toNat + sumN (J.ks.take k)) % (J.n - 2) : Nat) : Int); omega, by have := HP.out k; show (((J.h.start.toNat + sumN (J.ks.take k)) % (J.n - 2) : Nat) : Int) ≤ 65536; rw [hNA, hsn, Int.toNat_natCast]; omega⟩
    have := turnto_any Q r d st J (trH J k) w1 h1 hoff hwf htn (by have := HP.out k; show (((J.h.start.toNat + sumN (J.ks.take k)) % (J.n - 2) : Nat) : Int) < _; rw [hNA, hsn, Int.toNat_natCast]; omega) (by rw [hpend]; decide) hwr
    have hv : (trH J k).val = .agg #[.int .u64 J.h.turn, .int .u64 (J.h.first + k), .int .u64 J.h.next, .int .i64 (((sn + sumN (J.ks.take k)) % NA : Nat) : Int)] := by unfold trH Hd.val; rw [hNA, hsn, Int.toNat_natCast]
    rw [hv] at this
    exact this
  rw [hsn] at H14
  have HHd : Hid (∃ q : Nat, q = (sn + sumN (J.ks.take 0)) % NA ∧ w9.heap[hb]? = some (.cells #[.int .u64 J.h.turn, .int .u64 J.h.first, .int .u64 J.h.next, .int .i64 (q : Int)] 76 (0, 0))) := ⟨sn, (by show sn = (sn + 0) % NA; rw [Nat.add_zero, Nat.mod_eq_of_lt hsn1]), H14.out⟩
  clear H14
  obtain ⟨⟨Z9, sv9, _, hr9, ho9, _, _, _, hg9⟩, _⟩ := RL9.out.ri
  obtain ⟨a9, c9, rfl⟩ := ho9.shapeN NL (by unfold zs; rw [List.length_map, HNL.out])
  have hrd9 := ho9.rd
  have hcap9 := hrd9.cap
  have hcm9 := hrd9.max
  have HRD9 := Lib.hid hrd9
  have HNB : Hid (∀ x, a9 = some x → x.block ≠ hb) := fun x hx => by
    subst hx
    have := RL9.out.q x.block (hg9 x.block (by show (if c9 = 0 then none else some x.block) = _; rw [if_neg (by omega)])).1
    omega
  clear ho9 hrd9 hg9
  obtain ⟨y0, y1, y2, y3, y4, y5, y6, y7, y8, yf⟩ := cellsJ hr9
  clear hr9 c0 c1 c2 c3 c4 c5 c6 c7 c8 cf hNA hNA2 hsn
  go_wp2_with fail
  clear y0 y1 y2 y3 y4 y5 y6 y7 y8 yf
  go_loopw [54] (fun ix wr => ∃ (i q : Nat), i ≤ k ∧ ix = .int .i64 i ∧ Hid (w9.grownBy wr (some hb)) ∧ Hid (q = (sn + sumN (J.ks.take i)) % NA ∧ wr.heap[hb]? = some (.cells #[.int .u64 J.h.turn, .int .u64 J.h.first, .int .u64 J.h.next, .int .i64 (q : Int)] 76 (0, 0)))) (fun ix _ => k - (intOf ix).toNat)
  case atStart =>
    obtain ⟨q, hq⟩ := HHd.out
    exact ⟨0, q, Nat.zero_le _, rfl, World.grownBy.refl _ _, hq⟩
  case round =>
    obtain ⟨i, p, hi, rfl, HGW, HQ⟩ := hrel
    have HRL : Hid (RdL Q r d st J w0 wr) := RL9.out.at_ HGW.out (Nat.le_of_eq hhb)
    by_cases hik : i < k
    · have d5 : decide ((i : Int) < k) = true := decide_eq_true (by omega)
      have HHW : Hid (wr.heap[hb]? = some (.cells #[.int .u64 J.h.turn, .int .u64 J.h.first, .int .u64 J.h.next, .int .i64 (p : Int)] 76 (0, 0))) := HQ.out.2
      have hp1 : p < NA := by rw [HQ.out.1]; exact HP.out i
      obtain ⟨bx, ox, rfl, hcx⟩ := (rd_keepR HRD9.out (fun x hx hn => HGW.out.block x.block (rd_ltR HRD9.out x hx hn) (fun e => by injection e with e; exact HNB.out x hx e))).cell i (by omega)
      rw [nth_zs] at hcx
      obtain ⟨x, hx⟩ : ∃ x, J.ks.getD i 0 = x := ⟨_, rfl⟩
      rw [hx] at hcx
      have hsx : sumN (J.ks.take (i + 1)) = sumN (J.ks.take i) + x := by rw [sumN_take _ _ (by rw [HNL.out]; omega), hx]
      have hx1 : x ≤ 65536 := by have := sumN_le J.ks (i + 1); have := OK.out.ks; omega
      obtain ⟨p2, hp2⟩ : ∃ p2, (sn + sumN (J.ks.take (i + 1))) % NA = p2 := ⟨_, rfl⟩
      have hp3 : (p + x) % NA = p2 := by rw [← hp2, hsx, HQ.out.1, Nat.mod_add_mod, Nat.add_assoc]
      have HTM : Hid (((p : Int) + (x : Int)).tmod (NA : Int) = (p2 : Int)) := by show _ = _; rw [← hp3, Int.tmod_eq_emod_of_nonneg (by omega), Int.natCast_emod, Int.natCast_add]
      have hpx := HTM.out
      have dz : (((NA : Int)) == 0) = false := by rw [beq_eq_false_iff_ne]; omega
      have dz2 : (((NA : Int)) == -1) = false := by rw [beq_eq_false_iff_ne]; omega
      have dn : ¬ (NA : Int) = 0 := by omega
      have dn2 : ¬ NA = 0 := by omega
      have hpx2 : IntKind.i64.wrap ((p : Int) + (x : Int)) = (p : Int) + x := i64_small (by omega) (by omega)
      have HP2 := Lib.hid hp2
      clear hp2 hp3 hsx hx
      go_wp2_with fail
      refine' reg_order [eqV _, eqV _, eqV _, eqV _, eqV _, eqV _, eqV _, eqV _, fun _ w => w.heap[hb]? = some (.cells #[.int .u64 J.h.turn, .int .u64 J.h.first, .int .u64 J.h.next, .int .i64 (p2 : Int)] 76 (0, 0))] [(8, fun w w' => w.grownBy w' (some hb) ∧ w'.heap[hb]? = some (.cells #[.int .u64 J.h.turn, .int .u64 J.h.first, .int .u64 J.h.next, .int .i64 (p2 : Int)] 76 (0, 0)))] [(1, fun w => w.heap[hb]? = some (.cells #[.int .u64 J.h.turn, .int .u64 J.h.first, .int .u64 J.h.next, .int .i64 (p : Int)] 76 (0, 0))), (5, fun w => RdL Q r d st J w0 w), (8, fun w => w.heap[hb]? = some (.cells #[.int .u64 J.h.turn, .int .u64 J.h.first, .int .u64 J.h.next, .int .i64 (p : Int)] 76 (0, 0))), (9, fun w => w9.grownBy w (some hb))] [58, 59, 60, 61, 62, 63, 64, 65, 94] [[], [0], [], [1, 2], [], [4], [3, 5], [], [6, 7]] [0, 1, 2, 3, 4, 5, 6, 7, 8] 9 (by kernel_rfl) ⟨eqV_stays _, eqV_stays _, eqV_stays _, eqV_stays _, eqV_stays _, eqV_stays _, eqV_stays _, eqV_stays _, fun _ _ _ p b => row_keep p b, trivial⟩ ⟨⟨.inl (eqV_stays _), .inl (eqV_stays _), .inl (eqV_stays _), .inl (eqV_stays _), .inl (eqV_stays _), .inl (eqV_stays _), .inl (eqV_stays _), .inl (eqV_stays _), .inr (.inr rfl), trivial⟩, trivial⟩ ⟨fun _ _ p b => row_keep p b, fun _ _ p b => p.below b, fun _ _ p b => row_keep p b, fun _ _ p b => grown_below p b, trivial⟩ ⟨⟨.inr (.inl (by kernel_rfl)), .inr (.inl (by kernel_rfl)), .inr (.inr rfl), .inl (fun _ _ p b => grown_oneR p b.1), trivial⟩, trivial⟩ ⟨HHW.out, HRL.out.drew, HHW.out, grown_drew HGW.out, trivial⟩ 86 rfl (by kernel_rfl) (by kernel_rfl) rfl rfl 9 rfl ?q1obl ?q1fin
      case q1obl =>
        refine And.intro ?q1o0 (And.intro ?q1o1 (And.intro ?q1o2 (And.intro ?q1o3 (And.intro ?q1o4 (And.intro ?q1o5 (And.intro ?q1o6 (And.intro ?q1o7 (And.intro ?q1o8 (True.intro)))))))))
        case q1o0 =>
          intro w1 hI
          refine turn2_on (by rfl) ?_
          intro K hK
          go_simp
          refine hK _ _ ⟨rfl, Kept.refl _, ?_⟩
          show _ = _
          simp only [gv1]
          rfl
        case q1o1 =>
          intro w1 hI
          replace hI : (fun w => w.heap[hb]? = some (.cells #[.int .u64 J.h.turn, .int .u64 J.h.first, .int .u64 J.h.next, .int .i64 (p : Int)] 76 (0, 0))) w1 := hI
          intro v0 h0
          change _ = _ at h0
          subst v0
          refine turn2_on (by rfl) ?_
          intro K hK
          simp only [gv2]
          obtain ⟨z0, z1, z2, z3⟩ := cells4 hI
          go_simp
          refine hK _ _ ⟨rfl, Kept.refl _, ?_⟩
          show _ = _
          simp only [gv1]
          rfl
        case q1o2 =>
          intro w1 hI
          refine turn2_on (by rfl) ?_
          intro K hK
          go_simp
          refine hK _ _ ⟨rfl, Kept.refl _, ?_⟩
          show _ = _
          simp only [gv1]
          rfl
        case q1o3 =>
          intro w1 hI
          intro v1 h1
          change _ = _ at h1
          subst v1
          intro v2 h2
          change _ = _ at h2
          subst v2
          refine turn2_on (by rfl) ?_
          intro K hK
          simp only [gv2]
          go_simp
          refine hK _ _ ⟨rfl, Kept.refl _, ?_⟩
          show _ = _
          simp only [gv1]
          rfl
        case q1o4 =>
          intro w1 hI
          refine turn2_on (by rfl) ?_
          intro K hK
          go_simp
          refine hK _ _ ⟨rfl, Kept.refl _, ?_⟩
          show _ = _
          simp only [gv1]
          rfl
        case q1o5 =>
          intro w1 hI
          replace hI : (fun w => RdL Q r d st J w0 w) w1 := hI
          intro v4 h4
          change _ = _ at h4
          subst v4
          refine turn2_on (by rfl) ?_
          intro K hK
          simp only [gv2]
          go_simp
          refine Calls.mono (HAR.out w1 hI) ?_
          rintro e w2 ⟨rfl, rfl⟩
          refine hK _ _ ⟨rfl, Kept.refl _, ?_⟩
          show _ = _
          simp only [gv1]
          rfl
        case q1o6 =>
          intro w1 hI
          intro v3 h3
          change _ = _ at h3
          subst v3
          intro v5 h5
          change _ = _ at h5
          subst v5
          refine turn2_on (by rfl) ?_
          intro K hK
          simp only [gv2]
          go_simp
          refine hK _ _ ⟨rfl, Kept.refl _, ?_⟩
          show _ = _
          simp only [gv1]
          rfl
        case q1o7 =>
          intro w1 hI
          refine turn2_on (by rfl) ?_
          intro K hK
          go_simp
          refine hK _ _ ⟨rfl, Kept.refl _, ?_⟩
          show _ = _
          simp only [gv1]
          rfl
        case q1o8 =>
          intro w1 hI
          replace hI : (fun w => w.heap[hb]? = some (.cells #[.int .u64 J.h.turn, .int .u64 J.h.first, .int .u64 J.h.next, .int .i64 (p : Int)] 76 (0, 0))) w1 := hI
          intro v6 h6
          change _ = _ at h6
          subst v6
          intro v7 h7
          change _ = _ at h7
          subst v7
          refine turn2_on (by rfl) ?_
          intro K hK
          simp only [gv2]
          obtain ⟨z0, z1, z2, z3⟩ := cells4 hI
          have zf := fun i => frozen_of_row w1 hb i _ _ hI
          have hend := heap_setCell_same w1 hb 3 _ _ (.int .i64 (p2 : Int)) hI
          have hgr := cell_grownR w1 hb 3 (.int .i64 (p2 : Int))
          have HEND := Lib.hid hend
          have HGR := Lib.hid hgr
          clear hend hgr hI
          go_simp
          refine hK _ _ ⟨rfl, ⟨HGR.out, HEND.out⟩, ?_⟩
          exact HEND.out
      intro w8 hI
      replace hI : (fun w => w9.grownBy w (some hb)) w8 := hI
      intro v0 h0
      change _ = _ at h0
      subst v0
      intro v1 h1
      change _ = _ at h1
      subst v1
      intro v2 h2
      change _ = _ at h2
      subst v2
      intro v3 h3
      change _ = _ at h3
      subst v3
      intro v4 h4
      change _ = _ at h4
      subst v4
      intro v5 h5
      change _ = _ at h5
      subst v5
      intro v6 h6
      change _ = _ at h6
      subst v6
      intro v7 h7
      change _ = _ at h7
      subst v7
      intro v8 h8
      simp only [Given, gv2]
      have HEND := Lib.hid h8
      have HGW8 := Lib.hid hI
      clear h8
      go_wp2_with fail
      go_roundw
      case rel => exact ⟨i + 1, p2, by omega, by go_num, HGW8, HP2.out.symm, HEND.out⟩
      case measure => simp [intOf] <;> omega
    · obtain rfl : i = k := by omega
      have d5 : decide ((i : Int) < i) = false := decide_eq_false (by omega)
      have hrow := HQ.out.2
      obtain ⟨z0, z1, z2, z3⟩ := cells4 hrow
      have zf := fun j => frozen_of_row wr hb j _ _ hrow
      have e5 : IntKind.u64.wrap (up + 1) = J.h.first + (i : Int) := by rw [HK1.out, IntKind.wrap_u64]; have := HFK.out; have := HWF.out.f0; omega
      have hrow2 := heap_setCell_same wr hb 1 _ _ (.int .u64 (J.h.first + (i : Int))) hrow
      have hgr2 := cell_grownR wr hb 1 (.int .u64 (J.h.first + (i : Int)))
      have HRLQ := Lib.hid (HRL.out.at_ hgr2 (Nat.le_of_eq hhb))
      have HP1 := HQ.out.1
      clear hrow hgr2
      go_upto_region 14 with fail
      obtain ⟨wq, hwq⟩ : ∃ wq, wr.setCell ⟨hb, 1, none⟩ (.int .u64 (J.h.first + (i : Int))) = wq := ⟨_, rfl⟩
      rw [hwq] at hrow2 HRLQ ⊢
      clear hwq z0 z1 z2 z3 zf
      replace hrow2 : wq.heap[hb]? = some (.cells #[.int .u64 J.h.turn, .int .u64 (J.h.first + (i : Int)), .int .u64 J.h.next, .int .i64 (p : Int)] 76 (0, 0)) := hrow2
      obtain ⟨z0, z1, z2, z3⟩ := cells4 hrow2
      rw [← HP1] at HTU
      clear HP1 hrow2 e5
      go_wp2_with fail
      refine (HTU.out wq HRLQ.out.ri).mono ?_
      rintro e w5 ⟨rfl, Q5, hr5, ht5⟩
      have R5 := Lib.hid hr5
      have T5 := Lib.hid (HRLQ.out.tnd.trans ht5)
      clear hr5 ht5
      by_cases harm : st.armed = 1
      · have e6 : wr1E st = 8 := by unfold wr1E; rw [if_pos harm]
        have HE2 : Hid (trS st J up = ⟨tuS st J (trH J i), J, 8⟩) := by show _ = _; rw [HE.out, if_pos harm]
        have R6 : Hid (RiIn w5 Q5 r d (tuS st J (trH J i)) J) := by
          have h := R5.out
          unfold tuJ at h
          rw [if_pos harm] at h
          exact h
        rw [e6]
        clear e6 harm
        go_wp2_with fail
        go_ret
        rw [HE2.out]
        exact ⟨rfl, Q5, R6.out, T5.out⟩
      · have e6 : wr1E st = 0 := by unfold wr1E; rw [if_neg harm]
        obtain ⟨S5, hS5⟩ : ∃ S5, tuS st J (trH J i) = S5 := ⟨_, rfl⟩
        have HE2 : Hid (trS st J up = ⟨S5, { J with h := (trH J i).up, ks := J.ks.drop i }, 0⟩) := by
          show _ = _
          rw [HE.out, if_neg harm, hS5]
          unfold tuJ
          rw [if_neg harm]
        have R6 : Hid (RiIn w5 Q5 r d S5 { J with h := (trH J i).up }) := by
          have h := R5.out
          unfold tuJ at h
          rw [if_neg harm, hS5] at h
          exact h
        rw [e6]
        clear e6 harm R5 hS5
        obtain ⟨⟨Z5, sv5, hd5, hr5, ho5, hz5, hq5, hn5, hg5⟩, ok5, dok5, lt5⟩ := R6.out
        obtain ⟨a5, c5, rfl⟩ := ho5.shapeN NL (by unfold zs; rw [List.length_map]; exact HNL.out)
        have hrd5 := ho5.rd
        have hcap5 := hrd5.cap
        have hcm5 := hrd5.max
        obtain ⟨b5, o5, rfl, _⟩ := hrd5.cell 0 (by omega)
        have hif : ∀ (A B : Option Addr), (if c5 = i then A else B) = pkT c5 i A B := fun _ _ => rfl
        have RK := rd_pkT hrd5 i (by omega)
        obtain ⟨a6, ha6⟩ : ∃ a6, pkT c5 i (some (⟨b5, o5, none⟩ : Addr)) (some ⟨b5, o5 + i, none⟩) = a6 := ⟨_, rfl⟩
        rw [ha6, show (zs J.ks).drop i = zs (J.ks.drop i) from List.map_drop.symm] at RK
        have RKH := Lib.hid RK
        have hok6 : JOk { J with h := (trH J i).up, ks := J.ks.drop i } := ⟨ok5.n4, ok5.n1, ok5.lo, ok5.s0, ok5.s1, ok5.h, ok5.st, Nat.le_trans (sumN_drop _ _) ok5.ks, fun x hx => ok5.kp x (List.mem_of_mem_drop hx)⟩
        have HST5 : Hid (∀ v' w', Owns .i64 3 w' w5.heap.size v' (zs (J.ks.drop i)) → Below w5.heap.size w5 w' → w'.heap[r]? = some (rowJ d (.slice (some ⟨b5, o5, none⟩) NL c5) { J with h := (trH J i).up }) ∧ ∃ Q', RiIn (w'.setCell ⟨r, 8, none⟩ v') Q' r d S5 { J with h := (trH J i).up, ks := J.ks.drop i } ∧ Tnd Q5 Q' w5 (w'.setCell ⟨r, 8, none⟩ v')) := fun v' w' h1 h2 => ri_set (J := { J with h := (trH J i).up }) hd5 hr5 hz5 hq5 hn5 dok5 lt5 h1 h2 hok6
        obtain ⟨y0, y1, y2, y3, y4, y5, y6, y7, y8, yf⟩ := cellsJ hr5
        have HLD : Hid ((zs (J.ks.drop i)).length = NL - i) := RK.len
        clear hd5 hr5 ho5 hz5 hq5 hn5 hg5 ok5 dok5 lt5 hok6 hrd5 RK
        go_wp2_with fail
        refine (cloneI_any a6 (NL - i) (c5 - i) _ w5 RKH.out (by omega)).mono ?_
        rintro e w6 ⟨v6, rfl, ho6, hb6⟩
        obtain ⟨a7, c7, rfl⟩ := ho6.shapeN (NL - i) HLD.out
        obtain ⟨hr6, Q6, hri6, ht6⟩ := HST5.out _ w6 ho6 hb6
        have R7 := Lib.hid hri6
        have T7 := Lib.hid (T5.out.trans ht6)
        clear y0 y1 y2 y3 y4 y5 y6 y7 y8 yf ho6 hb6 hri6 ht6
        obtain ⟨y0, y1, y2, y3, y4, y5, y6, y7, y8, yf⟩ := cellsJ hr6
        clear hr6
        go_wp2_with fail
        go_ret
        rw [HE2.out]
        exact ⟨rfl, Q6, R7.out, T7.out⟩
end Go.Proofs.Ytlhpdkapddnbcaa
