/- ring: a disk that holds a journal's records: it is opened so. Plain. ring: Format leaves a journal without records. Plain. ring: records that lie, one more behind them. Plain. ring: Append, whole, leaves the records and one more. Plain. ring: begun: a journal in the middle of a disk. ring: the chapter's example, plainly: what is appended is there behind a cut. ring: known, plainly: what its disk holds. []byte("..") of a constant: its row gets a mark behind its last cell; append to a slice that is full. No program in sight. ring: known: walked. -/
import Derived.Test.YtlhpdkapddnbcaaJn13
import Derived.Test.YtlhpdkapddnbcaaJn3
import Derived.Test.YtlhpdkapddnbcaaJn1
import Derived.Test.YtlhpdkapddnbcaaJn5
import Derived.Lib.SlBytesConst
namespace Go.Proofs.Ytlhpdkapddnbcaa
open Go.RowKit
/-- A state as it may stand in a sector. -/
structure HdV (n : Nat) (h : Hd) : Prop where
  wf : h.Wf
  f1 : 1 ≤ h.first
  le : h.first ≤ h.next
  st : h.start < (n : Int) - 2
/-- Sectors that hold a journal: state h, the one ahead of it in the other sector, the records L. -/
structure HoldsK (kx : Nat → List Int) (lo n size : Nat) (h : Hd) (L : List (List Int)) : Prop where
  hv : HdV n h
  new : kx (lo + (h.turn % 2).toNat) = hdS size h
  old : ∃ o, HdV n o ∧ o.turn + 1 = h.turn ∧ kx (lo + (o.turn % 2).toNat) = hdS size o
  next : h.next = h.first + L.length
  sum : sumN (ksOf size L) ≤ n - 2
  lie : LieAt kx lo n size h.start.toNat h.first L
theorem hdR_hv {n size slot : Nat} {h : Hd} (hv : HdV n h) (hs : h.turn % 2 = slot) : hdR n (hdS size h) slot = some h := hdR_hdS hv.wf hv.f1 hv.le hv.st hs
theorem stF_holds {kx : Nat → List Int} {lo n size : Nat} {h : Hd} {L : List (List Int)} (H : HoldsK kx lo n size h L) : stF n (kx lo) (kx (lo + 1)) = some h := by
  obtain ⟨o, ov, ot, ok⟩ := H.old
  have hn := H.new
  have hv := H.hv
  have b0 := hv.wf.t0
  have b1 := hv.wf.t1
  have c0 := ov.wf.t0
  have c1 := ov.wf.t1
  unfold stF
  by_cases he : h.turn % 2 = 0
  · have ho : o.turn % 2 = 1 := by omega
    rw [he] at hn
    rw [ho] at ok
    change kx (lo + 0) = _ at hn
    change kx (lo + 1) = _ at ok
    rw [Nat.add_zero] at hn
    rw [hn, ok, hdR_hv hv (slot := 0) (by omega), hdR_hv ov (slot := 1) (by omega)]
    show stP h o = some h
    unfold stP
    rw [if_pos (by omega)]
  · have he1 : h.turn % 2 = 1 := by omega
    have ho : o.turn % 2 = 0 := by omega
    rw [he1] at hn
    rw [ho] at ok
    change kx (lo + 1) = _ at hn
    change kx (lo + 0) = _ at ok
    rw [Nat.add_zero] at ok
    rw [hn, ok, hdR_hv hv (slot := 1) (by omega), hdR_hv ov (slot := 0) (by omega)]
    show stP o h = some h
    unfold stP
    rw [if_neg (by omega), if_pos (by omega)]
/-- It is opened so. -/
theorem opR_holds {kx : Nat → List Int} {lo n size : Nat} {h : Hd} {L : List (List Int)} (H : HoldsK kx lo n size h L) (hs : 64 ≤ size) (h4 : 4 ≤ n) (hn : n ≤ 65536) : opR kx lo n size = some (h, L) := by
  have hlen : L.length ≤ n - 2 := by
    have h1 : ∀ l : List (List Int), l.length ≤ sumN (ksOf size l) := fun l => by
      induction l with
      | nil => exact Nat.zero_le _
      | cons x r ih =>
        have : 1 ≤ ndN size x.length := by unfold ndN; omega
        show r.length + 1 ≤ ndN size x.length + sumN (ksOf size r)
        omega
    have := h1 L
    have := H.sum
    omega
  have hnx := H.next
  have hf := H.hv.f1
  have hb := H.hv.wf.n1
  unfold opR
  rw [stF_holds H]
  show (if (n : Int) - 2 < h.next - h.first then none else _) = _
  rw [if_neg (by omega)]
  have hc : (h.next - h.first).toNat = L.length := by omega
  rw [hc, opF_back hs h4 hn L h.start.toNat h.start.toNat h.first (n - 2) (by omega) (by omega) rfl H.sum (Nat.le_refl _) H.lie]
  rfl
/-- What is pending, flushed. -/
theorem settle_all_one (p : List (Int × List Int)) : ∀ (i : Nat) (k : List (List Int)) (s : Nat), (∀ q ∈ p, q.1 ≠ (s : Int) ∧ 0 ≤ q.1) → (settleK (fun _ => true) i p k)[s]? = k[s]? := by
  induction p with
  | nil => intro i k s _; rfl
  | cons q r ih =>
    intro i k s h
    obtain ⟨t, b⟩ := q
    unfold settleK
    rw [if_pos rfl, ih (i + 1) _ s (fun q hq => h q (List.mem_cons_of_mem _ hq))]
    have h1 := h (t, b) (List.mem_cons_self ..)
    rw [List.getElem?_set_ne]
    intro e
    have h2 : t ≠ (s : Int) := h1.1
    have h3 : 0 ≤ t := h1.2
    omega
theorem secB_flush {st : Dk} {s : Nat} : secB (flushS st) s = ((flushS st).kept[s]?).getD [] := rfl
/-- What was written at s lies there. -/
theorem settle_put (p : List (Int × List Int)) (k : List (List Int)) (s : Nat) (b : List Int) (hs : s < k.length) : (settleK (fun _ => true) 0 (p ++ [((s : Int), b)]) k)[s]? = some b := by
  have h : ∀ (p : List (Int × List Int)) (i : Nat) (k : List (List Int)), s < k.length → (settleK (fun _ => true) i (p ++ [((s : Int), b)]) k)[s]? = some b := by
    intro p
    induction p with
    | nil =>
      intro i k hk
      show (settleK (fun _ => true) i [((s : Int), b)] k)[s]? = some b
      unfold settleK settleK
      rw [if_pos rfl, Int.toNat_natCast, List.getElem?_set_self hk]
    | cons q r ih =>
      intro i k hk
      obtain ⟨t, c⟩ := q
      show (settleK (fun _ => true) i ((t, c) :: (r ++ [((s : Int), b)])) k)[s]? = some b
      unfold settleK
      rw [if_pos rfl]
      exact ih (i + 1) _ (by rw [List.length_set]; exact hk)
  exact h p 0 k hs
end Go.Proofs.Ytlhpdkapddnbcaa

namespace Go.Proofs.Ytlhpdkapddnbcaa
open Go.RowKit
theorem fm_sec {st : Dk} {lo size : Nat} {t : Int} (hp : st.pend = []) (hn : lo + 2 ≤ st.kept.length) : secB (fmS st lo size t) lo = hdS size (hdI t) ∧ secB (fmS st lo size t) (lo + 1) = hdS size (hdI (t + 1)) ∧ ∀ s, s ≠ lo → s ≠ lo + 1 → secB (fmS st lo size t) s = (st.kept[s]?).getD [] := by
  have hk : (fmS st lo size t).kept = (st.kept.set lo (hdS size (hdI t))).set (lo + 1) (hdS size (hdI (t + 1))) := by
    show settleK (fun _ => true) 0 ((st.pend ++ [((lo : Int), hdS size (hdI t))]) ++ [(((lo + 1 : Nat) : Int), hdS size (hdI (t + 1)))]) st.kept = _
    rw [hp]
    show settleK (fun _ => true) 0 [((lo : Int), hdS size (hdI t)), (((lo + 1 : Nat) : Int), hdS size (hdI (t + 1)))] st.kept = _
    unfold settleK settleK settleK
    rw [if_pos rfl, if_pos rfl, Int.toNat_natCast, Int.toNat_natCast]
  have hs : ∀ s, secB (fmS st lo size t) s = ((fmS st lo size t).kept[s]?).getD [] := fun s => rfl
  refine ⟨?_, ?_, fun s h1 h2 => ?_⟩
  · rw [hs, hk, List.getElem?_set_ne (by omega), List.getElem?_set_self (by omega)]
    rfl
  · rw [hs, hk, List.getElem?_set_self (by rw [List.length_set]; omega)]
    rfl
  · rw [hs, hk, List.getElem?_set_ne (by omega), List.getElem?_set_ne (by omega)]
theorem fm_holds {st : Dk} {lo n size : Nat} {t : Int} (hp : st.pend = []) (h4 : 4 ≤ n) (hn : lo + n ≤ st.kept.length) (h0 : 0 ≤ t) (h1 : t ≤ 4611686018427387908) (h2 : t % 2 = 0) : HoldsK (secB (fmS st lo size t)) lo n size (hdI (t + 1)) [] := by
  obtain ⟨e0, e1, _⟩ := fm_sec (size := size) (t := t) hp (show lo + 2 ≤ st.kept.length by omega)
  have hv : ∀ t : Int, 0 ≤ t → t ≤ 18446744073709551615 → HdV n (hdI t) := fun t a b => ⟨hdI_wf a b, by show (1 : Int) ≤ 1; omega, by show (1 : Int) ≤ 1; omega, by show (0 : Int) < (n : Int) - 2; omega⟩
  refine ⟨hv _ (by omega) (by omega), ?_, ⟨hdI t, hv _ h0 (by omega), rfl, ?_⟩, rfl, Nat.zero_le _, trivial⟩
  · rw [show ((hdI (t + 1)).turn % 2).toNat = 1 by show ((t + 1) % 2).toNat = 1; omega]
    exact e1
  · rw [show ((hdI t).turn % 2).toNat = 0 by show (t % 2).toNat = 0; omega]
    exact e0
/-- Sectors written and flushed. -/
def setAll (k : List (List Int)) : List (Nat × List Int) → List (List Int)
  | [] => k
  | p :: r => setAll (k.set p.1 p.2) r
theorem setAll_len : ∀ (ws : List (Nat × List Int)) (k : List (List Int)), (setAll k ws).length = k.length
  | [], _ => rfl
  | p :: r, k => by rw [setAll, setAll_len r, List.length_set]
theorem setAll_other : ∀ (ws : List (Nat × List Int)) (k : List (List Int)) (s : Nat), (∀ p ∈ ws, p.1 ≠ s) → (setAll k ws)[s]? = k[s]?
  | [], _, _, _ => rfl
  | p :: r, k, s, h => by
    rw [setAll, setAll_other r _ s (fun q hq => h q (List.mem_cons_of_mem _ hq)), List.getElem?_set_ne (h p (List.mem_cons_self ..))]
theorem setAll_at : ∀ (ws : List (Nat × List Int)) (k : List (List Int)) (i : Nat) (p : Nat × List Int), ws[i]? = some p → p.1 < k.length → (∀ j q, i < j → ws[j]? = some q → q.1 ≠ p.1) → (setAll k ws)[p.1]? = some p.2
  | [], _, _, _, h, _, _ => by simp at h
  | q :: r, k, 0, p, h, hp, hd => by
    simp at h
    subst h
    rw [setAll, setAll_other r _ _ (fun x hx => by
      obtain ⟨j, hj⟩ := List.getElem?_of_mem hx
      exact hd (j + 1) x (by omega) (by simpa using hj)), List.getElem?_set_self hp]
  | q :: r, k, i + 1, p, h, hp, hd => by
    rw [setAll]
    exact setAll_at r _ i p (by simpa using h) (by rw [List.length_set]; exact hp) (fun j x hj hx => hd (j + 1) x (by omega) (by simpa using hx))
theorem settle_setAll (κ : Nat → Bool) : ∀ (ws : List (Nat × List Int)) (i : Nat) (k : List (List Int)), (∀ j, κ j = true) → settleK κ i (ws.map fun p => ((p.1 : Int), p.2)) k = setAll k ws
  | [], _, _, _ => rfl
  | p :: r, i, k, h => by
    show settleK κ i (((p.1 : Int), p.2) :: r.map _) k = _
    unfold settleK
    rw [if_pos (h i), Int.toNat_natCast, settle_setAll κ r (i + 1) _ h]
    rfl
/-- The sectors of a record, from the i-th on. -/
def apW (J : Jr) (l : List Int) (i : Nat) : Nat → List (Nat × List Int)
  | 0 => []
  | c + 1 => (ptAt J i, ptS J.size J.h.next l i) :: apW J l (i + 1) c
theorem apGo_whole (J : Jr) (l : List Int) : ∀ (c i : Nat) (st : Dk), st.armed = 0 ∨ (c : Int) < st.armed → (apGo J l c i st).pend = st.pend ++ (apW J l i c).map (fun p => ((p.1 : Int), p.2)) ∧ (apGo J l c i st).kept = st.kept ∧ (apGo J l c i st).off = st.off ∧ (apGo J l c i st).keep = st.keep ∧ (apGo J l c i st).size = st.size ∧ (apGo J l c i st).reads = st.reads ∧ (apGo J l c i st).writes = st.writes + c ∧ (apGo J l c i st).armed = (if st.armed = 0 then 0 else st.armed - c)
  | 0, i, st, _ => by
    refine ⟨by simp [apGo, apW], rfl, rfl, rfl, rfl, rfl, by show st.writes = st.writes + ((0 : Nat) : Int); omega, ?_⟩
    show st.armed = _
    split <;> omega
  | c + 1, i, st, h => by
    have ha : ¬ st.armed = 1 := by omega
    rw [apGo_put _ _ _ _ _ ha]
    have hput : (putS st (ptAt J i) (ptS J.size J.h.next l i)).armed = if st.armed = 0 then 0 else st.armed - 1 := rfl
    obtain ⟨e1, e2, e3, e4, e5, e6, e7, e8⟩ := apGo_whole J l c (i + 1) (putS st (ptAt J i) (ptS J.size J.h.next l i)) (by rw [hput]; split <;> omega)
    refine ⟨?_, e2, e3, e4, e5, e6, ?_, ?_⟩
    · rw [e1]
      show (st.pend ++ [_]) ++ _ = _
      rw [List.append_assoc]
      rfl
    · rw [e7]
      show st.writes + 1 + (c : Int) = _
      omega
    · rw [e8, hput]
      by_cases h0 : st.armed = 0
      · rw [if_pos h0, if_pos rfl, if_pos h0]
      · rw [if_neg h0, if_neg (by omega), if_neg h0]
        omega
end Go.Proofs.Ytlhpdkapddnbcaa

namespace Go.Proofs.Ytlhpdkapddnbcaa
open Go.RowKit
theorem LieAt.keep {kx kx' : Nat → List Int} {lo n size : Nat} : ∀ (L : List (List Int)) (p : Nat) (num : Int), LieAt kx lo n size p num L → (∀ i, i < sumN (ksOf size L) → kx' (lo + 2 + (p + i) % (n - 2)) = kx (lo + 2 + (p + i) % (n - 2))) → LieAt kx' lo n size p num L
  | [], _, _, _, _ => trivial
  | l :: r, p, num, h, hk => by
    obtain ⟨a1, a2, a3⟩ := h
    have hs : sumN (ksOf size (l :: r)) = ndN size l.length + sumN (ksOf size r) := rfl
    refine ⟨a1, fun i hi => by rw [hk i (by omega)]; exact a2 i hi, LieAt.keep r _ _ a3 (fun i hi => ?_)⟩
    have := hk (ndN size l.length + i) (by omega)
    rw [← Nat.add_assoc] at this
    exact this
theorem LieAt.app {kx : Nat → List Int} {lo n size : Nat} : ∀ (L M : List (List Int)) (p : Nat) (num : Int), LieAt kx lo n size p num L → LieAt kx lo n size (p + sumN (ksOf size L)) (num + L.length) M → LieAt kx lo n size p num (L ++ M)
  | [], M, p, num, _, h => by
    have e : num + (([] : List (List Int)).length : Int) = num := by simp
    rw [e] at h
    exact h
  | l :: r, M, p, num, h, hM => by
    obtain ⟨a1, a2, a3⟩ := h
    have hs : sumN (ksOf size (l :: r)) = ndN size l.length + sumN (ksOf size r) := rfl
    refine ⟨a1, a2, LieAt.app r M _ _ a3 ?_⟩
    rw [hs, ← Nat.add_assoc] at hM
    have e : num + ((l :: r).length : Int) = num + 1 + (r.length : Int) := by simp; omega
    rw [e] at hM
    exact hM
theorem mod_ne {m p i j : Nat} (hm : i < m) (hj : j < m) (hne : i ≠ j) : (p + i) % m ≠ (p + j) % m := fun h => by
  have h1 : (p + i) % m = (p + j) % m := h
  have h2 : ∀ a b : Nat, a ≤ b → (p + a) % m = (p + b) % m → b < m → a = b := fun a b hab hmod hb => by
    have h3 : (p + b - (p + a)) % m = 0 := Nat.sub_mod_eq_zero_of_mod_eq hmod.symm
    rw [show p + b - (p + a) = b - a by omega, Nat.mod_eq_of_lt (by omega)] at h3
    omega
  rcases Nat.le_total i j with h3 | h3
  · exact hne (h2 i j h3 h1 hj)
  · exact hne (h2 j i h3 h1.symm hm).symm
theorem apW_len (J : Jr) (l : List Int) : ∀ (c i : Nat), (apW J l i c).length = c
  | 0, _ => rfl
  | c + 1, i => by show (apW J l (i + 1) c).length + 1 = c + 1; rw [apW_len]
theorem apW_at (J : Jr) (l : List Int) : ∀ (c i j : Nat), j < c → (apW J l i c)[j]? = some (ptAt J (i + j), ptS J.size J.h.next l (i + j))
  | c + 1, i, 0, _ => rfl
  | c + 1, i, j + 1, h => by
    show (apW J l (i + 1) c)[j]? = _
    rw [apW_at J l c (i + 1) j (by omega), show i + 1 + j = i + (j + 1) by omega]
/-- The sectors behind a whole record's writes. -/
theorem ap_set {J : Jr} {l : List Int} {N : Nat} {k : List (List Int)} (h4 : 4 ≤ J.n) (hk : J.lo + J.n ≤ k.length) (hN : sumN J.ks + N ≤ J.n - 2) :
    (∀ i, i < N → (setAll k (apW J l 0 N))[ptAt J i]? = some (ptS J.size J.h.next l i)) ∧ ∀ s, (∀ i, i < N → ptAt J i ≠ s) → (setAll k (apW J l 0 N))[s]? = k[s]? := by
  have hat : ∀ i, ptAt J i < k.length := fun i => by
    have := Nat.mod_lt (J.h.start.toNat + sumN J.ks + i) (show 0 < J.n - 2 by omega)
    unfold ptAt
    omega
  refine ⟨fun i hi => ?_, fun s hs => setAll_other _ _ _ (fun p hp => ?_)⟩
  · have h := setAll_at (apW J l 0 N) k i _ (apW_at J l N 0 i hi) (by rw [Nat.zero_add]; exact hat i) (fun j q hj hq => ?_)
    · rw [Nat.zero_add] at h
      exact h
    · have hjN : j < N := by
        have := (List.getElem?_eq_some_iff.1 hq).1
        rw [apW_len] at this
        exact this
      rw [apW_at J l N 0 j hjN] at hq
      injection hq with hq
      rw [← hq]
      show ptAt J (0 + j) ≠ ptAt J (0 + i)
      rw [Nat.zero_add, Nat.zero_add]
      unfold ptAt
      have := mod_ne (m := J.n - 2) (p := J.h.start.toNat + sumN J.ks) (i := j) (j := i) (by omega) (by omega) (by omega)
      omega
  · obtain ⟨j, hj⟩ := List.getElem?_of_mem hp
    have hjN : j < N := by
      have := (List.getElem?_eq_some_iff.1 hj).1
      rw [apW_len] at this
      exact this
    rw [apW_at J l N 0 j hjN] at hj
    injection hj with hj
    rw [← hj]
    show ptAt J (0 + j) ≠ s
    rw [Nat.zero_add]
    exact hs j hjN
end Go.Proofs.Ytlhpdkapddnbcaa

namespace Go.Proofs.Ytlhpdkapddnbcaa
open Go.RowKit
/-- The disk behind an Append that was not cut. -/
theorem ap_whole {st : Dk} {J : Jr} {l : List Int} (hoff : st.off = false) (hp : st.pend = []) (harm : st.armed = 0 ∨ ((ndN J.size l.length : Nat) : Int) + 1 < st.armed) (hf : ¬ roomN J < l.length) :
    (apS st J l).e = 0 ∧ (apS st J l).J = { J with h := J.h.nx.up, ks := J.ks ++ [ndN J.size l.length] } ∧ (apS st J l).st.off = false ∧ (apS st J l).st.pend = [] ∧ (apS st J l).st.size = st.size ∧ (apS st J l).st.reads = st.reads ∧ (apS st J l).st.writes = st.writes + (ndN J.size l.length : Nat) + 1 ∧ (st.armed = 0 → (apS st J l).st.armed = 0) ∧
    (apS st J l).st.kept = (setAll st.kept (apW J l 0 (ndN J.size l.length))).set (J.lo + ((J.h.turn + 1) % 2).toNat) (hdS J.size J.h.nx.up) := by
  obtain ⟨N, hN⟩ : ∃ N, ndN J.size l.length = N := ⟨_, rfl⟩
  rw [hN] at harm ⊢
  obtain ⟨e1, e2, e3, e4, e5, e6, e7, e8⟩ := apGo_whole J l N 0 st (by omega)
  obtain ⟨s, hs⟩ : ∃ s, apGo J l N 0 st = s := ⟨_, rfl⟩
  rw [hs] at e1 e2 e3 e4 e5 e6 e7 e8
  have ha : ¬ s.armed = 1 := by rw [e8]; split <;> omega
  have hA : apS st J l = ⟨tuS (flushS s) J J.h.nx, { tuJ (flushS s) J J.h.nx with ks := J.ks ++ [N] }, 0⟩ := by
    unfold apS
    rw [if_neg hf, hN, hs]
    show (if s.off = true then _ else _) = _
    rw [e3, hoff, if_neg (by decide), if_neg ha]
  have ha2 : ¬ (flushS s).armed = 1 := ha
  have hT : tuS (flushS s) J J.h.nx = flushS (putS (flushS s) ((J.lo : Int) + J.h.nx.up.turn % 2) (hdS J.size J.h.nx.up)) := by unfold tuS; rw [if_neg ha2]
  have hJ : tuJ (flushS s) J J.h.nx = { J with h := J.h.nx.up } := by unfold tuJ; rw [if_neg ha2]
  rw [hA, hT, hJ]
  refine ⟨rfl, rfl, by show s.off = false; rw [e3, hoff], rfl, e5, e6, by show s.writes + 1 = _; rw [e7], fun h0 => ?_, ?_⟩
  · show (if s.armed = 0 then (0 : Int) else s.armed - 1) = 0
    rw [e8, if_pos h0, if_pos rfl]
  · show settleK (fun _ => true) 0 ([] ++ [((J.lo : Int) + J.h.nx.up.turn % 2, hdS J.size J.h.nx.up)]) (settleK (fun _ => true) 0 s.pend s.kept) = _
    rw [e1, e2, hp, List.nil_append, List.nil_append, settle_setAll _ _ _ _ (fun _ => rfl)]
    unfold settleK settleK
    rw [if_pos rfl, show ((J.lo : Int) + J.h.nx.up.turn % 2).toNat = J.lo + ((J.h.turn + 1) % 2).toNat by show ((J.lo : Int) + (J.h.turn + 1) % 2).toNat = _; omega]
theorem secB_kept {st : Dk} (hp : st.pend = []) (s : Nat) : secB st s = (st.kept[s]?).getD [] := by unfold secB; rw [hp]; rfl
/-- It holds one record more. -/
theorem ap_holds {st : Dk} {J : Jr} {L : List (List Int)} {l : List Int} (ok : JOk J) (dok : DOk st J) (hoff : st.off = false) (hp : st.pend = []) (harm : st.armed = 0 ∨ ((ndN J.size l.length : Nat) : Int) + 1 < st.armed) (hf : ¬ roomN J < l.length) (H : HoldsK (secB st) J.lo J.n J.size J.h L) (hks : J.ks = ksOf J.size L) (hnx : J.h.next < 18446744073709551615) (htn : J.h.turn < 18446744073709551615) :
    HoldsK (secB (apS st J l).st) J.lo J.n J.size J.h.nx.up (L ++ [l]) := by
  obtain ⟨_, _, _, hp2, _, _, _, _, hk⟩ := ap_whole hoff hp harm hf
  obtain ⟨hsum, hl2⟩ := nd_room ok hf
  obtain ⟨N, hN⟩ : ∃ N, ndN J.size l.length = N := ⟨_, rfl⟩
  rw [hN] at hk hsum
  have hn4 := ok.n4
  have hdn := dok.n
  obtain ⟨s1, s2⟩ := ap_set (l := l) (k := st.kept) hn4 hdn hsum
  have hlen : (setAll st.kept (apW J l 0 N)).length = st.kept.length := setAll_len _ _
  have hpt : ∀ i, J.lo + 2 ≤ ptAt J i ∧ ptAt J i < J.lo + J.n := fun i => by
    have := Nat.mod_lt (J.h.start.toNat + sumN J.ks + i) (show 0 < J.n - 2 by omega)
    unfold ptAt
    omega
  have hsl : ((J.h.turn + 1) % 2).toNat < 2 := by omega
  have hx : ∀ s, s ≠ J.lo + ((J.h.turn + 1) % 2).toNat → secB (apS st J l).st s = ((setAll st.kept (apW J l 0 N))[s]?).getD [] := fun s h => by
    rw [secB_kept hp2, hk, List.getElem?_set_ne (fun e => h e.symm)]
  have hv := H.hv
  have hw : J.h.nx.up.Wf := ⟨by have := hv.wf.t0; show 0 ≤ J.h.turn + 1; omega, by show J.h.turn + 1 ≤ _; omega, hv.wf.f0, hv.wf.f1, by have := hv.wf.n0; show 0 ≤ J.h.next + 1; omega, by show J.h.next + 1 ≤ _; omega, hv.wf.s0, hv.wf.s1⟩
  have hrec : sumN J.ks = sumN (ksOf J.size L) := by rw [hks]
  refine ⟨⟨hw, hv.f1, by have := hv.le; show J.h.first ≤ J.h.next + 1; omega, hv.st⟩, ?_, ⟨J.h, hv, rfl, ?_⟩, ?_, ?_, ?_⟩
  · show secB _ (J.lo + ((J.h.turn + 1) % 2).toNat) = _
    rw [secB_kept hp2, hk, List.getElem?_set_self (by rw [hlen]; omega)]
    rfl
  · rw [hx _ (by omega), s2 _ (fun i _ => by have := hpt i; omega), ← secB_kept hp]
    exact H.new
  · show J.h.next + 1 = J.h.first + ((L ++ [l]).length : Int)
    rw [H.next, List.length_append]
    simp
    omega
  · rw [ksOf_snoc, sumN_app, ← hrec, hN]
    show sumN J.ks + (N + 0) ≤ _
    omega
  · show LieAt _ _ _ _ J.h.start.toNat J.h.first (L ++ [l])
    refine LieAt.app L [l] _ _ (LieAt.keep L _ _ H.lie (fun i hi => ?_)) ⟨by unfold recTop; omega, fun i hi => ?_, trivial⟩
    · rw [hx _ (by omega), s2 _ (fun j hj => ?_), ← secB_kept hp]
      unfold ptAt
      have h := mod_ne (m := J.n - 2) (p := J.h.start.toNat) (i := sumN J.ks + j) (j := i) (by omega) (by omega) (by omega)
      rw [← Nat.add_assoc] at h
      omega
    · rw [hN] at hi
      have he : J.lo + 2 + (J.h.start.toNat + sumN (ksOf J.size L) + i) % (J.n - 2) = ptAt J i := by unfold ptAt; rw [hrec]
      rw [he, hx _ (by have := hpt i; omega), s1 i hi]
      show ptS _ _ _ _ = ptS _ _ _ _
      rw [H.next]
end Go.Proofs.Ytlhpdkapddnbcaa

namespace Go.Proofs.Ytlhpdkapddnbcaa
open Go.RowKit
def bgT (n size : Nat) : Int := fmT n (fun k => secB (dk0 (n + 4) size) (2 + k)) 2
/-- The world of a play, as begun makes it. -/
structure Begun (w0 w : World) (g d r : Nat) (Q : Nat → Prop) (n size : Nat) : Prop where
  row : w.heap[g]? = some (.cells #[.pointer (some ⟨d, 0, none⟩), .pointer (some ⟨r, 0, none⟩), .int .i64 2, .int .i64 (n : Int), .slice none 0 0, .int .u64 1, .bool false, .slice none 0 0, .int .u64 0] 31 (0, 0))
  ri : RiIn w Q r d (fmS (dk0 (n + 4) size) 2 size (bgT n size)) (fmJ 2 n size (bgT n size))
  ng : ¬ Q g
  base : ∀ k, Q k → w0.heap.size ≤ k
  gb : w0.heap.size ≤ g
  below : Below w0.heap.size w0 w
set_option linter.unusedSimpArgs false in
set_option linter.unusedVariables false in
set_option maxRecDepth 100000 in
set_option maxHeartbeats 2000000 in
theorem begun_any (n size : Nat) (w0 : World) (hn4 : 4 ≤ n) (hn : n ≤ 60) (hs : 64 ≤ size) (hs2 : size ≤ 512) :
    Calls Try.prog 10 #[.int .i64 (size : Int), .int .i64 (n : Int)] w0 fun e w' => ∃ g d r Q, e = .returned (.pointer (some ⟨g, 0, none⟩)) ∧ Begun w0 w' g d r Q n size := by
  have hrb : rightB ((n + 4 : Nat) : Int) size = true := by unfold rightB; simp; omega
  have HNW := Lib.hid (new_any (n + 4) size w0 hrb)
  have HFM : Hid (∀ (Z : Nat → Prop) (d : Nat) (w : World), DkIn w Z d (dk0 (n + 4) size) → Calls Try.prog 14 #[.pointer (some ⟨d, 0, none⟩), .int .i64 2, .int .i64 (n : Int)] w fun e w' => ∃ r, e = .returned (.tuple #[.pointer (some ⟨r, 0, none⟩), .nilIface]) ∧ ∃ Q', RiIn w' Q' r d (fmS (dk0 (n + 4) size) 2 size (bgT n size)) (fmJ 2 n size (bgT n size)) ∧ Tnd Z Q' w w') := fun Z d w h => format_any Z d (dk0 (n + 4) size) 2 n w h hn4 (by show 2 + n ≤ (List.replicate (n + 4) _).length; rw [List.length_replicate]; omega) rfl rfl rfl (by show (0 : Int) + 2 ≤ _; omega) (by show (0 : Int) + 2 ≤ _; omega)
  have hw : IntKind.i64.wrap ((n : Int) + 4) = ((n + 4 : Nat) : Int) := by rw [i64_small] <;> omega
  replace HNW : Hid (Calls Try.prog 13 #[.int .i64 ((n : Int) + 4), .int .i64 size] w0 fun e w' => ∃ d Z, e = .returned (.tuple #[.pointer (some ⟨d, 0, none⟩), .int .i64 0]) ∧ DkIn w' Z d (dk0 (n + 4) size) ∧ (∀ k, Z k → w0.heap.size ≤ k) ∧ Below w0.heap.size w0 w') := HNW
  clear hrb hw
  go_enter Try.func10, Try.ntmps10
  go_wp2_with fail
  refine HNW.out.mono ?_
  rintro e w1 ⟨d, Z, rfl, hd1, hz1, hb1⟩
  have D1 := Lib.hid hd1
  have Z1 := Lib.hid hz1
  have B1 := Lib.hid hb1
  clear hd1 hz1 hb1
  go_wp2_with fail
  refine (HFM.out Z d w1 D1.out).mono ?_
  rintro e w2 ⟨r, rfl, Q, hr2, ht2⟩
  have R2 := Lib.hid hr2
  have B2 := Lib.hid (B1.out.trans (ht2.below Z1.out B1.out.size))
  have Q2 := Lib.hid (ht2.base Z1.out B1.out.size)
  clear hr2 ht2
  go_wp2_with fail
  go_ret
  have hba : Below w2.heap.size w2 (w2.alloc (.cells #[.pointer (some ⟨d, 0, none⟩), .pointer (some ⟨r, 0, none⟩), .int .i64 2, .int .i64 (n : Int), .slice none 0 0, .int .u64 1, .bool false, .slice none 0 0, .int .u64 0] 31)) := (Below.refl _ _).alloc (Nat.le_refl _) _
  exact ⟨w2.heap.size, d, r, Q, rfl, heap_alloc_new _ _, R2.out.below hba, fun hq => Nat.lt_irrefl _ (R2.out.lt _ hq), Q2.out, B2.out.size, B2.out.trans (hba.mono B2.out.size)⟩
end Go.Proofs.Ytlhpdkapddnbcaa

namespace Go.Proofs.Ytlhpdkapddnbcaa
open Go.RowKit
theorem bgT_bd (n size : Nat) : 0 ≤ bgT n size ∧ bgT n size ≤ 4611686018427387908 ∧ bgT n size % 2 = 0 := fmT_bd _ _ _
theorem fmJ_ok {lo n size : Nat} {t : Int} (h4 : 4 ≤ n) (hn : n ≤ 65536) (hlo : lo ≤ 65536) (hs : 64 ≤ size) (hs2 : size ≤ 4096) (h0 : 0 ≤ t) (h1 : t ≤ 4611686018427387908) : JOk (fmJ lo n size t) :=
  ⟨h4, hn, hlo, hs, hs2, hdI_wf (by omega) (by omega), by show (0 : Int) < (n : Int) - 2; omega, Nat.zero_le _, fun k hk => by cases hk⟩
theorem fmJ_dok {st : Dk} {lo n size : Nat} {t : Int} (hs : st.size = size) (hn : lo + n ≤ st.kept.length) : DOk (fmS st lo size t) (fmJ lo n size t) :=
  ⟨hs, by show lo + n ≤ (settleK _ _ _ _).length; rw [settleK_len]; exact hn⟩
/-- What a fresh journal's room is. -/
theorem fmJ_room {lo n size : Nat} {t : Int} (h4 : 4 ≤ n) : roomN (fmJ lo n size t) = min (((n - 2) * (size - 32) : Nat) : Int) 1048576 := by
  unfold roomN
  rw [if_neg (by show ¬ 0 = n - 2; omega)]
  rfl
/-- The sectors do not turn by a cut, where nothing is pending. -/
theorem secB_cut {st : Dk} {keep : List Bool} (hp : st.pend = []) (s : Nat) : secB { cutS st keep with off := false } s = secB st s := by
  rw [secB_kept hp, secB_kept (st := { cutS st keep with off := false }) rfl]
  show ((settleK _ 0 st.pend st.kept)[s]?).getD [] = _
  rw [hp]
  rfl
/-- Begun, one record appended: it holds that record. -/
theorem fm_app {st : Dk} {lo n size : Nat} {t : Int} {l : List Int} (hoff : st.off = false) (hp : st.pend = []) (harm : st.armed = 0) (hsz : st.size = size) (h4 : 4 ≤ n) (hn65 : n ≤ 65536) (hlo : lo ≤ 65536) (hn : lo + n ≤ st.kept.length) (hs : 64 ≤ size) (hs2 : size ≤ 4096) (h0 : 0 ≤ t) (h1 : t ≤ 4611686018427387908) (h2 : t % 2 = 0) (hf : ¬ roomN (fmJ lo n size t) < l.length) :
    HoldsK (secB (apS (fmS st lo size t) (fmJ lo n size t) l).st) lo n size (hdI (t + 1)).nx.up [l] := by
  have harm2 : (fmS st lo size t).armed = 0 := by
    show (if (if st.armed = 0 then (0 : Int) else st.armed - 1) = 0 then (0 : Int) else _) = 0
    rw [if_pos harm, if_pos rfl]
  exact ap_holds (J := fmJ lo n size t) (L := []) (fmJ_ok h4 hn65 hlo hs hs2 h0 h1) (fmJ_dok hsz hn) hoff rfl (.inl harm2) hf (fm_holds hp h4 hn h0 h1 h2) rfl (by show (1 : Int) < _; decide) (by show t + 1 < _; omega)
end Go.Proofs.Ytlhpdkapddnbcaa

namespace Go.Proofs.Ytlhpdkapddnbcaa
open Go.RowKit
def kwT : Int := fmT 6 (fun k => secB (dk0 10 64) (2 + k)) 2
def kwA : Ap := apS (fmS (dk0 10 64) 2 64 kwT) (fmJ 2 6 64 kwT) [97, 98, 99]
def kwS : Dk := { cutS kwA.st [] with off := false }
theorem kwT_bd : 0 ≤ kwT ∧ kwT ≤ 4611686018427387908 ∧ kwT % 2 = 0 := fmT_bd _ _ _
theorem kw_room : ¬ roomN (fmJ 2 6 64 kwT) < (3 : Nat) := by rw [fmJ_room (by omega)]; decide
theorem kw_holds : HoldsK (secB kwA.st) 2 6 64 (hdI (kwT + 1)).nx.up [[97, 98, 99]] := fm_app (st := dk0 10 64) (l := [97, 98, 99]) rfl rfl rfl rfl (by omega) (by omega) (by omega) (by decide) (by omega) (by omega) kwT_bd.1 kwT_bd.2.1 kwT_bd.2.2 kw_room
theorem kw_whole : kwA.e = 0 ∧ kwA.st.off = false ∧ kwA.st.pend = [] ∧ kwA.st.size = 64 ∧ kwA.st.reads = 2 ∧ kwA.st.kept.length = 10 := by
  obtain ⟨e1, _, e3, e4, e5, e6, _, _, e9⟩ := ap_whole (st := fmS (dk0 10 64) 2 64 kwT) (J := fmJ 2 6 64 kwT) (l := [97, 98, 99]) rfl rfl (.inl rfl) kw_room
  refine ⟨e1, e3, e4, e5, e6, ?_⟩
  show (apS _ _ _).st.kept.length = 10
  rw [e9, List.length_set, setAll_len]
  show (settleK _ _ _ _).length = 10
  rw [settleK_len]
  show (List.replicate 10 _).length = 10
  rw [List.length_replicate]
theorem kw_open : opR (secB kwS) 2 6 64 = some ((hdI (kwT + 1)).nx.up, [[97, 98, 99]]) := by
  have h : secB kwS = secB kwA.st := funext fun s => secB_cut kw_whole.2.2.1 s
  rw [h]
  exact opR_holds kw_holds (by omega) (by omega) (by omega)
end Go.Proofs.Ytlhpdkapddnbcaa

namespace Go.Proofs.Ytlhpdkapddnbcaa
open Go.RowKit
section
variable {P : Program}
theorem run_mark {w : World} {t e : TypeId} {C : Array Value} {q n c : Nat} (ht : P.underlying t = some (.slice e)) (he : P.underlying e = some (.int .u8)) (row : w.heap[q]? = some (.cells C e (0, 0))) :
    ∃ w', (convert t t (.slice (some ⟨q, 0, none⟩) n c)).run P w = .ok (.slice (some ⟨q, 0, none⟩) n c) w' ∧ w'.heap[q]? = some (.cells C e (C.size, C.size + 1)) ∧ w.grownBy w' (some q) := by
  have hsh : w.shape? q = some (e, C.size) := by unfold World.shape?; rw [row]
  have hq : q < w.heap.size := (Array.getElem?_eq_some_iff.1 row).1
  have hz : w.heap[q] = .cells C e (0, 0) := (Array.getElem?_eq_some_iff.1 row).2
  refine ⟨w.freeze ⟨q, C.size, none⟩ 1, ?_, ?_, ?_⟩
  · simp [convert, run_underlying ht, run_underlying he, markStringish, hsh]
  · unfold World.freeze
    rw [if_neg (by decide)]
    show (w.heap.modify q _)[q]? = _
    rw [Array.getElem?_modify, if_pos rfl, row]
    rfl
  · unfold World.freeze
    rw [if_neg (by decide)]
    exact ⟨rfl, rfl, rfl, by simp, fun k _ hk => by
      show (w.heap.modify q _)[k]? = _
      rw [Array.getElem?_modify, if_neg (fun e => hk (by rw [e]))]⟩
theorem rd_row {w : World} {q : Nat} {l : List Int} {e : TypeId} {fr : Nat × Nat} (row : w.heap[q]? = some (.cells (l.map (Value.int .u8)).toArray e fr)) (hl : l.length ≤ 1000) (hw : ∀ x ∈ l, (Lit.int .u8 x).wf = true) : RdAt .u8 w (some ⟨q, 0, none⟩) l.length l.length l :=
  ⟨rfl, Nat.le_refl _, by unfold maxLen; omega, fun i hi => ⟨_, _, rfl, by rw [cell_of_row w _ _ _ _ _ row, Nat.zero_add, List.getElem?_toArray, List.getElem?_map, List.getElem?_eq_getElem hi, nth_eq hi]; rfl⟩, hw, fun h => by cases h⟩
end
section
variable {P : Program} {ds : List Deferred} {t : Array Value} {K : Act → World → Prop} {Q : Exit → Act → World → Prop} {o : Oper}
theorem wp_mark {T e : TypeId} (d : Tmp) (hd : o.dst = some d) (hs : P.underlying T = some (.slice e)) (he : P.underlying e = some (.int .u8)) (x : Operand) (ho : o.op = .convert T T x)
    {w : World} {C : Array Value} {q n c : Nat} (hx : (Act.mk t ds).eval x = .slice (some ⟨q, 0, none⟩) n c) (row : w.heap[q]? = some (.cells C e (0, 0)))
    (h : ∀ w', w'.heap[q]? = some (.cells C e (C.size, C.size + 1)) → w.grownBy w' (some q) → K ⟨t.setIfInBounds d (.slice (some ⟨q, 0, none⟩) n c), ds⟩ w') : Oper.wp P o ⟨t, ds⟩ w K Q := by
  obtain ⟨w', hr, h1, h2⟩ := run_mark (P := P) (n := n) (c := c) hs he row
  refine wp_of_run d hd ?_ (h w' h1 h2)
  unfold execOp
  simp only [ho, hx]
  simp [hr, Result.andThen]
end
section
variable {P : Program} {k : IntKind} {T e bytes : Nat} {ops : Array Oper} {rest : List Oper} {o : Oper} {a : Act} {Q : Exit → Act → World → Prop}
/-- append(s, x) where s is full: the result is a row of the call's own. -/
theorem run_app_full (hT : P.underlying T = some (.slice e)) (hI : elemInfo P e k bytes) (hby : bytes ≤ 8) (ty : TypeId) (w : World) (a0 : Option Addr) (n : Nat) (l : List Int) (hrd : RdAt k w a0 n n l)
    (q : Int) (hq : (Lit.int k q).wf = true) (hlen : l.length ≤ 1000000) :
    ∃ v' w', (Builtin.append_ #[T, T] ty #[.slice a0 n n, .slice (some ⟨w.heap.size, 0, none⟩) 1 1]).run P (w.alloc (.cells #[.int k q] e)) = .ok v' w' ∧ Owns k e w' w.heap.size v' (l ++ [q]) ∧ Below w.heap.size w w' := by
  have hl := hrd.len
  obtain ⟨i, hi, hz0, hz1, hz2⟩ := info_parts hI
  have hwf : ∀ z ∈ l ++ [q], (Lit.int k z).wf = true := by
    intro z hz'
    rcases List.mem_append.1 hz' with h | h
    · exact hrd.wf z h
    · rw [List.mem_singleton.1 h]; exact hq
  cases a0 with
  | none =>
    obtain rfl : n = 0 := hrd.void rfl
    obtain rfl : l = [] := List.eq_nil_of_length_eq_zero hl
    obtain ⟨v', w', hr, h1, h2⟩ := run_app_one (P := P) hT hI hby ty w w.heap.size (.slice none 0 0) [] (Owns.nil _ _ _ _) q hq (by simp) (Nat.le_refl _)
    exact ⟨v', w', hr, h1, h2.fromNone⟩
  | some ad =>
    have hnew : ∀ j u, ([Value.int k q] : List Value)[j]? = some u → (w.alloc (.cells #[.int k q] e)).cell? ((⟨w.heap.size, 0, none⟩ : Addr).add j) = some u := by
      intro j u hu
      cases j with
      | zero => simp at hu; subst hu; rw [Addr.add_lit]; simp
      | succ j => simp at hu
    have hold : ∀ j u, (l.map (Value.int k))[j]? = some u → (w.alloc (.cells #[.int k q] e)).cell? (ad.add j) = some u := by
      intro j u hu
      have hj : j < n := by have := (List.getElem?_eq_some_iff.1 hu).1; simpa [hl] using this
      obtain ⟨b, o', e', hc⟩ := (hrd.alloc (.cells #[.int k q] e)).cell j hj
      injection e' with e'
      subst e'
      rw [Addr.add_lit]
      rw [List.getElem?_map, List.getElem?_eq_getElem (by omega)] at hu
      rw [nth_eq (by omega)] at hc
      exact hc.trans hu
    have hbb : (n + 1) * bytes ≤ (n + 1) * 8 := Nat.mul_le_mul_left _ hby
    have hr := run_append_grow (P := P) (w.alloc (.cells #[.int k q] e)) T ty e i (.int k 0) hT hi hz0 ad n n (l.map (Value.int k)) (by rw [List.length_map, hz1, hl, Nat.mul_one]) hold ⟨w.heap.size, 0, none⟩ 1 1 [.int k q] (by rw [hz1]; rfl) hnew (by omega) (by omega) (growslice_fits (by omega) (by rw [hz2]; omega))
    have hge := grownCap_ge (w.alloc (.cells #[.int k q] e)) (n + 1) n e
    have hcm : grownCap (w.alloc (.cells #[.int k q] e)) (n + 1) n e ≤ maxLen := grownCap_le_maxLen _ (n + 1) n e (by unfold maxLen; omega)
    refine ⟨_, _, hr, ⟨hwf, .inr ⟨by simp, .inr ⟨_, _, _, by rw [List.length_append, hl]; rfl, by simp, heap_alloc_new (w.alloc (.cells #[.int k q] e)).drew _, by rw [List.length_append, hl]; exact hge, hcm, ?_, ?_⟩⟩⟩, ?_⟩
    · rw [Array.size_append, Array.size_append, size_zeroCells, List.size_toArray, List.length_map, hl]
      simp [Value.cells]
      omega
    · rw [Array.toList_append, Array.toList_append, List.map_append, Nat.mul_one]
      exact List.take_left' (by simp)
    · have h1 : Below w.heap.size w (w.alloc (.cells #[.int k q] e)).drew := ⟨rfl, rfl, rfl, by simp, fun j hj => Below.heap_alloc w _ j hj⟩
      exact h1.alloc h1.size _
theorem app_one_full (hT : P.underlying T = some (.slice e)) (hI : elemInfo P e k bytes) (hby : bytes ≤ 8) (hg : o.guard = none) (s x : Operand)
    (ho : o.op = .call { callee := .builtin .append, args := #[s, x], argTypes := #[T, T] }) (w : World) (a0 : Option Addr) (n : Nat) (l : List Int) (hs : a.eval s = .slice a0 n n) (hrd : RdAt k w a0 n n l)
    (q : Int) (hx : a.eval x = .slice (some ⟨w.heap.size, 0, none⟩) 1 1) (hq : (Lit.int k q).wf = true) (hlen : l.length ≤ 1000000)
    (h : ∀ v' w', Owns k e w' w.heap.size v' (l ++ [q]) → Below w.heap.size w w' → wpList P ops Q rest (a.put o.dst v') w') :
    wpList P ops Q (o :: rest) a (w.alloc (.cells #[.int k q] e)) := by
  refine wpList_plain hg fun K hK => ?_
  obtain ⟨v', w', hr, h1, h2⟩ := run_app_full (P := P) hT hI hby o.type w a0 n l hrd q hq hlen
  unfold Oper.wp execOp
  simp only [ho, resolve, invoke, builtin, Sem.run_bind, Sem.run_pure, Result.andThen_ok, List.map_toArray, List.map_cons, List.map_nil, hs, hx, hr]
  exact hK _ _ (h v' w' h1 h2)
end
end Go.Proofs.Ytlhpdkapddnbcaa

namespace Go.Proofs.Ytlhpdkapddnbcaa
open Go.RowKit
set_option linter.unusedSimpArgs false in
set_option linter.unusedVariables false in
set_option maxRecDepth 100000 in
set_option maxHeartbeats 4000000 in
theorem known8 (w0 : World) : Calls Try.prog 9 #[] w0 fun e w' => e = .returned (.bool true) ∧ Below w0.heap.size w0 w' := by
  have HNW := Lib.hid (new_any 10 64 w0 (by decide))
  have HFM : Hid (∀ (Z : Nat → Prop) (d : Nat) (w : World), DkIn w Z d (dk0 10 64) → Calls Try.prog 14 #[.pointer (some ⟨d, 0, none⟩), .int .i64 2, .int .i64 6] w fun e w' => ∃ r, e = .returned (.tuple #[.pointer (some ⟨r, 0, none⟩), .nilIface]) ∧ ∃ Q', RiIn w' Q' r d (fmS (dk0 10 64) 2 64 kwT) (fmJ 2 6 64 kwT) ∧ Tnd Z Q' w w') := fun Z d w h => format_any Z d (dk0 10 64) 2 6 w h (by omega) (by show 2 + 6 ≤ (List.replicate 10 _).length; rw [List.length_replicate]; omega) rfl rfl rfl (by show (0 : Int) + 2 ≤ _; omega) (by show (0 : Int) + 2 ≤ _; omega)
  have HAP : Hid (∀ (Q : Nat → Prop) (r d b : Nat) (w : World), RiIn w Q r d (fmS (dk0 10 64) 2 64 kwT) (fmJ 2 6 64 kwT) → RdAt .u8 w (some ⟨b, 0, none⟩) 3 3 [97, 98, 99] → ¬ Q b → Calls Try.prog 12 #[.pointer (some ⟨r, 0, none⟩), .slice (some ⟨b, 0, none⟩) 3 3] w fun e w' => e = .returned (.tuple #[.int .u64 1, .int .i64 0]) ∧ ∃ Q', RiIn w' Q' r d kwA.st kwA.J ∧ Tnd Q Q' w w') := fun Q r d b w h1 h2 h3 => by
    refine (append_on Q r d _ _ _ 3 3 [97, 98, 99] w h1 h2 (fun x hx _ => by injection hx with hx; rw [← hx]; exact h3) kw_room rfl rfl (by show (1 : Int) < _; decide) (by have := kwT_bd.2.1; show kwT + 1 < _; omega) (by show (0 : Int) + 1 + 1 + 70000 ≤ _; decide)).mono ?_
    rintro e w' ⟨he, h⟩
    refine ⟨?_, h⟩
    rw [he]
    show ApE (fmJ 2 6 64 kwT).h.next kwA = _
    unfold ApE
    rw [kw_whole.1]
    rfl
  go_enter Try.func9, Try.ntmps9
  go_wp2_with fail
  refine HNW.out.mono ?_
  rintro e w1 ⟨d, Z, rfl, hd1, hz1, hb1⟩
  have D1 := Lib.hid hd1
  have Z1 := Lib.hid hz1
  have B1 := Lib.hid hb1
  clear hd1 hz1 hb1
  go_wp2_with fail
  refine (HFM.out Z d w1 D1.out).mono ?_
  rintro e w2 ⟨r, rfl, Q, hr2, ht2⟩
  have R2 := Lib.hid hr2
  have B2 := Lib.hid (B1.out.trans (ht2.below Z1.out B1.out.size))
  have Q2 := Lib.hid (ht2.base Z1.out B1.out.size)
  clear hr2 ht2
  have hrow := heap_alloc_new w2 (.cells #[.int .u8 97, .int .u8 98, .int .u8 99] 5)
  have hba : Below w2.heap.size w2 (w2.alloc (.cells #[.int .u8 97, .int .u8 98, .int .u8 99] 5)) := (Below.refl _ _).alloc (Nat.le_refl _) _
  obtain ⟨w3, hmk, hr9, hg9⟩ := run_mark (P := Try.prog) (t := 36) (n := 3) (c := 3) u8TR Try.underlying5 hrow
  have hbt := hba.trans (show Below w2.heap.size (w2.alloc (.cells #[.int .u8 97, .int .u8 98, .int .u8 99] 5)) w3 from (Below.refl _ _).grown hg9 hba.size (fun g h => by injection h with h; omega))
  have R3 := Lib.hid (R2.out.below hbt)
  have B3 := Lib.hid (B2.out.trans (hbt.mono B2.out.size))
  have HR9 := Lib.hid hr9
  have hq2 : ¬ Q w2.heap.size := fun h => Nat.lt_irrefl _ (R2.out.lt _ h)
  clear hr9 hg9 hrow hba hbt
  go_wp2_with fail
  refine (HAP.out Q r d w2.heap.size w3 R3.out (rd_row (l := [97, 98, 99]) HR9.out (by decide) (by decide)) hq2).mono ?_
  rintro e w4 ⟨rfl, Q4, hr4, ht4⟩
  have B4 := Lib.hid (B3.out.trans (ht4.below Q2.out B3.out.size))
  have Q4_ := Lib.hid (ht4.base Q2.out B3.out.size)
  obtain ⟨⟨Z4, sv4, hd4, _, _, hz4, _⟩, _⟩ := hr4
  have D4 := Lib.hid hd4
  have Z4_ : Hid (∀ k, Z4 k → w0.heap.size ≤ k) := fun k hk => Q4_.out k (hz4 k hk)
  clear hd4 hz4 ht4 hmk
  go_wp2_with fail
  refine (cut_any Z4 d kwA.st w4 D4.out none 0 0 [] ⟨rfl, Nat.le_refl _, by unfold maxLen; omega, fun i hi => by omega, fun _ => rfl⟩ (fun x hx => by cases hx)).mono ?_
  rintro e w5 ⟨rfl, hd5, ht5⟩
  have D5 := Lib.hid hd5
  have B5 := Lib.hid (B4.out.trans (ht5.below Z4_.out B4.out.size))
  clear hd5 ht5
  go_wp2_with fail
  refine (on_any Z4 d _ w5 D5.out).mono ?_
  rintro e w6 ⟨rfl, hd6, ht6⟩
  have D6 : Hid (DkIn w6 Z4 d kwS) := hd6
  have B6 := Lib.hid (B5.out.trans (ht6.below Z4_.out B5.out.size))
  clear hd6 ht6
  have HOP := Lib.hid (ropen_any Z4 d kwS 2 6 w6 D6.out (by omega) (by show 2 + 6 ≤ (settleK _ _ _ _).length; rw [settleK_len, kw_whole.2.2.2.2.2]; omega) rfl (by show kwA.st.reads + _ ≤ _; rw [kw_whole.2.2.2.2.1]; decide))
  go_wp2_with fail
  refine HOP.out.mono ?_
  rintro e w7 ⟨R7, hR7a, hR7b, hpost⟩
  rw [show kwS.size = 64 from kw_whole.2.2.2.1, kw_open] at hpost
  obtain ⟨r7, Q7, v7, vs7, rfl, hr7, hW7, ht7⟩ := hpost
  have B7 := Lib.hid (B6.out.trans (ht7.below Z4_.out B6.out.size))
  have Q7_ := Lib.hid (ht7.base Z4_.out B6.out.size)
  obtain ⟨⟨Z8, sv8, hd8, _⟩, _⟩ := hr7
  have W7 := Lib.hid hW7
  have HNO := Lib.hid (ropen_no Z8 d (kwS.rd R7) 8 6 w7 hd8 (by omega) (by show 6 ≤ (settleK _ _ _ _).length; rw [settleK_len, kw_whole.2.2.2.2.2]; omega) (by show (settleK _ _ _ _).length < 8 + 6; rw [settleK_len, kw_whole.2.2.2.2.2]; omega) (by omega))
  clear hW7 ht7 hd8
  go_wp2_with fail
  refine HNO.out.mono ?_
  rintro e w8 ⟨⟨v8, rfl, hf8⟩, hb8⟩
  have W8 := Lib.hid (W7.out.below hb8)
  have B8 := Lib.hid (B7.out.trans (hb8.mono B7.out.size))
  obtain ⟨g8, rfl, hc8⟩ := hf8
  obtain ⟨a7, c7, rfl⟩ := W8.out.shape
  have hvl : vs7.length = 1 := W8.out.len
  obtain ⟨a9, n9, c9, hv9, hr9, _⟩ := W8.out.each 0 [97, 98, 99] rfl
  have hn9 : n9 = 3 := hr9.len.symm
  subst hn9
  obtain ⟨g9, rfl, hcell⟩ : ∃ g, a7 = some ⟨g, 0, none⟩ ∧ w8.cell? ⟨g, 0, none⟩ = some (.slice a9 3 c9) := by
    have ho := W8.out.own
    rcases ho.2 with ⟨_, h⟩ | ⟨g, cap, cur, hv, _⟩
    · omega
    · injection hv with q1 q2 q3
      subst q1 q3
      exact ⟨g, rfl, by rw [ho.cellAt 0 (by omega)]; exact hv9⟩
  have hcv := conv_rd (P := Try.prog) (src := 36) (dst := 9) u8TR Try.underlying5 Try.underlying9 hr9
  rw [show strOfNums [97, 98, 99] = ⟨#[97, 98, 99]⟩ from by decide +kernel] at hcv
  have HIS := Lib.hid (is_fail g8 1 w8 hc8)
  clear hb8
  go_wp2_with (first | (go_at_call 23; refine HIS.out.mono ?_; rintro e w9 ⟨rfl, rfl⟩))
  go_ret
  exact ⟨rfl, B8.out⟩
end Go.Proofs.Ytlhpdkapddnbcaa
