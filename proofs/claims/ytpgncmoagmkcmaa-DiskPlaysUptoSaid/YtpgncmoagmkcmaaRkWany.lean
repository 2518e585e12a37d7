/- disk: the reference's Write, whatever; its Burst. -/
import Derived.Test.YtpgncmoagmkcmaaRkWrite
import Derived.Test.YtpgncmoagmkcmaaRBurst
namespace Go.Proofs.Ytpgncmoagmkcmaa
open Go.RowKit
set_option linter.unusedSimpArgs false in
set_option linter.unusedVariables false in
set_option maxRecDepth 100000 in
set_option maxHeartbeats 4000000 in
theorem rwrite_cut (Z : Nat → Prop) (r : Nat) (st : Dk) (s : Int) (a : Option Addr) (n c : Nat) (l : List Int) (w : World) (h : RkIn w Z r st) (hr : RdAt .u8 w a n c l) (ho : st.off = false) (hf : fitW st s l = true) (ha1 : st.armed = 1) :
    Calls Try.prog 27 #[.pointer (some ⟨r, 0, none⟩), .int .i64 s, .slice a n c] w fun e w' => e = .returned (.int .i64 8) ∧ RkIn w' Z r (cutS st st.keep) ∧ Tnd Z Z w w' := by
  obtain ⟨hz, bb, lv, kv, pvs, p⟩ := h
  obtain ⟨c0, c1, c2, c3, c4, c5, c6, c7, c8, cf⟩ := cellsD p.row
  have hfit : 0 ≤ s ∧ s < st.kept.length ∧ l.length = st.size := by
    unfold fitW at hf
    simp only [Bool.and_eq_true, decide_eq_true_eq] at hf
    exact ⟨hf.1.1, hf.1.2, hf.2⟩
  have hns : n = st.size := by rw [← hr.len]; exact hfit.2.2
  have P := Lib.hid p
  have d1 : decide (s < 0) = false := decide_eq_false (by omega)
  have d2 : decide ((st.kept.length : Int) ≤ s) = false := decide_eq_false (by omega)
  rw [ho] at c4
  rw [ha1] at c5
  obtain ⟨ka, kn, kc, hkv, hkr, hkq⟩ := p.keep
  subst hkv
  have HKR := Lib.hid hkr
  have HKQ : Hid (∀ q, ka = some q → 0 < kn → q.block ≠ bb) := fun q h1 h2 e => (hkq q h1 h2).1 (.inr (.inl e))
  subst hns
  clear hr hf p hfit hkr hkq ho ha1
  go_enter Try.func27, Try.ntmps27
  go_wp2_with fail
  refine (rcutP Z r bb lv _ pvs st w P.out hz ka kn kc st.keep HKR.out HKQ.out).mono ?_
  rintro e w3 ⟨rfl, hd3, ht3⟩
  have HD3 := Lib.hid hd3
  have HT3 := Lib.hid ht3
  clear hd3 ht3 c0 c1 c2 c3 c4 c5 c6 c7 c8 cf
  go_wp2_with fail
  go_ret
  exact ⟨rfl, HD3.out, HT3.out⟩
set_option linter.unusedSimpArgs false in
set_option linter.unusedVariables false in
set_option maxRecDepth 100000 in
set_option maxHeartbeats 4000000 in
theorem rwrite_any (Z : Nat → Prop) (r : Nat) (st : Dk) (s : Int) (a : Option Addr) (n c : Nat) (l : List Int) (w : World) (h : RkIn w Z r st) (hr : RdAt .u8 w a n c l) (hnz : ∀ x, a = some x → ¬ Z x.block) (hs1 : -9223372036854775808 ≤ s) (hs2 : s ≤ 9223372036854775807) (hfew : st.pend.length + 1 ≤ 1000000) (hwr : st.writes + 1 ≤ 4611686018427387904) :
    Calls Try.prog 27 #[.pointer (some ⟨r, 0, none⟩), .int .i64 s, .slice a n c] w fun e w' => e = .returned (.int .i64 (wrE st s l)) ∧ ∃ Z', RkIn w' Z' r (wrS st s l) ∧ Tnd Z Z' w w' := by
  have H := Lib.hid h
  have hlen := hr.len
  obtain ⟨hz, bb, lv, kv, pvs, p⟩ := h
  obtain ⟨c0, c1, c2, c3, c4, c5, c6, c7, c8, cf⟩ := cellsD p.row
  cases ho : st.off with
  | true =>
    have e1 : wrE st s l = 8 := by unfold wrE; rw [ho]; rfl
    have e2 : wrS st s l = st := by unfold wrS; rw [ho]; rfl
    rw [e1, e2]
    rw [ho] at c4
    clear ho e1 e2 hr p hlen
    go_enter Try.func27, Try.ntmps27
    go_wp2_with fail
    go_ret
    exact ⟨rfl, Z, H.out, Tnd.refl _ _⟩
  | false =>
  cases hf : fitW st s l with
  | false =>
    have e1 : wrE st s l = 1 := by unfold wrE; rw [ho, hf]; rfl
    have e2 : wrS st s l = st := by unfold wrS; rw [ho, hf]; rfl
    rw [e1, e2]
    rw [ho] at c4
    have hc : s < 0 ∨ (st.kept.length : Int) ≤ s ∨ n ≠ st.size := by
      unfold fitW at hf
      simp only [Bool.and_eq_false_iff, decide_eq_false_iff_not] at hf
      omega
    by_cases h0 : s < 0
    · have d0 : decide (s < 0) = true := decide_eq_true h0
      clear ho e1 e2 hr p hf hc hlen
      go_enter Try.func27, Try.ntmps27
      go_wp2_with fail
      go_ret
      exact ⟨rfl, Z, H.out, Tnd.refl _ _⟩
    have d0 : decide (s < 0) = false := decide_eq_false h0
    by_cases h1 : (st.kept.length : Int) ≤ s
    · have d1 : decide ((st.kept.length : Int) ≤ s) = true := decide_eq_true h1
      clear ho e1 e2 hr p hf hc hlen
      go_enter Try.func27, Try.ntmps27
      go_wp2_with fail
      go_ret
      exact ⟨rfl, Z, H.out, Tnd.refl _ _⟩
    · have d1 : decide ((st.kept.length : Int) ≤ s) = false := decide_eq_false h1
      have hne : n ≠ st.size := by omega
      have d2 : decide ((n : Int) = st.size) = false := decide_eq_false (by omega)
      have d3 : decide (n = st.size) = false := decide_eq_false hne
      have d4 : (n == st.size) = false := by simpa using hne
      have d5 : ((n : Int) != (st.size : Int)) = true := by
        have : ¬ (n : Int) = st.size := by omega
        simpa using this
      clear ho e1 e2 hr p hf hc hlen
      go_enter Try.func27, Try.ntmps27
      go_wp2_with fail
      go_ret
      exact ⟨rfl, Z, H.out, Tnd.refl _ _⟩
  | true =>
  by_cases ha : st.armed = 1
  · have e1 : wrE st s l = 8 := by unfold wrE; rw [ho, hf, ha]; rfl
    have e2 : wrS st s l = cutS st st.keep := by unfold wrS; rw [ho, hf, ha]; rfl
    rw [e1, e2]
    exact (rwrite_cut Z r st s a n c l w H.out hr ho hf ha).mono fun e w' ⟨x, y, z⟩ => ⟨x, Z, y, z⟩
  · have e1 : wrE st s l = 0 := by unfold wrE; rw [ho, hf]; simp [ha]
    have e2 : wrS st s l = putS st s l := by unfold wrS; rw [ho, hf]; simp [ha]
    rw [e1, e2]
    exact rwrite_put Z r st s a n c l w H.out hr hnz hs1 hs2 hfew hwr ho hf ha
theorem slice_block {g g' n n' c c' : Nat} (h : Value.slice (some ⟨g, 0, none⟩) n c = .slice (some ⟨g', 0, none⟩) n' c') : g = g' := by
  injection h with h
  injection h with h
  injection h
/-- A pending write's bytes laid anew. -/
theorem RkP.layp {w w5 : World} {Z : Nat → Prop} {r bb : Nat} {pv kv : Value} {pvs : List Value} {st : Dk} (p : RkP w Z r bb pv kv pvs st) (hz : ∀ k, Z k → k < w.heap.size) (k : Nat) (s : Int) (l0 l : List Int) (hk : st.pend[k]? = some (s, l0)) (hl : l.length = st.size) (v : Value) (hv : Owns .u8 5 w5 w.heap.size v l)
    (g : Nat) (hg : pv.ownBlock = some g) (hsp : w.grownBy w5 (some g)) (hpr : w5.ownsRow 0 85 2 pv st.pend.length ((pendC st.pend pvs).set (k * 2 + 1) v)) : RkP w5 (fun x => Z x ∨ (w.heap.size ≤ x ∧ x < w5.heap.size)) r bb pv kv (pvs.set k v) { st with pend := st.pend.set k (s, l) } := by
  have hmut : ∀ x, Z x → ¬ MutR r bb pv x → w5.heap[x]? = w.heap[x]? := fun x hx hm => hsp.block x (hz x hx) (fun e => hm (.inr (.inr (by rw [hg, Option.some.inj e]))))
  have hZm := p.z
  have hrm := p.rm g hg
  have hl0 : 0 < l.length := by have := p.ok.size; omega
  obtain ⟨y, c, hvs, _, hrd, hB, hlt⟩ := Owns.slc hv hl0
  have hoth : ∀ x, Z x → x ≠ g → w5.heap[x]? = w.heap[x]? := fun x hx hne => hsp.block x (hz x hx) (fun e => hne (Option.some.inj e))
  refine ⟨?_, ?_, p.bwf, ?_, ?_, ?_, p.ne, p.rm, fun b hb => .inl (hZm b hb), ⟨p.ok.size, p.ok.n, p.ok.kept, fun q hq => ?_, p.ok.armed, ?_, p.ok.writes, p.ok.reads⟩⟩
  · rw [hoth r (hZm r (.inl rfl)) hrm.1.symm]; exact p.row
  · rw [hoth bb (hZm bb (.inr (.inl rfl))) hrm.2.symm]; exact p.brow
  · show w5.ownsRow 0 85 2 pv (st.pend.set k (s, l)).length (pendC (st.pend.set k (s, l)) (pvs.set k v))
    rw [List.length_set, pendC_set hk p.pvals.1, show 2 * k + 1 = k * 2 + 1 by omega]
    exact hpr
  · refine All2.set (p.pvals.imp fun v l h => h.at hmut (fun _ _ h => h) (fun _ h => .inl h)) k ⟨y, 0, l.length, c, hvs, hrd, hl0, fun hm => ?_, .inr ⟨hB, hlt⟩⟩
    have := hz y (hZm y hm)
    omega
  · exact p.keep.at hmut (fun _ _ h => h) (fun _ h => .inl h)
  · rcases List.mem_or_eq_of_mem_set (show q ∈ st.pend.set k (s, l) from hq) with h | h
    · exact p.ok.pend q h
    · have := p.ok.pend _ (List.mem_of_getElem? hk)
      rw [h]; exact ⟨hl, this.2⟩
  · show (st.pend.set k (s, l)).length ≤ 1000000
    rw [List.length_set]; exact p.ok.few
set_option linter.unusedSimpArgs false in
set_option linter.unusedVariables false in
set_option maxRecDepth 100000 in
set_option maxHeartbeats 4000000 in
theorem rburst_no (Z : Nat → Prop) (r : Nat) (st : Dk) (s bit : Int) (p : BitVec 32) (w : World) (h : RkIn w Z r st) (hb : burB st s bit = false) :
    Calls Try.prog 32 #[.pointer (some ⟨r, 0, none⟩), .int .i64 s, .int .i64 bit, .int .u32 (rnum p)] w fun e w' => e = .returned (.bool false) ∧ w = w' := by
  obtain ⟨hz, bb, lv, kv, pvs, P⟩ := h
  obtain ⟨c0, c1, c2, c3, c4, c5, c6, c7, c8, cf⟩ := cellsD P.row
  have hc : s < 0 ∨ (st.kept.length : Int) ≤ s ∨ bit < 0 := by
    unfold burB inS at hb
    simp only [Bool.and_eq_false_iff, decide_eq_false_iff_not] at hb
    omega
  by_cases h0 : s < 0
  · have d0 : decide (s < 0) = true := decide_eq_true h0
    clear hc hb P
    go_enter Try.func32, Try.ntmps32
    go_wp2_with fail
    go_ret
    exact ⟨rfl, rfl⟩
  have d0 : decide (s < 0) = false := decide_eq_false h0
  by_cases h1 : (st.kept.length : Int) ≤ s
  · have d1 : decide ((st.kept.length : Int) ≤ s) = true := decide_eq_true h1
    clear hc hb P
    go_enter Try.func32, Try.ntmps32
    go_wp2_with fail
    go_ret
    exact ⟨rfl, rfl⟩
  have d1 : decide ((st.kept.length : Int) ≤ s) = false := decide_eq_false h1
  have d2 : decide (bit < 0) = true := decide_eq_true (by omega)
  clear hc hb P
  go_enter Try.func32, Try.ntmps32
  go_wp2_with fail
  go_ret
  exact ⟨rfl, rfl⟩
set_option linter.unusedSimpArgs false in
set_option linter.unusedVariables false in
set_option maxRecDepth 100000 in
set_option maxHeartbeats 8000000 in
theorem rburst_yes (Z : Nat → Prop) (r : Nat) (st : Dk) (s : Nat) (bit : Int) (p : BitVec 32) (w : World) (h : RkIn w Z r st) (hsl : s < st.kept.length) (hb0 : 0 ≤ bit) (hb1 : bit ≤ 9223372036854775807) :
    Calls Try.prog 32 #[.pointer (some ⟨r, 0, none⟩), .int .i64 (s : Int), .int .i64 bit, .int .u32 (rnum p)] w fun e w' => e = .returned (.bool true) ∧ ∃ Z', RkIn w' Z' r (burS st s bit p) ∧ Tnd Z Z' w w' := by
  have hi : inS st s = true := by unfold inS; simp; omega
  obtain ⟨lk, hlk0⟩ : ∃ lk, st.kept[s]? = some lk := ⟨_, List.getElem?_eq_getElem hsl⟩
  have HE : Hid (burS st s bit p = { st with kept := st.kept.set s (burstV lk bit p), pend := st.pend.map (burF s bit p) }) := by
    show _ = _
    unfold burS burB
    rw [hi, decide_eq_true hb0, Int.toNat_natCast, hlk0]
    rfl
  have d0 : decide (bit < 0) = false := decide_eq_false (by omega)
  have d1 : decide ((s : Int) < 0) = false := decide_eq_false (by omega)
  have d2 : decide ((st.kept.length : Int) ≤ s) = false := decide_eq_false (by omega)
  have d3 : decide (st.kept.length ≤ s) = false := decide_eq_false (by omega)
  obtain ⟨hz, bb, lv, kv, pvs, P⟩ := h
  have hkl : lk.length = st.size := P.ok.kept _ (List.mem_of_getElem? hlk0)
  have hch := chunk_flatZ _ st.size P.ok.kept s lk hlk0
  have hsz := P.ok.size
  have hnk := P.ok.n
  obtain ⟨z, hzz⟩ : ∃ z, st.size = z := ⟨_, rfl⟩
  obtain ⟨N, hN⟩ : ∃ N, st.kept.length = N := ⟨_, rfl⟩
  obtain ⟨F, hF⟩ : ∃ F, st.kept.flatten.length = F := ⟨_, rfl⟩
  obtain ⟨lo, hlo⟩ : ∃ lo, s * z = lo := ⟨_, rfl⟩
  obtain ⟨hi, hhi⟩ : ∃ hi, lo + z = hi := ⟨_, rfl⟩
  have hFN : F = N * z := by rw [← hF, ← hN, ← hzz]; exact flat_len _ _ P.ok.kept
  have hin : hi ≤ F := by
    rw [hFN, ← hhi, ← hlo, ← Nat.succ_mul]
    exact Nat.mul_le_mul_right _ (by omega)
  have hFb : F ≤ 268435456 := by
    rw [hFN]
    exact Nat.le_trans (Nat.mul_le_mul (show N ≤ 65536 by omega) (show z ≤ 4096 by omega)) (by omega)
  have hrb : RdAt .u8 w (some ⟨bb, 0, none⟩) F F st.kept.flatten := ⟨hF, Nat.le_refl _, by unfold maxLen; omega, fun i hi => ⟨bb, 0, rfl, by rw [Nat.zero_add, cell_of_row w _ _ _ _ _ P.brow]; show ((st.kept.flatten.map (Value.int .u8)).toArray)[i]? = some (.int .u8 (nth st.kept.flatten i)); rw [List.getElem?_toArray, List.getElem?_map, List.getElem?_eq_getElem (show i < st.kept.flatten.length by omega), nth_eq (show i < st.kept.flatten.length by omega)]; rfl⟩, P.bwf, fun h => by cases h⟩
  have hrd3 : RdAt .u8 w.drew (some ⟨bb, lo, none⟩) z (F - lo) lk := by
    have h5 := rd_chunk hrb lo z (by omega)
    rw [Nat.zero_add] at h5
    rw [hzz] at hch
    unfold chunk at hch
    rw [hlo] at hch
    rw [hch] at h5
    exact h5.at0 rfl
  have hrow3 : w.drew.heap[r]? = some (.cells #[.int .i64 N, .int .i64 z, .slice (some ⟨bb, 0, none⟩) F F, lv, .bool st.off, .int .i64 st.armed, kv, .int .i64 st.writes, .int .i64 st.reads] 61 (0, 0)) := by
    have := P.row
    rw [hN, hzz, hF] at this
    exact this
  rw [hN] at d2 d3 hnk hsl
  rw [hzz] at hsz
  have HKL : Hid (lk.length = z) := by show _ = _; rw [hkl, hzz]
  have HBL : Hid (z ≤ 1000000000) := by show _ ≤ _; omega
  have HNN := Lib.hid hN
  have HZZ := Lib.hid hzz
  have g1 : (s : Int) * (z : Int) = (lo : Int) := by rw [← hlo, Int.natCast_mul]
  have g2 : IntKind.i64.wrap (lo : Int) = lo := by rw [IntKind.wrap_i64]; omega
  have g3 : IntKind.i64.wrap ((s : Int) + 1) = (s : Int) + 1 := by rw [IntKind.wrap_i64]; omega
  have g4 : ((s : Int) + 1) * (z : Int) = (hi : Int) := by rw [Int.add_mul, g1, ← hhi]; omega
  have g5 : IntKind.i64.wrap (hi : Int) = hi := by rw [IntKind.wrap_i64]; omega
  have g6 : hi - lo = z := by omega
  have g7 : ¬ F = lo := by omega
  have g8 : hi ≤ F := by omega
  have g9 : lo ≤ hi := by omega
  have g10 : ((hi : Int) ≤ F) := by omega
  have g11 : ((lo : Int) ≤ hi) := by omega
  obtain ⟨c0, c1, c2, c3, c4, c5, c6, c7, c8, cf⟩ := cellsD (w := w) hrow3
  have PP := Lib.hid P
  clear P hkl hch hzz hN hF hlo hhi hFN hin hrb hlk0
  go_enter Try.func32, Try.ntmps32
  go_wp2_with fail
  · skip
    refine' reg_free (G := Kept) (pickF [eqV _, eqV _, eqV _, eqV _, eqV _, eqV _, eqV _, eqV _, eqV _, eqV _, eqV _, eqV _, eqV _, eqV _, eqV _, eqV _, eqV _, eqV _, eqV _, eqV _, (PF7 w.heap.size (burstV lk bit p)), (PF7 w.heap.size (burstV lk bit p))]) [25, 26, 27, 28, 29, 30, 31, 32, 33, 34, 35, 36, 37, 38, 39, 40, 41, 42, 43, 44, 45, 9] [[], [0], [1], [2], [], [], [5], [6], [7], [4, 8], [], [10], [], [12], [13], [14], [11, 15], [3, 9, 16], [], [], [17, 18, 19], [20]] [0, 1, 2, 3, 4, 5, 6, 7, 8, 9, 10, 11, 12, 13, 14, 15, 16, 17, 18, 19, 20, 21] (by kernel_rfl) Kept.refl Kept.trans (pick_stays ⟨eqV_stays _, eqV_stays _, eqV_stays _, eqV_stays _, eqV_stays _, eqV_stays _, eqV_stays _, eqV_stays _, eqV_stays _, eqV_stays _, eqV_stays _, eqV_stays _, eqV_stays _, eqV_stays _, eqV_stays _, eqV_stays _, eqV_stays _, eqV_stays _, eqV_stays _, eqV_stays _, fun _ _ _ p b => PF7.below p b, fun _ _ _ p b => PF7.below p b, trivial⟩) 88 rfl (by kernel_rfl) (by kernel_rfl) rfl rfl ?r1obl ?r1fin
    case r1obl =>
      refine And.intro ?r1o0 (And.intro ?r1o1 (And.intro ?r1o2 (And.intro ?r1o3 (And.intro ?r1o4 (And.intro ?r1o5 (And.intro ?r1o6 (And.intro ?r1o7 (And.intro ?r1o8 (And.intro ?r1o9 (And.intro ?r1o10 (And.intro ?r1o11 (And.intro ?r1o12 (And.intro ?r1o13 (And.intro ?r1o14 (And.intro ?r1o15 (And.intro ?r1o16 (And.intro ?r1o17 (And.intro ?r1o18 (And.intro ?r1o19 (And.intro ?r1o20 (And.intro ?r1o21 (True.intro))))))))))))))))))))))
      case r1o0 =>
        intro w1 hG
        refine turn_on (by rfl) ?_
        intro K hK
        go_simp
        refine hK _ _ ⟨rfl, Kept.refl _, ?_⟩
        show _ = _
        simp only [List.getD_cons_zero, List.getD_cons_succ, Array.getD_eq_getD_getElem?, List.getElem?_toArray, List.getElem?_cons_zero, List.getElem?_cons_succ, Option.getD_some]
        rfl
      case r1o1 =>
        intro w1 hG
        intro v0 h0
        change _ = _ at h0
        subst h0
        refine turn_on (by rfl) ?_
        intro K hK
        simp only [List.getD_cons_zero, List.getD_cons_succ, List.setIfInBounds_toArray, List.set_cons_zero, List.set_cons_succ]
        go_simp
        refine hK _ _ ⟨rfl, Kept.refl _, ?_⟩
        show _ = _
        simp only [List.getD_cons_zero, List.getD_cons_succ, Array.getD_eq_getD_getElem?, List.getElem?_toArray, List.getElem?_cons_zero, List.getElem?_cons_succ, Option.getD_some]
        rfl
      case r1o2 =>
        intro w1 hG
        intro v1 h1
        change _ = _ at h1
        subst h1
        refine turn_on (by rfl) ?_
        intro K hK
        simp only [List.getD_cons_zero, List.getD_cons_succ, List.setIfInBounds_toArray, List.set_cons_zero, List.set_cons_succ]
        go_simp
        refine hK _ _ ⟨rfl, Kept.refl _, ?_⟩
        show _ = _
        simp only [List.getD_cons_zero, List.getD_cons_succ, Array.getD_eq_getD_getElem?, List.getElem?_toArray, List.getElem?_cons_zero, List.getElem?_cons_succ, Option.getD_some]
        rfl
      case r1o3 =>
        intro w1 hG
        intro v2 h2
        change _ = _ at h2
        subst h2
        refine turn_on (by rfl) ?_
        intro K hK
        simp only [List.getD_cons_zero, List.getD_cons_succ, List.setIfInBounds_toArray, List.set_cons_zero, List.set_cons_succ]
        obtain ⟨c0, c1, c2, c3, c4, c5, c6, c7, c8, cf⟩ := cellsD (row_keep hrow3 hG)
        go_simp
        refine hK _ _ ⟨rfl, Kept.refl _, ?_⟩
        show _ = _
        simp only [List.getD_cons_zero, List.getD_cons_succ, Array.getD_eq_getD_getElem?, List.getElem?_toArray, List.getElem?_cons_zero, List.getElem?_cons_succ, Option.getD_some]
        rfl
      case r1o4 =>
        intro w1 hG
        refine turn_on (by rfl) ?_
        intro K hK
        go_simp
        refine hK _ _ ⟨rfl, Kept.refl _, ?_⟩
        show _ = _
        simp only [List.getD_cons_zero, List.getD_cons_succ, Array.getD_eq_getD_getElem?, List.getElem?_toArray, List.getElem?_cons_zero, List.getElem?_cons_succ, Option.getD_some]
        rfl
      case r1o5 =>
        intro w1 hG
        refine turn_on (by rfl) ?_
        intro K hK
        go_simp
        refine hK _ _ ⟨rfl, Kept.refl _, ?_⟩
        show _ = _
        simp only [List.getD_cons_zero, List.getD_cons_succ, Array.getD_eq_getD_getElem?, List.getElem?_toArray, List.getElem?_cons_zero, List.getElem?_cons_succ, Option.getD_some]
        rfl
      case r1o6 =>
        intro w1 hG
        intro v5 h5
        change _ = _ at h5
        subst h5
        refine turn_on (by rfl) ?_
        intro K hK
        simp only [List.getD_cons_zero, List.getD_cons_succ, List.setIfInBounds_toArray, List.set_cons_zero, List.set_cons_succ]
        go_simp
        refine hK _ _ ⟨rfl, Kept.refl _, ?_⟩
        show _ = _
        simp only [List.getD_cons_zero, List.getD_cons_succ, Array.getD_eq_getD_getElem?, List.getElem?_toArray, List.getElem?_cons_zero, List.getElem?_cons_succ, Option.getD_some]
        rfl
      case r1o7 =>
        intro w1 hG
        intro v6 h6
        change _ = _ at h6
        subst h6
        refine turn_on (by rfl) ?_
        intro K hK
        simp only [List.getD_cons_zero, List.getD_cons_succ, List.setIfInBounds_toArray, List.set_cons_zero, List.set_cons_succ]
        go_simp
        refine hK _ _ ⟨rfl, Kept.refl _, ?_⟩
        show _ = _
        simp only [List.getD_cons_zero, List.getD_cons_succ, Array.getD_eq_getD_getElem?, List.getElem?_toArray, List.getElem?_cons_zero, List.getElem?_cons_succ, Option.getD_some]
        rfl
      case r1o8 =>
        intro w1 hG
        intro v7 h7
        change _ = _ at h7
        subst h7
        refine turn_on (by rfl) ?_
        intro K hK
        simp only [List.getD_cons_zero, List.getD_cons_succ, List.setIfInBounds_toArray, List.set_cons_zero, List.set_cons_succ]
        obtain ⟨c0, c1, c2, c3, c4, c5, c6, c7, c8, cf⟩ := cellsD (row_keep hrow3 hG)
        go_simp
        refine hK _ _ ⟨rfl, Kept.refl _, ?_⟩
        show _ = _
        simp only [List.getD_cons_zero, List.getD_cons_succ, Array.getD_eq_getD_getElem?, List.getElem?_toArray, List.getElem?_cons_zero, List.getElem?_cons_succ, Option.getD_some]
        rfl
      case r1o9 =>
        intro w1 hG
        intro v4 h4
        change _ = _ at h4
        subst h4
        intro v8 h8
        change _ = _ at h8
        subst h8
        refine turn_on (by rfl) ?_
        intro K hK
        simp only [List.getD_cons_zero, List.getD_cons_succ, List.setIfInBounds_toArray, List.set_cons_zero, List.set_cons_succ]
        go_simp
        refine hK _ _ ⟨rfl, Kept.refl _, ?_⟩
        show _ = _
        simp only [List.getD_cons_zero, List.getD_cons_succ, Array.getD_eq_getD_getElem?, List.getElem?_toArray, List.getElem?_cons_zero, List.getElem?_cons_succ, Option.getD_some]
        rfl
      case r1o10 =>
        intro w1 hG
        refine turn_on (by rfl) ?_
        intro K hK
        go_simp
        refine hK _ _ ⟨rfl, Kept.refl _, ?_⟩
        show _ = _
        simp only [List.getD_cons_zero, List.getD_cons_succ, Array.getD_eq_getD_getElem?, List.getElem?_toArray, List.getElem?_cons_zero, List.getElem?_cons_succ, Option.getD_some]
        rfl
      case r1o11 =>
        intro w1 hG
        intro v10 h10
        change _ = _ at h10
        subst h10
        refine turn_on (by rfl) ?_
        intro K hK
        simp only [List.getD_cons_zero, List.getD_cons_succ, List.setIfInBounds_toArray, List.set_cons_zero, List.set_cons_succ]
        go_simp
        refine hK _ _ ⟨rfl, Kept.refl _, ?_⟩
        show _ = _
        simp only [List.getD_cons_zero, List.getD_cons_succ, Array.getD_eq_getD_getElem?, List.getElem?_toArray, List.getElem?_cons_zero, List.getElem?_cons_succ, Option.getD_some]
        rfl
      case r1o12 =>
        intro w1 hG
        refine turn_on (by rfl) ?_
        intro K hK
        go_simp
        refine hK _ _ ⟨rfl, Kept.refl _, ?_⟩
        show _ = _
        simp only [List.getD_cons_zero, List.getD_cons_succ, Array.getD_eq_getD_getElem?, List.getElem?_toArray, List.getElem?_cons_zero, List.getElem?_cons_succ, Option.getD_some]
        rfl
      case r1o13 =>
        intro w1 hG
        intro v12 h12
        change _ = _ at h12
        subst h12
        refine turn_on (by rfl) ?_
        intro K hK
        simp only [List.getD_cons_zero, List.getD_cons_succ, List.setIfInBounds_toArray, List.set_cons_zero, List.set_cons_succ]
        go_simp
        refine hK _ _ ⟨rfl, Kept.refl _, ?_⟩
        show _ = _
        simp only [List.getD_cons_zero, List.getD_cons_succ, Array.getD_eq_getD_getElem?, List.getElem?_toArray, List.getElem?_cons_zero, List.getElem?_cons_succ, Option.getD_some]
        rfl
      case r1o14 =>
        intro w1 hG
        intro v13 h13
        change _ = _ at h13
        subst h13
        refine turn_on (by rfl) ?_
        intro K hK
        simp only [List.getD_cons_zero, List.getD_cons_succ, List.setIfInBounds_toArray, List.set_cons_zero, List.set_cons_succ]
        go_simp
        refine hK _ _ ⟨rfl, Kept.refl _, ?_⟩
        show _ = _
        simp only [List.getD_cons_zero, List.getD_cons_succ, Array.getD_eq_getD_getElem?, List.getElem?_toArray, List.getElem?_cons_zero, List.getElem?_cons_succ, Option.getD_some]
        rfl
      case r1o15 =>
        intro w1 hG
        intro v14 h14
        change _ = _ at h14
        subst h14
        refine turn_on (by rfl) ?_
        intro K hK
        simp only [List.getD_cons_zero, List.getD_cons_succ, List.setIfInBounds_toArray, List.set_cons_zero, List.set_cons_succ]
        obtain ⟨c0, c1, c2, c3, c4, c5, c6, c7, c8, cf⟩ := cellsD (row_keep hrow3 hG)
        go_simp
        refine hK _ _ ⟨rfl, Kept.refl _, ?_⟩
        show _ = _
        simp only [List.getD_cons_zero, List.getD_cons_succ, Array.getD_eq_getD_getElem?, List.getElem?_toArray, List.getElem?_cons_zero, List.getElem?_cons_succ, Option.getD_some]
        rfl
      case r1o16 =>
        intro w1 hG
        intro v11 h11
        change _ = _ at h11
        subst h11
        intro v15 h15
        change _ = _ at h15
        subst h15
        refine turn_on (by rfl) ?_
        intro K hK
        simp only [List.getD_cons_zero, List.getD_cons_succ, List.setIfInBounds_toArray, List.set_cons_zero, List.set_cons_succ]
        go_simp
        refine hK _ _ ⟨rfl, Kept.refl _, ?_⟩
        show _ = _
        simp only [List.getD_cons_zero, List.getD_cons_succ, Array.getD_eq_getD_getElem?, List.getElem?_toArray, List.getElem?_cons_zero, List.getElem?_cons_succ, Option.getD_some]
        rfl
      case r1o17 =>
        intro w1 hG
        intro v3 h3
        change _ = _ at h3
        subst h3
        intro v9 h9
        change _ = _ at h9
        subst h9
        intro v16 h16
        change _ = _ at h16
        subst h16
        refine turn_on (by rfl) ?_
        intro K hK
        simp only [List.getD_cons_zero, List.getD_cons_succ, List.setIfInBounds_toArray, List.set_cons_zero, List.set_cons_succ]
        go_simp
        refine hK _ _ ⟨rfl, Kept.refl _, ?_⟩
        show _ = _
        simp only [List.getD_cons_zero, List.getD_cons_succ, Array.getD_eq_getD_getElem?, List.getElem?_toArray, List.getElem?_cons_zero, List.getElem?_cons_succ, Option.getD_some]
        rfl
      case r1o18 =>
        intro w1 hG
        refine turn_on (by rfl) ?_
        intro K hK
        go_simp
        refine hK _ _ ⟨rfl, Kept.refl _, ?_⟩
        show _ = _
        simp only [List.getD_cons_zero, List.getD_cons_succ, Array.getD_eq_getD_getElem?, List.getElem?_toArray, List.getElem?_cons_zero, List.getElem?_cons_succ, Option.getD_some]
        rfl
      case r1o19 =>
        intro w1 hG
        refine turn_on (by rfl) ?_
        intro K hK
        go_simp
        refine hK _ _ ⟨rfl, Kept.refl _, ?_⟩
        show _ = _
        simp only [List.getD_cons_zero, List.getD_cons_succ, Array.getD_eq_getD_getElem?, List.getElem?_toArray, List.getElem?_cons_zero, List.getElem?_cons_succ, Option.getD_some]
        rfl
      case r1o20 =>
        intro w1 hG
        intro v17 h17
        change _ = _ at h17
        subst h17
        intro v18 h18
        change _ = _ at h18
        subst h18
        intro v19 h19
        change _ = _ at h19
        subst h19
        refine turn_on (by rfl) ?_
        intro K hK
        simp only [List.getD_cons_zero, List.getD_cons_succ, List.setIfInBounds_toArray, List.set_cons_zero, List.set_cons_succ]
        go_simp
        refine Calls.mono (refburst_any _ _ _ lk bit p w1 (RdAt.below (w := w.drew) hrd3 hG) HBL.out) ?_
        rintro e w9 ⟨v9, rfl, ho9, hb9⟩
        refine hK _ _ ⟨rfl, hb9, ?_⟩
        show PF7 _ _ _ _
        simp only [List.getD_cons_zero, List.getD_cons_succ, Array.getD_eq_getD_getElem?, List.getElem?_toArray, List.getElem?_cons_zero, List.getElem?_cons_succ, Option.getD_some]
        exact Owns.mono ho9 hG.size
      case r1o21 =>
        intro w1 hG
        intro v20 h20
        obtain ⟨a20, c20, rfl⟩ := Owns.shape h20
        refine turn_on (by rfl) ?_
        intro K hK
        simp only [List.getD_cons_zero, List.getD_cons_succ, List.setIfInBounds_toArray, List.set_cons_zero, List.set_cons_succ]
        go_simp
        refine hK _ _ ⟨rfl, Kept.refl _, ?_⟩
        show PF7 _ _ _ _
        simp only [List.getD_cons_zero, List.getD_cons_succ, Array.getD_eq_getD_getElem?, List.getElem?_toArray, List.getElem?_cons_zero, List.getElem?_cons_succ, Option.getD_some]
        exact h20
    intro w1 hG
    intro v0 h0
    change _ = _ at h0
    subst h0
    intro v1 h1
    change _ = _ at h1
    subst h1
    intro v2 h2
    change _ = _ at h2
    subst h2
    intro v3 h3
    change _ = _ at h3
    subst h3
    intro v4 h4
    change _ = _ at h4
    subst h4
    intro v5 h5
    change _ = _ at h5
    subst h5
    intro v6 h6
    change _ = _ at h6
    subst h6
    intro v7 h7
    change _ = _ at h7
    subst h7
    intro v8 h8
    change _ = _ at h8
    subst h8
    intro v9 h9
    change _ = _ at h9
    subst h9
    intro v10 h10
    change _ = _ at h10
    subst h10
    intro v11 h11
    change _ = _ at h11
    subst h11
    intro v12 h12
    change _ = _ at h12
    subst h12
    intro v13 h13
    change _ = _ at h13
    subst h13
    intro v14 h14
    change _ = _ at h14
    subst h14
    intro v15 h15
    change _ = _ at h15
    subst h15
    intro v16 h16
    change _ = _ at h16
    subst h16
    intro v17 h17
    change _ = _ at h17
    subst h17
    intro v18 h18
    change _ = _ at h18
    subst h18
    intro v19 h19
    change _ = _ at h19
    subst h19
    intro v20 h20
    obtain ⟨a20, c20, rfl⟩ := Owns.shape h20
    intro v21 h21
    obtain ⟨a21, c21, rfl⟩ := Owns.shape h21
    simp only [Given, List.getD_cons_zero, List.getD_cons_succ, List.setIfInBounds_toArray, List.set_cons_zero, List.set_cons_succ]
    obtain ⟨q3, x3, hv3, _, hrd5, hB5, hlt5⟩ := Owns.slc h21 (by rw [burstV_len, HKL.out]; omega)
    injection hv3 with e1 e2 e3
    subst e1 e3
    clear e2
    have hp3 : RkP w1 Z r bb lv kv pvs st := PP.out.same (fun x hx => hG.block x (hz x hx))
    have hz3 : ∀ x, Z x → x < w1.heap.size := fun x hx => Nat.lt_of_lt_of_le (hz x hx) hG.size
    have hq3 : q3 ≠ r ∧ q3 ≠ bb := by
      have := hz r (PP.out.z r (.inl rfl))
      have := hz bb (PP.out.z bb (.inr (.inl rfl)))
      omega
    have ht3 : Tnd Z Z w w1 := ⟨hG.os, hG.tape, hG.output, hG.size, fun x hx _ => hG.block x hx, fun x h => .inl h⟩
    have P3 := Lib.hid hp3
    have Z3 := Lib.hid hz3
    have RD5 := Lib.hid hrd5
    have T3 := Lib.hid ht3
    clear h20 h21 hrd3 hrow3 hG hrd5 ht3 hp3 hz3 c0 c1 c2 c3 c4 c5 c6 c7 c8 cf g1 g2 g3 g4 g5 g6 g7 g8 g9 g10 g11
    go_wp2_with fail
    refine (keep_any Z r bb lv kv pvs st s q3 0 _ c21 (burstV lk bit p) w1 P3.out Z3.out RD5.out hq3 (by rw [HNN.out]; exact hsl) (by rw [burstV_len, HKL.out]; exact HZZ.out.symm)).mono ?_
    rintro e wA ⟨rfl, hp4, hg4⟩
    obtain ⟨st4, hst4⟩ : ∃ st4 : Dk, ({ st with kept := st.kept.set s (burstV lk bit p) } : Dk) = st4 := ⟨_, rfl⟩
    rw [hst4] at hp4
    have hz4 : ∀ x, Z x → x < wA.heap.size := fun x hx => Nat.lt_of_lt_of_le (Z3.out x hx) hg4.size
    have HE4 : Hid (burS st s bit p = { st4 with pend := st4.pend.map (burF s bit p) }) := by
      show _ = _
      rw [HE.out, ← hst4]
    have P4 := Lib.hid hp4
    have T4 : Hid (Tnd Z Z w wA) := T3.out.trans ⟨hg4.os, hg4.tape, hg4.output, hg4.size, fun x hx hzx => hg4.block x hx (fun e => hzx (by rw [Option.some.inj e]; exact PP.out.z bb (.inr (.inl rfl)))), fun x h => .inl h⟩
    have Z4 := Lib.hid hz4
    obtain ⟨n, hn⟩ : ∃ n, st4.pend.length = n := ⟨_, rfl⟩
    have HN := Lib.hid hn
    obtain ⟨pa, pc, hpv⟩ := owns_shape hp4.prow
    rw [hn] at hpv
    subst hpv
    have hfew := hp4.ok.few
    rw [hn] at hfew
    clear hst4 HE hg4 P3 Z3 RD5 T3 hp4 hn hz4
    go_wp2_with fail
    go_loopw [10] (fun i wr => ∃ (k : Nat) (Z5 : Nat → Prop) (pvs5 : List Value), k ≤ n ∧ i = .int .i64 k ∧ Hid (RkP wr Z5 r bb (.slice pa n pc) kv pvs5 { st4 with pend := mapTo (burF s bit p) k st4.pend }) ∧ Hid (∀ x, Z5 x → x < wr.heap.size) ∧ Hid (Tnd Z Z5 wA wr)) (fun i _ => n - (intOf i).toNat)
    case atStart => exact ⟨0, Z, pvs, by omega, rfl, by rw [mapTo_zero]; exact P4.out, Z4, Tnd.refl _ _⟩
    case round =>
      obtain ⟨k, Z5, pvs5, hk, rfl, P5, HZ5, T5⟩ := hrel
      obtain ⟨c0, c1, c2, c3, c4, c5, c6, c7, c8, cf⟩ := cellsD P5.out.row
      by_cases hp : k < n
      · obtain ⟨⟨t, l9⟩, hpk0⟩ : ∃ x, st4.pend[k]? = some x := ⟨_, List.getElem?_eq_getElem (by rw [HN.out]; exact hp)⟩
        obtain ⟨σ, hσ⟩ : ∃ σ : Dk, ({ st4 with pend := mapTo (burF s bit p) k st4.pend } : Dk) = σ := ⟨_, rfl⟩
        rw [hσ] at P5
        have hpk : σ.pend[k]? = some (t, l9) := by rw [← hσ]; show (mapTo _ k st4.pend)[k]? = _; rw [mapTo_at]; exact hpk0
        have hpl : σ.pend.length = n := by rw [← hσ]; show (mapTo _ k st4.pend).length = _; rw [mapTo_len]; exact HN.out
        have HPL := Lib.hid hpl
        obtain ⟨v9, hvk, hv⟩ := P5.out.pvals.get hpk
        obtain ⟨g, ga, hgc1, hgc2⟩ := pend_cellsT P5.out.prow hvk hpk (by rw [hpl]; exact hp)
        have HVK := Lib.hid hvk
        obtain ⟨b9, o9, n9, c9, rfl, hr9, hn9, hm9, hz9⟩ := hv
        have hpok := P5.out.ok.pend _ (List.mem_of_getElem? hpk)
        have hp1 : l9.length = σ.size := hpok.1
        obtain ⟨cg, hpv'⟩ := ga
        injection hpv' with q1 q2 q3
        subst q1 q3
        clear q2
        rw [show 2 * k = k * 2 by omega] at hgc1 hgc2
        have hgZ : Z5 g := P5.out.z g (.inr (.inr rfl))
        have HNS : Hid ({ st4 with pend := mapTo (burF s bit p) (k + 1) st4.pend } = { σ with pend := σ.pend.set k (burF s bit p (t, l9)) }) := by
          show _ = _
          rw [mapTo_succ _ hpk0, ← hσ]
        have HS4 : Hid (σ.size ≤ 4096) := P5.out.ok.size.2
        have HPK := Lib.hid hpk
        have HP1 := Lib.hid hp1
        have HR9 := Lib.hid hr9
        have hn91 : n9 ≤ 1000000000 := by have := hr9.len; have := HS4.out; omega
        have HN9 := Lib.hid hn91
        have hXL : (pendC σ.pend pvs5).length = n * 2 := by rw [pendC_len P5.out.pvals.1, hpl]
        have HXL := Lib.hid hXL
        have HKL2 : Hid (k < σ.pend.length) := by show _ < _; rw [hpl]; exact hp
        clear hpk0 hσ hpk hpl hvk hpok hp1 hr9 hn91 hXL
        by_cases hts : t = s
        · subst hts
          have hrow8 : wr.drew.heap[r]? = some (.cells #[.int .i64 σ.kept.length, .int .i64 σ.size, .slice (some ⟨bb, 0, none⟩) σ.kept.flatten.length σ.kept.flatten.length, .slice (some ⟨g, 0, none⟩) n pc, .bool σ.off, .int .i64 σ.armed, kv, .int .i64 σ.writes, .int .i64 σ.reads] 61 (0, 0)) := P5.out.row
          have hrd8 : RdAt .u8 wr.drew (some ⟨b9, o9, none⟩) n9 c9 l9 := HR9.out.at0 rfl
          have hown8 : wr.drew.ownsRow 0 85 2 (.slice (some ⟨g, 0, none⟩) n pc) σ.pend.length (pendC σ.pend pvs5) := P5.out.prow
          have hB8 : wr.grownBy wr.drew (some g) := ⟨rfl, rfl, rfl, Nat.le_refl _, fun _ _ _ => rfl⟩
          have hgB : ∀ x, some g = some x → x < wr.heap.size := fun x hx => by injection hx with hx; subst hx; exact HZ5.out _ hgZ
          go_wp2_with fail
          refine' reg_order [eqV _, eqV _, eqV _, eqV _, eqV _, eqV _, eqV _, eqV _, eqV _, eqV _, eqV _, eqV _, eqV _, eqV _, eqV _, (PF7 wr.heap.size (burstV l9 bit p)), eqV _, eqV _, (fun _ w => ∃ v, World.ownsRow w 0 85 2 (.slice (some ⟨g, 0, none⟩) n pc) σ.pend.length ((pendC σ.pend pvs5).set (k * 2 + 1) v) ∧ PF7 wr.heap.size (burstV l9 bit p) v w)] [(18, fun w w' => World.grownBy w w' (some g))] [(3, fun w => w.heap[r]? = some (.cells #[.int .i64 σ.kept.length, .int .i64 σ.size, .slice (some ⟨bb, 0, none⟩) σ.kept.flatten.length σ.kept.flatten.length, .slice (some ⟨g, 0, none⟩) n pc, .bool σ.off, .int .i64 σ.armed, kv, .int .i64 σ.writes, .int .i64 σ.reads] 61 (0, 0))), (8, fun w => w.heap[r]? = some (.cells #[.int .i64 σ.kept.length, .int .i64 σ.size, .slice (some ⟨bb, 0, none⟩) σ.kept.flatten.length σ.kept.flatten.length, .slice (some ⟨g, 0, none⟩) n pc, .bool σ.off, .int .i64 σ.armed, kv, .int .i64 σ.writes, .int .i64 σ.reads] 61 (0, 0))), (12, fun w => World.ownsRow w 0 85 2 (.slice (some ⟨g, 0, none⟩) n pc) σ.pend.length (pendC σ.pend pvs5)), (15, fun w => RdAt .u8 w (some ⟨b9, o9, none⟩) n9 c9 l9 ∧ wr.heap.size ≤ w.heap.size), (18, fun w => World.ownsRow w 0 85 2 (.slice (some ⟨g, 0, none⟩) n pc) σ.pend.length (pendC σ.pend pvs5)), (19, fun w => World.grownBy wr w (some g))] [70, 71, 72, 73, 74, 75, 76, 77, 78, 79, 80, 81, 82, 83, 84, 85, 86, 87, 106] [[], [0], [1], [2], [], [], [5], [6], [7], [], [8, 9], [10], [11], [], [], [12, 13, 14], [3, 4], [16], [15, 17]] [0, 1, 2, 3, 4, 5, 6, 7, 8, 9, 10, 11, 12, 13, 14, 15, 16, 17, 18] 19 (by kernel_rfl) ⟨eqV_stays _, eqV_stays _, eqV_stays _, eqV_stays _, eqV_stays _, eqV_stays _, eqV_stays _, eqV_stays _, eqV_stays _, eqV_stays _, eqV_stays _, eqV_stays _, eqV_stays _, eqV_stays _, eqV_stays _, fun _ _ _ p b => PF7.below p b, eqV_stays _, eqV_stays _, fun _ _ _ ⟨y, p, z⟩ b => ⟨y, ownsRow_at p (fun g hg => b.block g (World.ownsRow.lt p g hg).2), z.below b⟩, trivial⟩ ⟨⟨.inl (eqV_stays _), .inl (eqV_stays _), .inl (eqV_stays _), .inl (eqV_stays _), .inl (eqV_stays _), .inl (eqV_stays _), .inl (eqV_stays _), .inl (eqV_stays _), .inl (eqV_stays _), .inl (eqV_stays _), .inl (eqV_stays _), .inl (eqV_stays _), .inl (eqV_stays _), .inl (eqV_stays _), .inl (eqV_stays _), .inl (fun _ _ _ p g => PF7.grown p g hgB), .inl (eqV_stays _), .inl (eqV_stays _), .inr (.inr rfl), trivial⟩, trivial⟩ ⟨fun _ _ p b => row_keep p b, fun _ _ p b => row_keep p b, fun _ _ p b => ownsRow_at p (fun g hg => b.block g (World.ownsRow.lt p g hg).2), fun _ _ p b => ⟨p.1.below b, Nat.le_trans p.2 b.size⟩, fun _ _ p b => ownsRow_at p (fun g hg => b.block g (World.ownsRow.lt p g hg).2), fun _ _ p b => grownB p b, trivial⟩ ⟨⟨.inr (.inl (by kernel_rfl)), .inr (.inl (by kernel_rfl)), .inr (.inl (by kernel_rfl)), .inr (.inl (by kernel_rfl)), .inr (.inr rfl), .inl (fun _ _ p g => World.grownBy.trans p g), trivial⟩, trivial⟩ ⟨hrow8, hrow8, hown8, ⟨hrd8, Nat.le_refl _⟩, hown8, hB8, trivial⟩ 88 rfl (by kernel_rfl) (by kernel_rfl) rfl rfl 19 rfl ?q2obl ?q2fin
          case q2obl =>
            refine And.intro ?q2o0 (And.intro ?q2o1 (And.intro ?q2o2 (And.intro ?q2o3 (And.intro ?q2o4 (And.intro ?q2o5 (And.intro ?q2o6 (And.intro ?q2o7 (And.intro ?q2o8 (And.intro ?q2o9 (And.intro ?q2o10 (And.intro ?q2o11 (And.intro ?q2o12 (And.intro ?q2o13 (And.intro ?q2o14 (And.intro ?q2o15 (And.intro ?q2o16 (And.intro ?q2o17 (And.intro ?q2o18 (True.intro)))))))))))))))))))
            case q2o0 =>
              intro w1 hI
              refine turn2_on (by rfl) ?_
              intro K hK
              go_simp
              refine hK _ _ ⟨rfl, Kept.refl _, ?_⟩
              show _ = _
              simp only [List.getD_cons_zero, List.getD_cons_succ, Array.getD_eq_getD_getElem?, List.getElem?_toArray, List.getElem?_cons_zero, List.getElem?_cons_succ, Option.getD_some]
              rfl
            case q2o1 =>
              intro w1 hI
              intro v0 h0
              change _ = _ at h0
              subst v0
              refine turn2_on (by rfl) ?_
              intro K hK
              simp only [List.getD_cons_zero, List.getD_cons_succ, List.setIfInBounds_toArray, List.set_cons_zero, List.set_cons_succ]
              go_simp
              refine hK _ _ ⟨rfl, Kept.refl _, ?_⟩
              show _ = _
              simp only [List.getD_cons_zero, List.getD_cons_succ, Array.getD_eq_getD_getElem?, List.getElem?_toArray, List.getElem?_cons_zero, List.getElem?_cons_succ, Option.getD_some]
              rfl
            case q2o2 =>
              intro w1 hI
              intro v1 h1
              change _ = _ at h1
              subst v1
              refine turn2_on (by rfl) ?_
              intro K hK
              simp only [List.getD_cons_zero, List.getD_cons_succ, List.setIfInBounds_toArray, List.set_cons_zero, List.set_cons_succ]
              go_simp
              refine hK _ _ ⟨rfl, Kept.refl _, ?_⟩
              show _ = _
              simp only [List.getD_cons_zero, List.getD_cons_succ, Array.getD_eq_getD_getElem?, List.getElem?_toArray, List.getElem?_cons_zero, List.getElem?_cons_succ, Option.getD_some]
              rfl
            case q2o3 =>
              intro w1 hI
              replace hI : (fun w => w.heap[r]? = some (.cells #[.int .i64 σ.kept.length, .int .i64 σ.size, .slice (some ⟨bb, 0, none⟩) σ.kept.flatten.length σ.kept.flatten.length, .slice (some ⟨g, 0, none⟩) n pc, .bool σ.off, .int .i64 σ.armed, kv, .int .i64 σ.writes, .int .i64 σ.reads] 61 (0, 0))) w1 := hI
              intro v2 h2
              change _ = _ at h2
              subst v2
              refine turn2_on (by rfl) ?_
              intro K hK
              simp only [List.getD_cons_zero, List.getD_cons_succ, List.setIfInBounds_toArray, List.set_cons_zero, List.set_cons_succ]
              obtain ⟨c0, c1, c2, c3, c4, c5, c6, c7, c8, cf⟩ := cellsD hI
              go_simp
              refine hK _ _ ⟨rfl, Kept.refl _, ?_⟩
              show _ = _
              simp only [List.getD_cons_zero, List.getD_cons_succ, Array.getD_eq_getD_getElem?, List.getElem?_toArray, List.getElem?_cons_zero, List.getElem?_cons_succ, Option.getD_some]
              rfl
            case q2o4 =>
              intro w1 hI
              refine turn2_on (by rfl) ?_
              intro K hK
              go_simp
              refine hK _ _ ⟨rfl, Kept.refl _, ?_⟩
              show _ = _
              simp only [List.getD_cons_zero, List.getD_cons_succ, Array.getD_eq_getD_getElem?, List.getElem?_toArray, List.getElem?_cons_zero, List.getElem?_cons_succ, Option.getD_some]
              rfl
            case q2o5 =>
              intro w1 hI
              refine turn2_on (by rfl) ?_
              intro K hK
              go_simp
              refine hK _ _ ⟨rfl, Kept.refl _, ?_⟩
              show _ = _
              simp only [List.getD_cons_zero, List.getD_cons_succ, Array.getD_eq_getD_getElem?, List.getElem?_toArray, List.getElem?_cons_zero, List.getElem?_cons_succ, Option.getD_some]
              rfl
            case q2o6 =>
              intro w1 hI
              intro v5 h5
              change _ = _ at h5
              subst v5
              refine turn2_on (by rfl) ?_
              intro K hK
              simp only [List.getD_cons_zero, List.getD_cons_succ, List.setIfInBounds_toArray, List.set_cons_zero, List.set_cons_succ]
              go_simp
              refine hK _ _ ⟨rfl, Kept.refl _, ?_⟩
              show _ = _
              simp only [List.getD_cons_zero, List.getD_cons_succ, Array.getD_eq_getD_getElem?, List.getElem?_toArray, List.getElem?_cons_zero, List.getElem?_cons_succ, Option.getD_some]
              rfl
            case q2o7 =>
              intro w1 hI
              intro v6 h6
              change _ = _ at h6
              subst v6
              refine turn2_on (by rfl) ?_
              intro K hK
              simp only [List.getD_cons_zero, List.getD_cons_succ, List.setIfInBounds_toArray, List.set_cons_zero, List.set_cons_succ]
              go_simp
              refine hK _ _ ⟨rfl, Kept.refl _, ?_⟩
              show _ = _
              simp only [List.getD_cons_zero, List.getD_cons_succ, Array.getD_eq_getD_getElem?, List.getElem?_toArray, List.getElem?_cons_zero, List.getElem?_cons_succ, Option.getD_some]
              rfl
            case q2o8 =>
              intro w1 hI
              replace hI : (fun w => w.heap[r]? = some (.cells #[.int .i64 σ.kept.length, .int .i64 σ.size, .slice (some ⟨bb, 0, none⟩) σ.kept.flatten.length σ.kept.flatten.length, .slice (some ⟨g, 0, none⟩) n pc, .bool σ.off, .int .i64 σ.armed, kv, .int .i64 σ.writes, .int .i64 σ.reads] 61 (0, 0))) w1 := hI
              intro v7 h7
              change _ = _ at h7
              subst v7
              refine turn2_on (by rfl) ?_
              intro K hK
              simp only [List.getD_cons_zero, List.getD_cons_succ, List.setIfInBounds_toArray, List.set_cons_zero, List.set_cons_succ]
              obtain ⟨c0, c1, c2, c3, c4, c5, c6, c7, c8, cf⟩ := cellsD hI
              go_simp
              refine hK _ _ ⟨rfl, Kept.refl _, ?_⟩
              show _ = _
              simp only [List.getD_cons_zero, List.getD_cons_succ, Array.getD_eq_getD_getElem?, List.getElem?_toArray, List.getElem?_cons_zero, List.getElem?_cons_succ, Option.getD_some]
              rfl
            case q2o9 =>
              intro w1 hI
              refine turn2_on (by rfl) ?_
              intro K hK
              go_simp
              refine hK _ _ ⟨rfl, Kept.refl _, ?_⟩
              show _ = _
              simp only [List.getD_cons_zero, List.getD_cons_succ, Array.getD_eq_getD_getElem?, List.getElem?_toArray, List.getElem?_cons_zero, List.getElem?_cons_succ, Option.getD_some]
              rfl
            case q2o10 =>
              intro w1 hI
              intro v8 h8
              change _ = _ at h8
              subst v8
              intro v9 h9
              change _ = _ at h9
              subst v9
              refine turn2_on (by rfl) ?_
              intro K hK
              simp only [List.getD_cons_zero, List.getD_cons_succ, List.setIfInBounds_toArray, List.set_cons_zero, List.set_cons_succ]
              go_simp
              refine hK _ _ ⟨rfl, Kept.refl _, ?_⟩
              show _ = _
              simp only [List.getD_cons_zero, List.getD_cons_succ, Array.getD_eq_getD_getElem?, List.getElem?_toArray, List.getElem?_cons_zero, List.getElem?_cons_succ, Option.getD_some]
              rfl
            case q2o11 =>
              intro w1 hI
              intro v10 h10
              change _ = _ at h10
              subst v10
              refine turn2_on (by rfl) ?_
              intro K hK
              simp only [List.getD_cons_zero, List.getD_cons_succ, List.setIfInBounds_toArray, List.set_cons_zero, List.set_cons_succ]
              go_simp
              refine hK _ _ ⟨rfl, Kept.refl _, ?_⟩
              show _ = _
              simp only [List.getD_cons_zero, List.getD_cons_succ, Array.getD_eq_getD_getElem?, List.getElem?_toArray, List.getElem?_cons_zero, List.getElem?_cons_succ, Option.getD_some]
              rfl
            case q2o12 =>
              intro w1 hI
              replace hI : (fun w => World.ownsRow w 0 85 2 (.slice (some ⟨g, 0, none⟩) n pc) σ.pend.length (pendC σ.pend pvs5)) w1 := hI
              intro v11 h11
              change _ = _ at h11
              subst v11
              refine turn2_on (by rfl) ?_
              intro K hK
              simp only [List.getD_cons_zero, List.getD_cons_succ, List.setIfInBounds_toArray, List.set_cons_zero, List.set_cons_succ]
              have hgc := (pend_cellsT (p := σ.pend) (k := k) (pv := .slice (some ⟨g, 0, none⟩) n pc) hI HVK.out HPK.out HKL2.out)
              obtain ⟨g', ⟨cg', hg'⟩, hgc1, hgc2⟩ := hgc
              have e1 := slice_block hg'
              clear hg'
              subst e1
              rw [show 2 * k = k * 2 by omega] at hgc1 hgc2
              go_simp
              refine hK _ _ ⟨rfl, Kept.refl _, ?_⟩
              show _ = _
              simp only [List.getD_cons_zero, List.getD_cons_succ, Array.getD_eq_getD_getElem?, List.getElem?_toArray, List.getElem?_cons_zero, List.getElem?_cons_succ, Option.getD_some]
              rfl
            case q2o13 =>
              intro w1 hI
              refine turn2_on (by rfl) ?_
              intro K hK
              go_simp
              refine hK _ _ ⟨rfl, Kept.refl _, ?_⟩
              show _ = _
              simp only [List.getD_cons_zero, List.getD_cons_succ, Array.getD_eq_getD_getElem?, List.getElem?_toArray, List.getElem?_cons_zero, List.getElem?_cons_succ, Option.getD_some]
              rfl
            case q2o14 =>
              intro w1 hI
              refine turn2_on (by rfl) ?_
              intro K hK
              go_simp
              refine hK _ _ ⟨rfl, Kept.refl _, ?_⟩
              show _ = _
              simp only [List.getD_cons_zero, List.getD_cons_succ, Array.getD_eq_getD_getElem?, List.getElem?_toArray, List.getElem?_cons_zero, List.getElem?_cons_succ, Option.getD_some]
              rfl
            case q2o15 =>
              intro w1 hI
              replace hI : (fun w => RdAt .u8 w (some ⟨b9, o9, none⟩) n9 c9 l9 ∧ wr.heap.size ≤ w.heap.size) w1 := hI
              intro v12 h12
              change _ = _ at h12
              subst v12
              intro v13 h13
              change _ = _ at h13
              subst v13
              intro v14 h14
              change _ = _ at h14
              subst v14
              refine turn2_on (by rfl) ?_
              intro K hK
              simp only [List.getD_cons_zero, List.getD_cons_succ, List.setIfInBounds_toArray, List.set_cons_zero, List.set_cons_succ]
              obtain ⟨hI, hwz⟩ := hI
              go_simp
              refine Calls.mono (refburst_any (some ⟨b9, o9, none⟩) n9 c9 l9 bit p w1 hI HN9.out) ?_
              rintro e w9 ⟨v9, rfl, ho9, hb9⟩
              refine hK _ _ ⟨rfl, hb9, ?_⟩
              show PF7 _ _ _ _
              simp only [List.getD_cons_zero, List.getD_cons_succ, Array.getD_eq_getD_getElem?, List.getElem?_toArray, List.getElem?_cons_zero, List.getElem?_cons_succ, Option.getD_some]
              exact Owns.mono ho9 hwz
            case q2o16 =>
              intro w1 hI
              intro v3 h3
              change _ = _ at h3
              subst v3
              intro v4 h4
              change _ = _ at h4
              subst v4
              refine turn2_on (by rfl) ?_
              intro K hK
              simp only [List.getD_cons_zero, List.getD_cons_succ, List.setIfInBounds_toArray, List.set_cons_zero, List.set_cons_succ]
              go_simp
              refine hK _ _ ⟨rfl, Kept.refl _, ?_⟩
              show _ = _
              simp only [List.getD_cons_zero, List.getD_cons_succ, Array.getD_eq_getD_getElem?, List.getElem?_toArray, List.getElem?_cons_zero, List.getElem?_cons_succ, Option.getD_some]
              rfl
            case q2o17 =>
              intro w1 hI
              intro v16 h16
              change _ = _ at h16
              subst v16
              refine turn2_on (by rfl) ?_
              intro K hK
              simp only [List.getD_cons_zero, List.getD_cons_succ, List.setIfInBounds_toArray, List.set_cons_zero, List.set_cons_succ]
              go_simp
              refine hK _ _ ⟨rfl, Kept.refl _, ?_⟩
              show _ = _
              simp only [List.getD_cons_zero, List.getD_cons_succ, Array.getD_eq_getD_getElem?, List.getElem?_toArray, List.getElem?_cons_zero, List.getElem?_cons_succ, Option.getD_some]
              rfl
            case q2o18 =>
              intro w1 hI
              replace hI : (fun w => World.ownsRow w 0 85 2 (.slice (some ⟨g, 0, none⟩) n pc) σ.pend.length (pendC σ.pend pvs5)) w1 := hI
              intro v15 h15
              obtain ⟨a15, c15, rfl⟩ := Owns.shape h15
              intro v17 h17
              change _ = _ at h17
              subst v17
              refine turn2_on (by rfl) ?_
              intro K hK
              simp only [List.getD_cons_zero, List.getD_cons_succ, List.setIfInBounds_toArray, List.set_cons_zero, List.set_cons_succ]
              have hgc := own_cell hI (j := k * 2 + 1) (by rw [HXL.out]; omega)
              obtain ⟨⟨u9, hgc⟩, hgf⟩ := hgc
              go_simp
              refine hK _ _ ⟨rfl, put_grown _ _ _ _, ?_⟩
              exact ⟨_, own_set hI (v0 := .bool true) rfl (k * 2 + 1) _, PF7.grown h15 (put_grown _ _ _ _) hgB⟩
          intro w1 hI
          replace hI : (fun w => World.grownBy wr w (some g)) w1 := hI
          intro v0 h0
          change _ = _ at h0
          subst v0
          intro v1 h1
          change _ = _ at h1
          subst v1
          intro v2 h2
          change _ = _ at h2
          subst v2
          intro v3 h3
          change _ = _ at h3
          subst v3
          intro v4 h4
          change _ = _ at h4
          subst v4
          intro v5 h5
          change _ = _ at h5
          subst v5
          intro v6 h6
          change _ = _ at h6
          subst v6
          intro v7 h7
          change _ = _ at h7
          subst v7
          intro v8 h8
          change _ = _ at h8
          subst v8
          intro v9 h9
          change _ = _ at h9
          subst v9
          intro v10 h10
          change _ = _ at h10
          subst v10
          intro v11 h11
          change _ = _ at h11
          subst v11
          intro v12 h12
          change _ = _ at h12
          subst v12
          intro v13 h13
          change _ = _ at h13
          subst v13
          intro v14 h14
          change _ = _ at h14
          subst v14
          intro v15 h15
          obtain ⟨a15, c15, rfl⟩ := Owns.shape h15
          intro v16 h16
          change _ = _ at h16
          subst v16
          intro v17 h17
          change _ = _ at h17
          subst v17
          intro v18 h18
          simp only [Given, List.getD_cons_zero, List.getD_cons_succ, List.setIfInBounds_toArray, List.set_cons_zero, List.set_cons_succ]
          obtain ⟨v8, hown9, hpf9⟩ := h18
          obtain ⟨Z7, hZ7⟩ : ∃ Z7 : Nat → Prop, (fun x => Z5 x ∨ (wr.heap.size ≤ x ∧ x < w1.heap.size)) = Z7 := ⟨_, rfl⟩
          have P7 : Hid (RkP w1 Z7 r bb (.slice (some ⟨g, 0, none⟩) n pc) kv (pvs5.set k v8) { st4 with pend := mapTo (burF s bit p) (k + 1) st4.pend }) := by
            show RkP _ _ _ _ _ _ _ _
            rw [HNS.out, ← hZ7, show burF (s : Int) bit p ((s : Int), l9) = ((s : Int), burstV l9 bit p) from if_pos rfl]
            exact P5.out.layp HZ5.out k s l9 (burstV l9 bit p) HPK.out (by rw [burstV_len]; exact HP1.out) v8 hpf9 g rfl hI hown9
          have HZ8 : Hid (∀ x, Z7 x → x < w1.heap.size) := by
            show ∀ x, Z7 x → _
            rw [← hZ7]
            rintro x (hx | hx)
            · exact Nat.lt_of_lt_of_le (HZ5.out x hx) hI.size
            · exact hx.2
          have T8 : Hid (Tnd Z Z7 wA w1) := by
            show Tnd _ _ _ _
            rw [← hZ7]
            exact T5.out.trans ⟨hI.os, hI.tape, hI.output, hI.size, fun x hx hzx => hI.block x hx (fun e => hzx (by rw [Option.some.inj e]; exact hgZ)), fun x hx => hx.imp id (·.1)⟩
          clear hI hown9 hpf9 hrow8 hrd8 hown8 hB8 hgB hZ7 c0 c1 c2 c3 c4 c5 c6 c7 c8 cf hgc1 hgc2
          go_wp2_with fail
          go_roundw
          case rel => exact ⟨k + 1, Z7, _, by omega, by go_num, P7, HZ8, T8⟩
          case measure => simp [intOf] <;> omega
        · have dts : (t == (s : Int)) = false := by simpa using hts
          have P7 : Hid (RkP wr Z5 r bb (.slice (some ⟨g, 0, none⟩) n pc) kv pvs5 { st4 with pend := mapTo (burF s bit p) (k + 1) st4.pend }) := by
            show RkP _ _ _ _ _ _ _ _
            rw [HNS.out, show burF (s : Int) bit p (t, l9) = (t, l9) from if_neg hts]
            have e : σ.pend.set k (t, l9) = σ.pend := by
              obtain ⟨hk1, hk2⟩ := List.getElem?_eq_some_iff.1 HPK.out
              rw [← hk2]
              exact List.set_getElem_self hk1
            rw [e]
            exact P5.out
          clear hts
          go_wp2_with fail
          go_roundw
          case rel => exact ⟨k + 1, Z5, _, by omega, by go_num, P7, HZ5, T5⟩
          case measure => simp [intOf] <;> omega
      · obtain rfl : k = n := by omega
        go_wp2_with fail
        go_ret
        refine ⟨rfl, Z5, ?_, T4.out.trans T5.out⟩
        rw [HE4.out]
        have P9 := P5.out
        rw [← HN.out, mapTo_all] at P9
        exact ⟨HZ5.out, _, _, _, _, P9⟩
theorem rburst_any (Z : Nat → Prop) (r : Nat) (st : Dk) (s bit : Int) (p : BitVec 32) (w : World) (h : RkIn w Z r st) (hb1 : bit ≤ 9223372036854775807) :
    Calls Try.prog 32 #[.pointer (some ⟨r, 0, none⟩), .int .i64 s, .int .i64 bit, .int .u32 (rnum p)] w fun e w' => e = .returned (.bool (burB st s bit)) ∧ ∃ Z', RkIn w' Z' r (burS st s bit p) ∧ Tnd Z Z' w w' := by
  cases hb : burB st s bit with
  | false =>
    have e : burS st s bit p = st := by unfold burS; rw [hb, if_neg (by decide)]
    rw [e]
    exact (rburst_no Z r st s bit p w h hb).mono fun e w' ⟨h1, h2⟩ => ⟨h1, Z, by rw [← h2]; exact h, by rw [← h2]; exact Tnd.refl _ _⟩
  | true =>
    have hb' := hb
    unfold burB inS at hb'
    simp only [Bool.and_eq_true, decide_eq_true_eq] at hb'
    obtain ⟨k, rfl⟩ := Int.eq_ofNat_of_zero_le hb'.1.1
    exact rburst_yes Z r st k bit p w h (by omega) hb'.2 hb1
end Go.Proofs.Ytpgncmoagmkcmaa
