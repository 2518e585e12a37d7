/- disk: Of. -/
import Derived.Test.YtpgncmoagmkcmaaDkK
import Derived.Test.YtpgncmoagmkcmaaDkF
namespace Go.Proofs.Ytpgncmoagmkcmaa
open Go.RowKit
/-- The i-th sector of some bytes. -/
def chunk (b : List Int) (s i : Nat) : List Int := (b.drop (i * s)).take s
def ofK (b : List Int) (n s k : Nat) : List (List Int) := (List.range n).map fun i => if i < k then chunk b s i else List.replicate s 0
def ofS (b : List Int) (n s k : Nat) : Dk := { dk0 n s with kept := ofK b n s k }
theorem ofK_0 (b : List Int) (n s : Nat) : ofK b n s 0 = List.replicate n (List.replicate s 0) := by
  apply List.ext_getElem?
  intro i
  unfold ofK
  rw [List.getElem?_map, List.getElem?_replicate]
  by_cases h : i < n
  · rw [List.getElem?_range h, if_pos h]; simp
  · rw [List.getElem?_eq_none (by simp; omega), if_neg h]; rfl
theorem ofK_set (b : List Int) (n s k : Nat) (hk : k < n) : (ofK b n s k).set k (chunk b s k) = ofK b n s (k + 1) := by
  apply List.ext_getElem?
  intro i
  unfold ofK
  rw [List.getElem?_set, List.getElem?_map, List.getElem?_map, List.length_map, List.length_range]
  by_cases h : i < n
  · rw [List.getElem?_range h]
    by_cases hik : k = i
    · subst hik
      rw [if_pos rfl, if_pos hk]
      simp
    · rw [if_neg hik]
      simp only [Option.map_some]
      by_cases h1 : i < k
      · rw [if_pos h1, if_pos (by omega)]
      · rw [if_neg h1, if_neg (by omega)]
  · rw [List.getElem?_eq_none (l := List.range n) (by simp; omega)]
    by_cases hik : k = i
    · omega
    · rw [if_neg hik]; rfl
theorem ofK_len (b : List Int) (n s k : Nat) : (ofK b n s k).length = n := by unfold ofK; simp
theorem ofK_flat (b : List Int) (s : Nat) : ∀ n, (ofK b n s n).flatten = b.take (n * s) := by
  have key : ∀ n k, n ≤ k → (ofK b n s k).flatten = b.take (n * s) := by
    intro n
    induction n with
    | zero => intro k _; simp [ofK]
    | succ n ih =>
      intro k hk
      unfold ofK
      rw [List.range_succ, List.map_append, List.flatten_append]
      have h1 := ih k (by omega)
      unfold ofK at h1
      rw [h1]
      simp only [List.map_cons, List.map_nil, List.flatten_cons, List.flatten_nil, List.append_nil]
      rw [if_pos (show n < k by omega), Nat.succ_mul, chunk, List.take_add]
  exact fun n => key n n (Nat.le_refl _)
theorem ofK_at (b : List Int) (n s i : Nat) (h : i < n) : (ofK b n s n)[i]? = some (chunk b s i) := by
  unfold ofK
  rw [List.getElem?_map, List.getElem?_range h]
  simp [h]
theorem rd_chunk {kd : IntKind} {w : World} {b o n c : Nat} {l : List Int} (h : RdAt kd w (some ⟨b, o, none⟩) n c l) (lo s : Nat) (hs : lo + s ≤ n) : RdAt kd w (some ⟨b, o + lo, none⟩) s (c - lo) ((l.drop lo).take s) := by
  have hcap := h.cap
  have hmax := h.max
  have hl := h.len
  refine ⟨by rw [List.length_take, List.length_drop]; omega, by omega, by omega, fun i hi => ?_, fun y hy => h.wf y (List.mem_of_mem_drop (List.mem_of_mem_take hy)), fun h => by cases h⟩
  obtain ⟨b', o', e, hc⟩ := h.cell (lo + i) (by omega)
  injection e with e
  injection e with e1 e2
  subst e1 e2
  refine ⟨b, o + lo, rfl, ?_⟩
  rw [Nat.add_assoc, hc, nth_eq (show lo + i < l.length by omega), nth_eq (by rw [List.length_take, List.length_drop]; omega), List.getElem_take, List.getElem_drop]
/-- One sector laid. -/
theorem DkIn.lay {w w5 : World} {Z : Nat → Prop} {d kb mb : Nat} {pv kv : Value} {vals pvs : List Value} {st : Dk} (p : DkP w Z d kb mb pv kv vals pvs st) (hz : ∀ k, Z k → k < w.heap.size) (k : Nat) (l : List Int) (hl : l.length = st.size) (v : Value) (hv : Owns .u8 5 w5 w.heap.size v l)
    (hsp : w.grownBy w5 (some kb)) (hkr : w5.heap[kb]? = some (.cells (vals.set k v).toArray 22 (0, 0))) : DkIn w5 (fun x => Z x ∨ (w.heap.size ≤ x ∧ x < w5.heap.size)) d { st with kept := st.kept.set k l } := by
  have hmut : ∀ x, Z x → ¬ MutD d kb mb pv x → w5.heap[x]? = w.heap[x]? := fun x hx hm => hsp.block x (hz x hx) (fun e => hm (.inr (.inl (Option.some.inj e))))
  have hZm := p.z
  have hl0 : 0 < l.length := by have := p.ok.size; omega
  obtain ⟨g, c, hvs, hrm, hrd, hB, hlt⟩ := Owns.slc hv hl0
  have hpl : ∀ x, pv.ownBlock = some x → x < w.heap.size := fun x hx => hz x (hZm x (.inr (.inr (.inr hx))))
  refine ⟨fun x hx => ?_, kb, mb, pv, kv, vals.set k v, pvs, ?_, hkr, ?_, ?_, ?_, ?_, ?_, p.ne, p.rm, fun b hb => .inl (hZm b hb), ⟨p.ok.size, ?_, fun x hx => ?_, fun q hq => ?_, p.ok.armed, p.ok.few, p.ok.writes, p.ok.reads⟩⟩
  · rcases hx with hx | hx
    · exact Nat.lt_of_lt_of_le (hz x hx) hsp.size
    · exact hx.2
  · show w5.heap[d]? = some (.cells #[.bool st.off, .int .i64 st.armed, kv, .int .i64 st.size, .slice (some ⟨kb, 0, none⟩) (st.kept.set k l).length (st.kept.set k l).length, pv, .map (some mb), .int .i64 st.writes, .int .i64 st.reads] 37 (0, 0))
    rw [List.length_set]
    exact grown_at p.row hsp p.ne.1
  · refine All2.set (p.kvals.imp fun v l h => h.at hmut (fun _ _ h => h) (fun _ h => .inl h)) k (.inr ⟨g, 0, l.length, c, hvs, hrd, hl0, fun hm => ?_, .inr ⟨hB, hlt⟩⟩)
    have := hz g (hZm g hm)
    omega
  · exact ownsRow_at p.prow (fun x hx => hsp.block x (hpl x hx) (fun e => (p.rm x hx).2.1 (Option.some.inj e)))
  · exact p.pvals.imp fun v l h => h.at hmut (fun _ _ h => h) (fun _ h => .inl h)
  · exact p.map.at (hsp.block mb (hz mb (hZm mb (.inr (.inr (.inl rfl))))) (fun e => p.ne.2.2 (Option.some.inj e).symm))
  · exact p.keep.at hmut (fun _ _ h => h) (fun _ h => .inl h)
  · show 1 ≤ (st.kept.set k l).length ∧ (st.kept.set k l).length ≤ 65536
    rw [List.length_set]; exact p.ok.n
  · rcases List.mem_or_eq_of_mem_set (show x ∈ st.kept.set k l from hx) with h | h
    · exact p.ok.kept x h
    · rw [h]; exact hl
  · have := p.ok.pend q hq
    refine ⟨this.1, this.2.1, ?_⟩
    show q.1 < ((st.kept.set k l).length : Int)
    rw [List.length_set]
    exact this.2.2
set_option linter.unusedSimpArgs false in
set_option linter.unusedVariables false in
set_option maxRecDepth 100000 in
set_option maxHeartbeats 2000000 in
theorem of_no (a : Option Addr) (n c : Nat) (l : List Int) (z : Int) (w : World) (hr : RdAt .u8 w a n c l) (hn : n ≤ 32768) (hz1 : -9223372036854775808 ≤ z) (hz2 : z ≤ 9223372036854775807) (h : z < 1 ∨ (n : Int) % z ≠ 0) :
    Calls Try.prog 22 #[.slice a n c, .int .i64 z] w fun e w' => e = .returned (.tuple #[.pointer none, .int .i64 1]) ∧ Below w.heap.size w w' := by
  by_cases h0 : z < 1
  · have d0 : decide (z < 1) = true := decide_eq_true h0
    clear hr
    go_enter Try.func22, Try.ntmps22
    go_wp2
    go_ret2
    exact ⟨rfl, Below.refl _ _⟩
  · have d0 : decide (z < 1) = false := decide_eq_false h0
    have h1 : (n : Int) % z ≠ 0 := h.resolve_left h0
    obtain ⟨r, hr1⟩ : ∃ r, (n : Int) % z = r := ⟨_, rfl⟩
    have hb1 : 0 ≤ r := by rw [← hr1]; exact Int.emod_nonneg _ (by omega)
    have hb2 : r < z := by rw [← hr1]; exact Int.emod_lt_of_pos _ (by omega)
    have m1 : Int.tmod (n : Int) z = r := by rw [Int.tmod_eq_emod_of_nonneg (by omega), hr1]
    have m2 : IntKind.i64.wrap r = r := by rw [IntKind.wrap_i64]; omega
    have d1 : decide (z = 0) = false := decide_eq_false (by omega)
    have d2 : decide (r = 0) = false := decide_eq_false (by rw [← hr1]; exact h1)
    have hz0 : z ≠ 0 := by omega
    have hr0 : r ≠ 0 := by rw [← hr1]; exact h1
    have d3 : (r == 0) = false := by simpa using hr0
    clear hr hr1 h h1
    go_enter Try.func22, Try.ntmps22
    go_wp2
    all_goals
      go_ret2
      exact ⟨rfl, Below.refl _ _⟩
set_option linter.unusedSimpArgs false in
set_option linter.unusedVariables false in
set_option maxRecDepth 100000 in
set_option maxHeartbeats 2000000 in
theorem of_bad (a : Option Addr) (n c : Nat) (l : List Int) (s : Nat) (w : World) (hr : RdAt .u8 w a n c l) (hn : n ≤ 32768) (hs1 : 1 ≤ s) (hs2 : (s : Int) ≤ 9223372036854775807) (hm : n % s = 0) (hb : rightB ((n / s : Nat) : Int) s = false) :
    Calls Try.prog 22 #[.slice a n c, .int .i64 s] w fun e w' => e = .returned (.tuple #[.pointer none, .int .i64 1]) ∧ Below w.heap.size w w' := by
  obtain ⟨q, hq⟩ : ∃ q, n / s = q := ⟨_, rfl⟩
  have hnq : n = q * s := by rw [← hq]; exact (Nat.div_mul_cancel (Nat.dvd_of_mod_eq_zero hm)).symm
  have m1 : Int.tmod (n : Int) (s : Int) = 0 := by rw [Int.tmod_eq_emod_of_nonneg (by omega)]; omega
  have m2 : Int.tdiv (n : Int) (s : Int) = (q : Int) := by rw [Int.tdiv_eq_ediv_of_nonneg (by omega), ← hq]; rfl
  have hqn : q ≤ n := by rw [← hq]; exact Nat.div_le_self _ _
  have m3 : IntKind.i64.wrap (q : Int) = q := by rw [IntKind.wrap_i64]; omega
  have d0 : decide ((s : Int) < 1) = false := decide_eq_false (by omega)
  have d1 : decide ((s : Int) = 0) = false := decide_eq_false (by omega)
  have hz0 : (s : Int) ≠ 0 := by omega
  rw [hq] at hb
  have HB := Lib.hid hb
  clear hr hq hnq hb hm
  go_enter Try.func22, Try.ntmps22
  go_wp2_with fail
  all_goals
    refine (new_no _ _ _ HB.out).mono ?_
    rintro e w1 ⟨rfl, rfl⟩
    go_wp2_with fail
    go_ret2
    exact ⟨rfl, Below.refl _ _⟩
set_option linter.unusedSimpArgs false in
set_option linter.unusedVariables false in
set_option maxRecDepth 100000 in
set_option maxHeartbeats 2000000 in
theorem of_any (a : Option Addr) (n c : Nat) (l : List Int) (s : Nat) (w : World) (hr : RdAt .u8 w a n c l) (hn : n ≤ 32768) (hs1 : 1 ≤ s) (hs2 : (s : Int) ≤ 9223372036854775807) (hm : n % s = 0) (hb : rightB ((n / s : Nat) : Int) s = true) :
    Calls Try.prog 22 #[.slice a n c, .int .i64 s] w fun e w' => ∃ d Z, e = .returned (.tuple #[.pointer (some ⟨d, 0, none⟩), .int .i64 0]) ∧ DkB w w' d Z (ofS l (n / s) s (n / s)) := by
  obtain ⟨q, hq⟩ : ∃ q, n / s = q := ⟨_, rfl⟩
  have hnq : n = q * s := by rw [← hq]; exact (Nat.div_mul_cancel (Nat.dvd_of_mod_eq_zero hm)).symm
  have m1 : Int.tmod (n : Int) (s : Int) = 0 := by rw [Int.tmod_eq_emod_of_nonneg (by omega)]; omega
  have m2 : Int.tdiv (n : Int) (s : Int) = (q : Int) := by rw [Int.tdiv_eq_ediv_of_nonneg (by omega), ← hq]; rfl
  have hqn : q ≤ n := by rw [← hq]; exact Nat.div_le_self _ _
  have m3 : IntKind.i64.wrap (q : Int) = q := by rw [IntKind.wrap_i64]; omega
  have d0 : decide ((s : Int) < 1) = false := decide_eq_false (by omega)
  have d1 : decide ((s : Int) = 0) = false := decide_eq_false (by omega)
  have hz0 : (s : Int) ≠ 0 := by omega
  rw [hq] at hb ⊢
  have HB := Lib.hid hb
  have HR := Lib.hid hr
  have HNQ := Lib.hid hnq
  clear hr hq hb hm hnq
  go_enter Try.func22, Try.ntmps22
  go_wp2_with fail
  all_goals
    refine (new_any q s w HB.out).mono ?_
    rintro e w1 ⟨d, Z, rfl, hd1, hz1, hb1⟩
    have D1 : Hid (DkB w w1 d Z (ofS l q s 0)) := by
      have := DkB.mk hd1 hz1 hb1
      unfold ofS
      rw [ofK_0]
      exact this
    have hd1' := hd1
    obtain ⟨_, kb, mb, pv, kv, vals, pvs, p⟩ := hd1'
    obtain ⟨c0, c1, c2, c3, c4, c5, c6, c7, c8, cf⟩ := cellsD p.row
    replace c4 : w1.cell? ⟨d, 4, none⟩ = some (.slice (some ⟨kb, 0, none⟩) q q) := by
      rw [c4]
      show some (Value.slice _ (List.replicate q _).length (List.replicate q _).length) = _
      rw [List.length_replicate]
    clear hd1 hz1 hb1 p
    go_wp2_with fail
    go_loopw [35] (fun i wr => ∃ (k : Nat) (Z : Nat → Prop), k ≤ q ∧ i = .int .i64 k ∧ Hid (DkB w wr d Z (ofS l q s k))) (fun i _ => q - (intOf i).toNat)
    case atStart => exact ⟨0, Z, by omega, rfl, D1⟩
    case round =>
      clear D1 c0 c1 c2 c3 c4 c5 c6 c7 c8 cf
      obtain ⟨k, Z, hk, rfl, D4⟩ := hrel
      by_cases hkm : k < q
      · have dkm : decide ((k : Int) < q) = true := decide_eq_true (by omega)
        obtain ⟨hz4, kb, mb, pv, kv, vals, pvs, p⟩ := D4.out.din
        have P4 := Lib.hid p
        have hsz := p.ok.size
        replace hsz : 64 ≤ s ∧ s ≤ 4096 := hsz
        have hvl : vals.length = q := by rw [p.kvals.1]; exact ofK_len l q s k
        have HVL : Hid (k < vals.length) := by show k < _; rw [hvl]; exact hkm
        have hrow9 : wr.drew.heap[d]? = some (.cells #[.bool false, .int .i64 0, kv, .int .i64 s, .slice (some ⟨kb, 0, none⟩) q q, pv, .map (some mb), .int .i64 0, .int .i64 0] 37 (0, 0)) := by
          have := p.row
          rw [show (ofS l q s k).kept.length = q from ofK_len l q s k] at this
          exact this
        have hkr9 : wr.drew.heap[kb]? = some (.cells vals.toArray 22 (0, 0)) := p.krow
        have hkB : ∀ x, some kb = some x → x < wr.heap.size := fun x hx => by injection hx with hx; subst hx; exact hz4 _ (p.z _ (.inr (.inl rfl)))
        have hB9 : wr.grownBy wr.drew (some kb) := ⟨rfl, rfl, rfl, Nat.le_refl _, fun _ _ _ => rfl⟩
        clear p hvl
        obtain ⟨lo, hlo⟩ : ∃ lo, k * s = lo := ⟨_, rfl⟩
        obtain ⟨hi, hhi⟩ : ∃ hi, lo + s = hi := ⟨_, rfl⟩
        have hin : hi ≤ n := by
          rw [HNQ.out, ← hhi, ← hlo, ← Nat.succ_mul]
          exact Nat.mul_le_mul_right _ hkm
        obtain ⟨fb, fo, hfa, hfc⟩ := HR.out.cell 0 (by omega)
        subst hfa
        have hrd9 : RdAt .u8 wr.drew (some ⟨fb, fo + lo, none⟩) s (c - lo) (chunk l s k) := by
          have := rd_chunk (HR.out.below (D4.out.below.trans (Below.refl _ _))) lo s (by omega)
          unfold chunk
          rw [hlo]
          exact this.at0 rfl
        have hcap := HR.out.cap
        have g1 : (k : Int) * (s : Int) = (lo : Int) := by rw [← hlo, Int.natCast_mul]
        have g2 : IntKind.i64.wrap (lo : Int) = lo := by rw [IntKind.wrap_i64]; omega
        have g3 : IntKind.i64.wrap ((k : Int) + 1) = (k : Int) + 1 := by rw [IntKind.wrap_i64]; omega
        have g4 : ((k : Int) + 1) * (s : Int) = (hi : Int) := by rw [Int.add_mul, g1, ← hhi]; omega
        have g5 : IntKind.i64.wrap (hi : Int) = hi := by rw [IntKind.wrap_i64]; omega
        have g6 : hi - lo = s := by omega
        have g7 : ¬ c = lo := by omega
        have g8 : hi ≤ c := by omega
        have g9 : lo ≤ hi := by omega
        have g10 : ((hi : Int) ≤ c) := by omega
        have g11 : ((lo : Int) ≤ hi) := by omega
        have HS9 : Hid (s ≤ 1000000000) := by show s ≤ _; omega
        have HHI := Lib.hid hhi
        have HLO := Lib.hid hlo
        have HIN := Lib.hid hin
        clear hfc hhi hlo hin
        go_wp2_with fail
        refine' reg_order [eqV _, eqV _, eqV _, eqV _, eqV _, eqV _, eqV _, eqV _, eqV _, eqV _, eqV _, eqV _, eqV _, eqV _, (PF7 wr.heap.size (chunk l s k)), eqV _, (fun _ w => ∃ v, w.heap[kb]? = some (.cells (vals.set k v).toArray 22 (0, 0)) ∧ PF7 wr.heap.size (chunk l s k) v w)] [(16, fun w w' => World.grownBy w w' (some kb))] [(3, fun w => w.heap[d]? = some (.cells #[.bool false, .int .i64 0, kv, .int .i64 s, .slice (some ⟨kb, 0, none⟩) q q, pv, .map (some mb), .int .i64 0, .int .i64 0] 37 (0, 0))), (14, fun w => RdAt .u8 w (some ⟨fb, fo + lo, none⟩) s (c - lo) (chunk l s k) ∧ wr.heap.size ≤ w.heap.size), (16, fun w => w.heap[kb]? = some (.cells vals.toArray 22 (0, 0))), (17, fun w => World.grownBy wr w (some kb))] [38, 39, 40, 41, 42, 43, 44, 45, 46, 47, 48, 49, 50, 51, 52, 53, 72] [[], [0], [1], [2], [], [], [], [], [6, 7], [], [9], [], [10, 11], [5, 8, 12], [13], [3, 4], [14, 15]] [0, 1, 2, 3, 4, 5, 6, 7, 8, 9, 10, 11, 12, 13, 14, 15, 16] 17 (by kernel_rfl) ⟨eqV_stays _, eqV_stays _, eqV_stays _, eqV_stays _, eqV_stays _, eqV_stays _, eqV_stays _, eqV_stays _, eqV_stays _, eqV_stays _, eqV_stays _, eqV_stays _, eqV_stays _, eqV_stays _, fun _ _ _ p b => PF7.below p b, eqV_stays _, fun _ _ _ ⟨y, p, z⟩ b => ⟨y, row_keep p b, z.below b⟩, trivial⟩ ⟨⟨.inl (eqV_stays _), .inl (eqV_stays _), .inl (eqV_stays _), .inl (eqV_stays _), .inl (eqV_stays _), .inl (eqV_stays _), .inl (eqV_stays _), .inl (eqV_stays _), .inl (eqV_stays _), .inl (eqV_stays _), .inl (eqV_stays _), .inl (eqV_stays _), .inl (eqV_stays _), .inl (eqV_stays _), .inl (fun _ _ _ p g => PF7.grown p g hkB), .inl (eqV_stays _), .inr (.inr rfl), trivial⟩, trivial⟩ ⟨fun _ _ p b => row_keep p b, fun _ _ p b => ⟨p.1.below b, Nat.le_trans p.2 b.size⟩, fun _ _ p b => row_keep p b, fun _ _ p b => grownB p b, trivial⟩ ⟨⟨.inr (.inl (by kernel_rfl)), .inr (.inl (by kernel_rfl)), .inr (.inr rfl), .inl (fun _ _ p g => World.grownBy.trans p g), trivial⟩, trivial⟩ ⟨hrow9, ⟨hrd9, Nat.le_refl _⟩, hkr9, hB9, trivial⟩ 56 rfl (by kernel_rfl) (by kernel_rfl) rfl rfl 17 rfl ?q1obl ?q1fin
        case q1obl =>
          refine And.intro ?q1o0 (And.intro ?q1o1 (And.intro ?q1o2 (And.intro ?q1o3 (And.intro ?q1o4 (And.intro ?q1o5 (And.intro ?q1o6 (And.intro ?q1o7 (And.intro ?q1o8 (And.intro ?q1o9 (And.intro ?q1o10 (And.intro ?q1o11 (And.intro ?q1o12 (And.intro ?q1o13 (And.intro ?q1o14 (And.intro ?q1o15 (And.intro ?q1o16 (True.intro)))))))))))))))))
          case q1o0 =>
            intro w1 hI
            refine turn2_on (by rfl) ?_
            intro K hK
            go_simp
            refine hK _ _ ⟨rfl, Kept.refl _, ?_⟩
            show _ = _
            simp only [List.getD_cons_zero, List.getD_cons_succ, Array.getD_eq_getD_getElem?, List.getElem?_toArray, List.getElem?_cons_zero, List.getElem?_cons_succ, Option.getD_some]
            rfl
          case q1o1 =>
            intro w1 hI
            intro v0 h0
            change _ = _ at h0
            subst v0
            refine turn2_on (by rfl) ?_
            intro K hK
            simp only [List.getD_cons_zero, List.getD_cons_succ, List.setIfInBounds_toArray, List.set_cons_zero, List.set_cons_succ]
            go_simp
            refine hK _ _ ⟨rfl, Kept.refl _, ?_⟩
            show _ = _
            simp only [List.getD_cons_zero, List.getD_cons_succ, Array.getD_eq_getD_getElem?, List.getElem?_toArray, List.getElem?_cons_zero, List.getElem?_cons_succ, Option.getD_some]
            rfl
          case q1o2 =>
            intro w1 hI
            intro v1 h1
            change _ = _ at h1
            subst v1
            refine turn2_on (by rfl) ?_
            intro K hK
            simp only [List.getD_cons_zero, List.getD_cons_succ, List.setIfInBounds_toArray, List.set_cons_zero, List.set_cons_succ]
            go_simp
            refine hK _ _ ⟨rfl, Kept.refl _, ?_⟩
            show _ = _
            simp only [List.getD_cons_zero, List.getD_cons_succ, Array.getD_eq_getD_getElem?, List.getElem?_toArray, List.getElem?_cons_zero, List.getElem?_cons_succ, Option.getD_some]
            rfl
          case q1o3 =>
            intro w1 hI
            replace hI : (fun w => w.heap[d]? = some (.cells #[.bool false, .int .i64 0, kv, .int .i64 s, .slice (some ⟨kb, 0, none⟩) q q, pv, .map (some mb), .int .i64 0, .int .i64 0] 37 (0, 0))) w1 := hI
            intro v2 h2
            change _ = _ at h2
            subst v2
            refine turn2_on (by rfl) ?_
            intro K hK
            simp only [List.getD_cons_zero, List.getD_cons_succ, List.setIfInBounds_toArray, List.set_cons_zero, List.set_cons_succ]
            obtain ⟨c0, c1, c2, c3, c4, c5, c6, c7, c8, cf⟩ := cellsD hI
            go_simp
            refine hK _ _ ⟨rfl, Kept.refl _, ?_⟩
            show _ = _
            simp only [List.getD_cons_zero, List.getD_cons_succ, Array.getD_eq_getD_getElem?, List.getElem?_toArray, List.getElem?_cons_zero, List.getElem?_cons_succ, Option.getD_some]
            rfl
          case q1o4 =>
            intro w1 hI
            refine turn2_on (by rfl) ?_
            intro K hK
            go_simp
            refine hK _ _ ⟨rfl, Kept.refl _, ?_⟩
            show _ = _
            simp only [List.getD_cons_zero, List.getD_cons_succ, Array.getD_eq_getD_getElem?, List.getElem?_toArray, List.getElem?_cons_zero, List.getElem?_cons_succ, Option.getD_some]
            rfl
          case q1o5 =>
            intro w1 hI
            refine turn2_on (by rfl) ?_
            intro K hK
            go_simp
            refine hK _ _ ⟨rfl, Kept.refl _, ?_⟩
            show _ = _
            simp only [List.getD_cons_zero, List.getD_cons_succ, Array.getD_eq_getD_getElem?, List.getElem?_toArray, List.getElem?_cons_zero, List.getElem?_cons_succ, Option.getD_some]
            rfl
          case q1o6 =>
            intro w1 hI
            refine turn2_on (by rfl) ?_
            intro K hK
            go_simp
            refine hK _ _ ⟨rfl, Kept.refl _, ?_⟩
            show _ = _
            simp only [List.getD_cons_zero, List.getD_cons_succ, Array.getD_eq_getD_getElem?, List.getElem?_toArray, List.getElem?_cons_zero, List.getElem?_cons_succ, Option.getD_some]
            rfl
          case q1o7 =>
            intro w1 hI
            refine turn2_on (by rfl) ?_
            intro K hK
            go_simp
            refine hK _ _ ⟨rfl, Kept.refl _, ?_⟩
            show _ = _
            simp only [List.getD_cons_zero, List.getD_cons_succ, Array.getD_eq_getD_getElem?, List.getElem?_toArray, List.getElem?_cons_zero, List.getElem?_cons_succ, Option.getD_some]
            rfl
          case q1o8 =>
            intro w1 hI
            intro v6 h6
            change _ = _ at h6
            subst v6
            intro v7 h7
            change _ = _ at h7
            subst v7
            refine turn2_on (by rfl) ?_
            intro K hK
            simp only [List.getD_cons_zero, List.getD_cons_succ, List.setIfInBounds_toArray, List.set_cons_zero, List.set_cons_succ]
            go_simp
            refine hK _ _ ⟨rfl, Kept.refl _, ?_⟩
            show _ = _
            simp only [List.getD_cons_zero, List.getD_cons_succ, Array.getD_eq_getD_getElem?, List.getElem?_toArray, List.getElem?_cons_zero, List.getElem?_cons_succ, Option.getD_some]
            rfl
          case q1o9 =>
            intro w1 hI
            refine turn2_on (by rfl) ?_
            intro K hK
            go_simp
            refine hK _ _ ⟨rfl, Kept.refl _, ?_⟩
            show _ = _
            simp only [List.getD_cons_zero, List.getD_cons_succ, Array.getD_eq_getD_getElem?, List.getElem?_toArray, List.getElem?_cons_zero, List.getElem?_cons_succ, Option.getD_some]
            rfl
          case q1o10 =>
            intro w1 hI
            intro v9 h9
            change _ = _ at h9
            subst v9
            refine turn2_on (by rfl) ?_
            intro K hK
            simp only [List.getD_cons_zero, List.getD_cons_succ, List.setIfInBounds_toArray, List.set_cons_zero, List.set_cons_succ]
            go_simp
            refine hK _ _ ⟨rfl, Kept.refl _, ?_⟩
            show _ = _
            simp only [List.getD_cons_zero, List.getD_cons_succ, Array.getD_eq_getD_getElem?, List.getElem?_toArray, List.getElem?_cons_zero, List.getElem?_cons_succ, Option.getD_some]
            rfl
          case q1o11 =>
            intro w1 hI
            refine turn2_on (by rfl) ?_
            intro K hK
            go_simp
            refine hK _ _ ⟨rfl, Kept.refl _, ?_⟩
            show _ = _
            simp only [List.getD_cons_zero, List.getD_cons_succ, Array.getD_eq_getD_getElem?, List.getElem?_toArray, List.getElem?_cons_zero, List.getElem?_cons_succ, Option.getD_some]
            rfl
          case q1o12 =>
            intro w1 hI
            intro v10 h10
            change _ = _ at h10
            subst v10
            intro v11 h11
            change _ = _ at h11
            subst v11
            refine turn2_on (by rfl) ?_
            intro K hK
            simp only [List.getD_cons_zero, List.getD_cons_succ, List.setIfInBounds_toArray, List.set_cons_zero, List.set_cons_succ]
            go_simp
            refine hK _ _ ⟨rfl, Kept.refl _, ?_⟩
            show _ = _
            simp only [List.getD_cons_zero, List.getD_cons_succ, Array.getD_eq_getD_getElem?, List.getElem?_toArray, List.getElem?_cons_zero, List.getElem?_cons_succ, Option.getD_some]
            rfl
          case q1o13 =>
            intro w1 hI
            intro v5 h5
            change _ = _ at h5
            subst v5
            intro v8 h8
            change _ = _ at h8
            subst v8
            intro v12 h12
            change _ = _ at h12
            subst v12
            refine turn2_on (by rfl) ?_
            intro K hK
            simp only [List.getD_cons_zero, List.getD_cons_succ, List.setIfInBounds_toArray, List.set_cons_zero, List.set_cons_succ]
            go_simp
            refine hK _ _ ⟨rfl, Kept.refl _, ?_⟩
            show _ = _
            simp only [List.getD_cons_zero, List.getD_cons_succ, Array.getD_eq_getD_getElem?, List.getElem?_toArray, List.getElem?_cons_zero, List.getElem?_cons_succ, Option.getD_some]
            rfl
          case q1o14 =>
            intro w1 hI
            replace hI : (fun w => RdAt .u8 w (some ⟨fb, fo + lo, none⟩) s (c - lo) (chunk l s k) ∧ wr.heap.size ≤ w.heap.size) w1 := hI
            intro v13 h13
            change _ = _ at h13
            subst v13
            refine turn2_on (by rfl) ?_
            intro K hK
            simp only [List.getD_cons_zero, List.getD_cons_succ, List.setIfInBounds_toArray, List.set_cons_zero, List.set_cons_succ]
            obtain ⟨hI, hwz⟩ := hI
            go_simp
            refine Calls.mono (clone_any _ _ _ _ _ hI HS9.out) ?_
            rintro e w9 ⟨v9, rfl, ho9, hb9⟩
            refine hK _ _ ⟨rfl, hb9, ?_⟩
            show PF7 _ _ _ _
            simp only [List.getD_cons_zero, List.getD_cons_succ, Array.getD_eq_getD_getElem?, List.getElem?_toArray, List.getElem?_cons_zero, List.getElem?_cons_succ, Option.getD_some]
            exact Owns.mono ho9 hwz
          case q1o15 =>
            intro w1 hI
            intro v3 h3
            change _ = _ at h3
            subst v3
            intro v4 h4
            change _ = _ at h4
            subst v4
            refine turn2_on (by rfl) ?_
            intro K hK
            simp only [List.getD_cons_zero, List.getD_cons_succ, List.setIfInBounds_toArray, List.set_cons_zero, List.set_cons_succ]
            go_simp
            refine hK _ _ ⟨rfl, Kept.refl _, ?_⟩
            show _ = _
            simp only [List.getD_cons_zero, List.getD_cons_succ, Array.getD_eq_getD_getElem?, List.getElem?_toArray, List.getElem?_cons_zero, List.getElem?_cons_succ, Option.getD_some]
            rfl
          case q1o16 =>
            intro w1 hI
            replace hI : (fun w => w.heap[kb]? = some (.cells vals.toArray 22 (0, 0))) w1 := hI
            intro v14 h14
            intro v15 h15
            change _ = _ at h15
            subst v15
            refine turn2_on (by rfl) ?_
            intro K hK
            simp only [List.getD_cons_zero, List.getD_cons_succ, List.setIfInBounds_toArray, List.set_cons_zero, List.set_cons_succ]
            have hkc : w1.cell? ⟨kb, k, none⟩ = some (vals[k]'HVL.out) := by rw [cell_of_row w1 _ _ _ _ _ hI]; simp [HVL.out]
            have hkf := frozen_of_row w1 _ k _ _ hI
            obtain ⟨a14, c14, hv14⟩ := Owns.shape h14
            subst hv14
            go_simp
            refine hK _ _ ⟨rfl, put_grown _ _ _ _, ?_⟩
            exact ⟨_, by rw [heap_setCell_same _ kb k _ _ _ hI]; simp, PF7.grown h14 (put_grown _ _ _ _) hkB⟩
        intro w1 hI
        replace hI : (fun w => World.grownBy wr w (some kb)) w1 := hI
        intro v0 h0
        change _ = _ at h0
        subst v0
        intro v1 h1
        change _ = _ at h1
        subst v1
        intro v2 h2
        change _ = _ at h2
        subst v2
        intro v3 h3
        change _ = _ at h3
        subst v3
        intro v4 h4
        change _ = _ at h4
        subst v4
        intro v5 h5
        change _ = _ at h5
        subst v5
        intro v6 h6
        change _ = _ at h6
        subst v6
        intro v7 h7
        change _ = _ at h7
        subst v7
        intro v8 h8
        change _ = _ at h8
        subst v8
        intro v9 h9
        change _ = _ at h9
        subst v9
        intro v10 h10
        change _ = _ at h10
        subst v10
        intro v11 h11
        change _ = _ at h11
        subst v11
        intro v12 h12
        change _ = _ at h12
        subst v12
        intro v13 h13
        change _ = _ at h13
        subst v13
        intro v14 h14
        intro v15 h15
        change _ = _ at h15
        subst v15
        intro v16 h16
        simp only [Given, List.getD_cons_zero, List.getD_cons_succ, List.setIfInBounds_toArray, List.set_cons_zero, List.set_cons_succ]
        obtain ⟨v, hkr5, hpf⟩ := h16
        have hgr := hI
        have HKR5 := Lib.hid hkr5
        have HPF := Lib.hid hpf
        have HGR := Lib.hid hgr
        clear hI hkr5 hpf hgr hrow9 hkr9 hrd9 hB9
        have D5 : ∀ w9 : World, w9 = w1 → Hid (DkB w w9 d (fun x => Z x ∨ (wr.heap.size ≤ x ∧ x < w9.heap.size)) (ofS l q s (k + 1))) := by
          rintro w9 rfl
          have hin := DkIn.lay P4.out hz4 k (chunk l s k) (by
            show (chunk l s k).length = s
            unfold chunk
            rw [List.length_take, List.length_drop, HR.out.len]
            have := HIN.out
            have := HHI.out
            have := HLO.out
            omega) v HPF.out HGR.out HKR5.out
          have he : ({ ofS l q s k with kept := (ofS l q s k).kept.set k (chunk l s k) } : Dk) = ofS l q s (k + 1) := by
            show ({ ofS l q s k with kept := (ofK l q s k).set k (chunk l s k) } : Dk) = _
            rw [ofK_set l q s k hkm]
            rfl
          rw [he] at hin
          refine D4.out.turn hin ⟨HGR.out.os, HGR.out.tape, HGR.out.output, HGR.out.size, fun x hx hzx => HGR.out.block x hx (fun e => hzx (by rw [Option.some.inj e]; exact P4.out.z kb (.inr (.inl rfl)))), fun x hx => hx.imp id (·.1)⟩
        go_wp2_with fail
        go_roundw
        case rel => exact ⟨k + 1, _, by omega, by go_num, D5 _ rfl⟩
        case measure => simp [intOf] <;> omega
      · obtain rfl : k = q := by omega
        go_wp2_with fail
        go_ret2
        exact ⟨d, Z, rfl, D4.out⟩
end Go.Proofs.Ytpgncmoagmkcmaa
