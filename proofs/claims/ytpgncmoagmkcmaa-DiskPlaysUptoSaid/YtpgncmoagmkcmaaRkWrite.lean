/- disk: the reference's Write. -/
import Derived.Test.YtpgncmoagmkcmaaRkRead
namespace Go.Proofs.Ytpgncmoagmkcmaa
open Go.RowKit
def RF9 (B : Nat) (s : Int) (l : List Int) (v : Value) (w : World) : Prop := ∃ q vb, v = .slice (some ⟨q, 0, none⟩) 1 1 ∧ B ≤ q ∧ w.heap[q]? = some (.cells #[.int .i64 s, vb] 85 (0, 0)) ∧ PF7 B l vb w
def RF10 (B : Nat) (s : Int) (l : List Int) (pv : Value) (xs : List Value) (n : Nat) (v : Value) (w : World) : Prop :=
  ∃ vb, w.ownsRow 0 85 2 v n (xs ++ [.int .i64 s, vb]) ∧ PF7 B l vb w ∧ (v.ownBlock = pv.ownBlock ∨ ∃ q, v.ownBlock = some q ∧ B ≤ q) ∧ (∀ g, v.ownBlock = some g → g < w.heap.size ∧ room vb ≠ some g)
theorem RF9.below {B : Nat} {s : Int} {l : List Int} {v : Value} {w w' : World} (h : RF9 B s l v w) (b : Below w.heap.size w w') : RF9 B s l v w' := by
  obtain ⟨q, vb, h1, h2, h3, h4⟩ := h
  exact ⟨q, vb, h1, h2, row_keep h3 b, h4.below b⟩
theorem RF9.grown {B : Nat} {s : Int} {l : List Int} {v : Value} {w w' : World} {row : Option Nat} (h : RF9 B s l v w) (g : w.grownBy w' row) (hr : ∀ x, row = some x → x < B) : RF9 B s l v w' := by
  obtain ⟨q, vb, h1, h2, h3, h4⟩ := h
  exact ⟨q, vb, h1, h2, by rw [g.block q (Array.getElem?_eq_some_iff.1 h3).1 (fun e => by have := hr q e.symm; omega)]; exact h3, h4.grown g hr⟩
theorem RF10.below {B : Nat} {s : Int} {l : List Int} {pv : Value} {xs : List Value} {n : Nat} {v : Value} {w w' : World} (h : RF10 B s l pv xs n v w) (b : Below w.heap.size w w') : RF10 B s l pv xs n v w' := by
  obtain ⟨vb, h1, h2, h3, h4⟩ := h
  exact ⟨vb, ownsRow_at h1 (fun g hg => b.block g (h4 g hg).1), h2.below b, h3, fun g hg => ⟨Nat.lt_of_lt_of_le (h4 g hg).1 b.size, (h4 g hg).2⟩⟩
theorem RF10.grown {B : Nat} {s : Int} {l : List Int} {pv : Value} {xs : List Value} {n d : Nat} {v : Value} {w w' : World} (h : RF10 B s l pv xs n v w) (g : w.grownBy w' (some d)) (hd : d < B) (hpd : pv.ownBlock ≠ some d) : RF10 B s l pv xs n v w' := by
  obtain ⟨vb, h1, h2, h3, h4⟩ := h
  refine ⟨vb, ownsRow_at h1 (fun x hx => g.block x (h4 x hx).1 (fun e => ?_)), h2.grown g (fun x hx => by injection hx with hx; omega), h3, fun x hx => ⟨Nat.lt_of_lt_of_le (h4 x hx).1 g.size, (h4 x hx).2⟩⟩
  injection e with e
  subst e
  rcases h3 with h3 | ⟨q, hq, hB⟩
  · exact hpd (by rw [← h3]; exact hx)
  · rw [hx] at hq
    injection hq with hq
    omega
/-- The cells of a write's append. -/
theorem rwI : (Try.prog.info? 85).map (fun i => (i.zero, i.size, i.bytes)) = some (some (.agg #[.int .i64 0, .slice none 0 0]), 2, 32) := by kernel_rfl
theorem rapp_write {B : Nat} {s : Int} {l : List Int} {pv : Value} {xs : List Value} {n : Nat} {w : World} {v : Value} (h : RF9 B s l v w) (ho : w.ownsRow 0 85 2 pv n xs) (hpv : ∀ g, pv.ownBlock = some g → g < B) (hn : n ≤ 2000000) (ty : TypeId) :
    ∃ v' w', (Builtin.append_ #[59, 59] ty #[pv, v]).run Try.prog w = .ok v' w' ∧ w.grownBy w' pv.ownBlock ∧ RF10 B s l pv xs (n + 1) v' w' := by
  obtain ⟨q, vb, rfl, hq, hrow, hvb⟩ := h
  obtain ⟨i, hi, hz, hs, hb⟩ := info_parts rwI
  obtain ⟨v', w', hrun, h1, h2, _, h3⟩ := run_append_own_at (P := Try.prog) (w := w) 0 59 ty 85 i _ 2 32 Try.underlying59 hi hz hs hb (by rfl) (by omega) pv n xs ho ⟨q, 0, none⟩ 1 1 [.int .i64 s, vb] rfl (fun j u hj => by
      rw [show (Addr.mk q 0 none).add j = ⟨q, j, none⟩ by simp [Addr.add] <;> omega]
      rw [cell_of_row w _ _ _ _ _ hrow]
      simpa using hj) (fun u hu => by
      obtain ⟨a, c, e⟩ := Owns.shape hvb
      simp at hu
      rcases hu with rfl | rfl
      · rfl
      · rw [e]; rfl) (by unfold maxLen; omega) (by omega) (Nat.zero_le _)
  refine ⟨v', w', hrun, h2, vb, h1, hvb.grown h2 hpv, ?_, fun g hg => ?_⟩
  · rcases h3 with h3 | h3
    · exact .inl h3
    · refine .inr ⟨_, h3, ?_⟩
      have := (Array.getElem?_eq_some_iff.1 hrow).1
      omega
  · have hlt : g < w'.heap.size := by
      rcases h1.2 with ⟨e, _⟩ | ⟨g', cap, cur, e, _, hh, _⟩
      · rw [e] at hg; cases hg
      · rw [e] at hg
        injection hg with hg
        rw [← hg]
        exact (Array.getElem?_eq_some_iff.1 hh).1
    refine ⟨hlt, fun e => ?_⟩
    have hb2 := Owns.at_base hvb g e
    rcases h3 with h3 | h3
    · have := hpv g (by rw [← h3]; exact hg)
      omega
    · rw [hg] at h3
      injection h3 with h3
      omega
theorem wp_rapp_write {o : Oper} {t : Array Value} {ds : List Deferred} {K : Act → World → Prop} {Q : Exit → Act → World → Prop} (dd : Tmp) (hd : o.dst = some dd) (x y : Operand)
    (ho : o.op = .call { callee := .builtin .append, args := #[x, y], argTypes := #[59, 59] }) {B : Nat} {s : Int} {l : List Int} {pv : Value} {xs : List Value} {n : Nat} {w : World} {v : Value} (hx : (Act.mk t ds).eval x = pv) (hy : (Act.mk t ds).eval y = v)
    (h : RF9 B s l v w) (hown : w.ownsRow 0 85 2 pv n xs) (hpv : ∀ g, pv.ownBlock = some g → g < B) (hn : n ≤ 2000000)
    (hK : ∀ v' w', w.grownBy w' pv.ownBlock → RF10 B s l pv xs (n + 1) v' w' → K ⟨t.setIfInBounds dd v', ds⟩ w') : Oper.wp Try.prog o ⟨t, ds⟩ w K Q := by
  obtain ⟨v', w', hr, h1, h2⟩ := rapp_write h hown hpv hn o.type
  refine wp_of_run dd hd (v := v') (w' := w') ?_ (hK v' w' h1 h2)
  unfold execOp
  simp only [ho, resolve, invoke, builtin, Sem.run_bind, Sem.run_pure, Result.andThen_ok, List.map_toArray, List.map_cons, List.map_nil, hx, hy, hr]
/-- The reference's disk behind the write. -/
theorem RkP.put {w w5 : World} {Z : Nat → Prop} {r bb : Nat} {pv pv' kv : Value} {pvs : List Value} {st : Dk} (p : RkP w Z r bb pv kv pvs st) (hz : ∀ k, Z k → k < w.heap.size) (s : Int) (l : List Int) (hfit : fitW st s l = true)
    (hsp : ∀ k, k < w.heap.size → k ≠ r → some k ≠ pv.ownBlock → w5.heap[k]? = w.heap[k]?) (hos : w5.os = w.os ∧ w5.tape = w.tape ∧ w5.output = w.output) (hsz : w.heap.size ≤ w5.heap.size)
    (row : w5.heap[r]? = some (.cells #[.int .i64 st.kept.length, .int .i64 st.size, .slice (some ⟨bb, 0, none⟩) st.kept.flatten.length st.kept.flatten.length, pv', .bool st.off, .int .i64 st.armed, kv, .int .i64 (st.writes + 1), .int .i64 st.reads] 61 (0, 0)))
    (hown : RF10 w.heap.size s l pv (pendC st.pend pvs) (st.pend.length + 1) pv' w5) (hfew : st.pend.length + 1 ≤ 1000000) (hwr : st.writes + 1 ≤ 4611686018427387904) :
    ∃ Z', RkIn w5 Z' r { st with pend := st.pend ++ [(s, l)], writes := st.writes + 1 } ∧ Tnd Z Z' w w5 := by
  obtain ⟨vb, h1, h2, h3, h4⟩ := hown
  have hf : 0 ≤ s ∧ s < st.kept.length ∧ l.length = st.size := by
    unfold fitW at hfit
    simp only [Bool.and_eq_true, decide_eq_true_eq] at hfit
    exact ⟨hfit.1.1, hfit.1.2, hfit.2⟩
  have hl0 : 0 < l.length := by have := p.ok.size; omega
  obtain ⟨g, c, hv, hrm, hrd, hB, hlt⟩ := Owns.slc h2 hl0
  have hZm := p.z
  have hdl := hz r (hZm r (.inl rfl))
  have hbl := hz bb (hZm bb (.inr (.inl rfl)))
  have hmut : ∀ x, Z x → ¬ MutR r bb pv x → w5.heap[x]? = w.heap[x]? := fun x hx hm => hsp x (hz x hx) (fun e => hm (.inl e)) (fun e => hm (.inr (.inr e.symm)))
  have hM : ∀ x, Z x → ¬ MutR r bb pv x → ¬ MutR r bb pv' x := fun x hx hm h => by
    rcases h with h | h | h
    · exact hm (.inl h)
    · exact hm (.inr (.inl h))
    · rcases h3 with h3 | ⟨q, hq, hqB⟩
      · exact hm (.inr (.inr (by rw [← h3]; exact h)))
      · rw [h] at hq
        injection hq with hq
        have := hz x hx
        omega
  have hM2 : ∀ x, pv'.ownBlock = some x → (pv.ownBlock = some x ∨ w.heap.size ≤ x) := fun x hx => by
    rcases h3 with h3 | ⟨q, hq, hqB⟩
    · exact .inl (by rw [← h3]; exact hx)
    · rw [hx] at hq
      injection hq with hq
      exact .inr (by omega)
  refine ⟨fun k => Z k ∨ (w.heap.size ≤ k ∧ k < w5.heap.size), ⟨fun k hk => ?_, bb, pv', kv, pvs ++ [vb], row, ?_, p.bwf, ?_, ?_, ?_, p.ne, ?_, ?_, ?_⟩, hos.1, hos.2.1, hos.2.2, hsz, fun k hk hzk => ?_, fun k hk => hk.imp id (·.1)⟩
  · rcases hk with hk | hk
    · have := hz k hk; omega
    · exact hk.2
  · rw [hsp bb hbl p.ne.symm (fun e => (p.rm bb e.symm).2 rfl)]
    exact p.brow
  · show w5.ownsRow 0 _ 2 pv' (st.pend ++ [(s, l)]).length (pendC (st.pend ++ [(s, l)]) (pvs ++ [vb]))
    rw [pendC_snoc s l vb p.pvals.1, List.length_append, List.length_singleton]
    exact h1
  · refine (p.pvals.imp fun v l h => h.at hmut hM (fun _ h => .inl h)).snoc ⟨g, 0, l.length, c, hv, hrd, hl0, fun hm => ?_, .inr ⟨hB, hlt⟩⟩
    rcases hm with e | e | e
    · omega
    · omega
    · exact (h4 g e).2 hrm
  · exact p.keep.at hmut hM (fun _ h => .inl h)
  · intro x hx
    rcases hM2 x hx with h | h
    · exact p.rm x h
    · omega
  · intro x hx
    rcases hx with h | h | h
    · exact .inl (hZm x (.inl h))
    · exact .inl (hZm x (.inr (.inl h)))
    · rcases hM2 x h with h' | h'
      · exact .inl (hZm x (.inr (.inr h')))
      · exact .inr ⟨h', (h4 x h).1⟩
  · refine ⟨p.ok.size, p.ok.n, p.ok.kept, fun q hq => ?_, p.ok.armed, ?_, ?_, p.ok.reads⟩
    · rcases List.mem_append.1 (show q ∈ st.pend ++ [(s, l)] from hq) with h | h
      · exact p.ok.pend q h
      · simp at h
        rw [h]; exact ⟨hf.2.2, hf.1, hf.2.1⟩
    · show (st.pend ++ [(s, l)]).length ≤ 1000000
      rw [List.length_append, List.length_singleton]; exact hfew
    · have := p.ok.writes
      show 0 ≤ st.writes + 1 ∧ st.writes + 1 ≤ _
      omega
  · exact hsp k hk (fun e => hzk (by rw [e]; exact hZm r (.inl rfl))) (fun e => hzk (hZm k (.inr (.inr e.symm))))
set_option linter.unusedSimpArgs false in
set_option linter.unusedVariables false in
set_option maxRecDepth 100000 in
set_option maxHeartbeats 4000000 in
theorem rwrite_put (Z : Nat → Prop) (r : Nat) (st : Dk) (s : Int) (a : Option Addr) (n c : Nat) (l : List Int) (w : World) (h : RkIn w Z r st) (hr : RdAt .u8 w a n c l) (hnz : ∀ x, a = some x → ¬ Z x.block) (hs1 : -9223372036854775808 ≤ s) (hs2 : s ≤ 9223372036854775807) (hfew : st.pend.length + 1 ≤ 1000000) (hwr : st.writes + 1 ≤ 4611686018427387904)
    (ho : st.off = false) (hf : fitW st s l = true) (ha1 : st.armed ≠ 1) :
    Calls Try.prog 27 #[.pointer (some ⟨r, 0, none⟩), .int .i64 s, .slice a n c] w fun e w' => e = .returned (.int .i64 0) ∧ ∃ Z', RkIn w' Z' r (putS st s l) ∧ Tnd Z Z' w w' := by
  obtain ⟨hz, bb, lv, kv, pvs, p⟩ := h
  obtain ⟨c0, c1, c2, c3, c4, c5, c6, c7, c8, cf⟩ := cellsD p.row
  have hfit : 0 ≤ s ∧ s < st.kept.length ∧ l.length = st.size := by
    unfold fitW at hf
    simp only [Bool.and_eq_true, decide_eq_true_eq] at hf
    exact ⟨hf.1.1, hf.1.2, hf.2⟩
  have hns : n = st.size := by rw [← hr.len]; exact hfit.2.2
  obtain ⟨n0, hn0⟩ : ∃ n0, st.pend.length = n0 := ⟨_, rfl⟩
  have HN0 := Lib.hid hn0
  obtain ⟨pa, pc, hpv⟩ := owns_shape p.prow
  rw [hn0] at hpv hfew
  subst hpv
  have hsz := p.ok.size
  have HNL : Hid (([] : List Int).length + n ≤ 1099511627776) := by show ([] : List Int).length + n ≤ _; simp; omega
  have HFEW : Hid (n0 ≤ 2000000) := by show _ ≤ _; omega
  have P := Lib.hid p
  have HZ := Lib.hid hz
  have RD := Lib.hid hr
  have HF := Lib.hid hf
  have hw0 := p.ok.writes
  have wr1 : IntKind.i64.wrap (st.writes + 1) = st.writes + 1 := by rw [IntKind.wrap_i64]; omega
  have ha := p.ok.armed
  have hZr := p.z r (.inl rfl)
  have d1 : decide (s < 0) = false := decide_eq_false (by omega)
  have d2 : decide ((st.kept.length : Int) ≤ s) = false := decide_eq_false (by omega)
  have d4 : decide (st.armed = 1) = false := decide_eq_false ha1
  have d5 : (st.armed == 1) = false := by simpa using ha1
  have d6 : ((n : Int) != (st.size : Int)) = false := by rw [hns]; simp
  rw [ho] at c4
  clear hr hf p hn0 hfit
  by_cases ha0 : st.armed = 0
  · obtain ⟨am, ham⟩ : ∃ am : Int, (0 : Int) = am := ⟨_, rfl⟩
    have d7 : decide (0 < st.armed) = false := decide_eq_false (by omega)
    have HPS : Hid (putS st s l = { ({ st with off := false, armed := am } : Dk) with pend := st.pend ++ [(s, l)], writes := st.writes + 1 }) := by
      show _ = _
      unfold putS
      rw [if_pos ha0, ham, ← ho]
    have P2 : Hid (RkP w Z r bb (.slice pa n0 pc) kv pvs { st with off := false, armed := am }) := by
      show RkP _ _ _ _ _ _ _ _
      rw [← ham, ← ha0, ← ho]
      exact P.out
    obtain ⟨w2, hw2⟩ : ∃ w2, w = w2 := ⟨_, rfl⟩
    have T2 : Hid (Tnd Z Z w w2) := by show Tnd _ _ _ _; rw [hw2]; exact Tnd.refl _ _
    rw [hw2] at P2
    have HZ2 : Hid (∀ k, Z k → k < w2.heap.size) := by show ∀ k, _; rw [← hw2]; exact HZ.out
    have RD2 : Hid (RdAt .u8 w2 a n c l) := by show RdAt _ _ _ _ _ _; rw [← hw2]; exact RD.out
    have HW2 := Lib.hid hw2
    subst hns
    clear hw2 ho ham
    go_enter Try.func27, Try.ntmps27
    go_wp2_with fail
    rw [HW2.out]
    clear c0 c1 c2 c3 c4 c5 c6 c7 c8 cf
    have hrow9 : w2.drew.heap[r]? = some (.cells #[.int .i64 st.kept.length, .int .i64 st.size, .slice (some ⟨bb, 0, none⟩) st.kept.flatten.length st.kept.flatten.length, .slice pa n0 pc, .bool false, .int .i64 am, kv, .int .i64 st.writes, .int .i64 st.reads] 61 (0, 0)) := P2.out.row
    have hrd9 : RdAt .u8 w2.drew a st.size c l := RD2.out.at0 rfl
    have hsz9 : w2.heap.size ≤ w2.drew.heap.size := Nat.le_refl _
    have hown9 : w2.drew.ownsRow 0 85 2 (.slice pa n0 pc) n0 (pendC st.pend pvs) := by
      have := P2.out.prow
      rw [show ({ st with off := false, armed := am } : Dk).pend.length = n0 from HN0.out] at this
      exact this
    have hB9 : Spared r (Value.ownBlock (.slice pa n0 pc)) w2 w2.drew := ⟨rfl, rfl, rfl, Nat.le_refl _, fun _ _ _ _ => rfl⟩
    have hdB2 : r < w2.heap.size := HZ2.out r (P2.out.z r (.inl rfl))
    have hpvB : ∀ g, Value.ownBlock (.slice pa n0 pc) = some g → g < w2.heap.size := fun g hg => HZ2.out g (P2.out.z g (.inr (.inr hg)))
    have hpvd : Value.ownBlock (.slice pa n0 pc) ≠ some r := fun e => (P2.out.rm r e).1 rfl
    have hdB : ∀ x, some r = some x → x < w2.heap.size := fun x hx => by injection hx with hx; omega
    refine' reg_order [eqV _, eqV _, eqV _, eqV _, eqV _, eqV _, (fun v _ => ∃ q5, v = Value.slice (some ⟨q5, 0, none⟩) 0 0), eqV _, (PF7 w2.heap.size l), (PF8 w2.heap.size s l), (RF9 w2.heap.size s l), (RF10 w2.heap.size s l (.slice pa n0 pc) (pendC st.pend pvs) (n0 + 1)), eqV _, eqV _, (fun _ w => ∃ pv', w.heap[r]? = some (.cells #[.int .i64 st.kept.length, .int .i64 st.size, .slice (some ⟨bb, 0, none⟩) st.kept.flatten.length st.kept.flatten.length, pv', .bool false, .int .i64 am, kv, .int .i64 st.writes, .int .i64 st.reads] 61 (0, 0)) ∧ RF10 w2.heap.size s l (.slice pa n0 pc) (pendC st.pend pvs) (n0 + 1) pv' w)] [(11, fun w w' => World.grownBy w w' (Value.ownBlock (.slice pa n0 pc))), (14, fun w w' => World.grownBy w w' (some r))] [(4, fun w => w.heap[r]? = some (.cells #[.int .i64 st.kept.length, .int .i64 st.size, .slice (some ⟨bb, 0, none⟩) st.kept.flatten.length st.kept.flatten.length, (.slice pa n0 pc), .bool false, .int .i64 am, kv, .int .i64 st.writes, .int .i64 st.reads] 61 (0, 0))), (8, fun w => RdAt .u8 w a st.size c l ∧ w2.heap.size ≤ w.heap.size), (10, fun w => w2.heap.size ≤ w.heap.size), (11, fun w => World.ownsRow w 0 85 2 (.slice pa n0 pc) n0 (pendC st.pend pvs)), (14, fun w => w.heap[r]? = some (.cells #[.int .i64 st.kept.length, .int .i64 st.size, .slice (some ⟨bb, 0, none⟩) st.kept.flatten.length st.kept.flatten.length, (.slice pa n0 pc), .bool false, .int .i64 am, kv, .int .i64 st.writes, .int .i64 st.reads] 61 (0, 0))), (15, fun w => Spared r (Value.ownBlock (.slice pa n0 pc)) w2 w)] [53, 54, 55, 56, 57, 58, 59, 60, 61, 62, 63, 64, 65, 66, 88] [[], [], [1], [2], [3], [], [], [], [6, 7], [5, 8], [9], [4, 10], [0], [12], [11, 13]] [0, 1, 2, 3, 4, 5, 6, 7, 8, 9, 10, 11, 12, 13, 14] 15 (by kernel_rfl) ⟨eqV_stays _, eqV_stays _, eqV_stays _, eqV_stays _, eqV_stays _, eqV_stays _, fun _ _ _ p _ => p, eqV_stays _, fun _ _ _ p b => PF7.below p b, fun _ _ _ p b => PF8.below p b, fun _ _ _ p b => RF9.below p b, fun _ _ _ p b => RF10.below p b, eqV_stays _, eqV_stays _, fun _ _ _ ⟨y, p, q⟩ b => ⟨y, row_keep p b, q.below b⟩, trivial⟩ ⟨⟨.inl (eqV_stays _), .inl (eqV_stays _), .inl (eqV_stays _), .inl (eqV_stays _), .inl (eqV_stays _), .inl (eqV_stays _), .inl (fun _ _ _ p _ => p), .inl (eqV_stays _), .inl (fun _ _ _ p g => PF7.grown p g hpvB), .inl (fun _ _ _ p g => PF8.grown p g hpvB), .inl (fun _ _ _ p g => RF9.grown p g hpvB), .inr (.inr rfl), .inl (eqV_stays _), .inl (eqV_stays _), .inr (.inl (by kernel_rfl)), trivial⟩, ⟨.inl (eqV_stays _), .inl (eqV_stays _), .inl (eqV_stays _), .inl (eqV_stays _), .inl (eqV_stays _), .inl (eqV_stays _), .inl (fun _ _ _ p _ => p), .inl (eqV_stays _), .inl (fun _ _ _ p g => PF7.grown p g hdB), .inl (fun _ _ _ p g => PF8.grown p g hdB), .inl (fun _ _ _ p g => RF9.grown p g hdB), .inl (fun _ _ _ p g => RF10.grown p g hdB2 hpvd), .inl (eqV_stays _), .inl (eqV_stays _), .inr (.inr rfl), trivial⟩, trivial⟩ ⟨fun _ _ p b => row_keep p b, fun _ _ p b => ⟨p.1.below b, Nat.le_trans p.2 b.size⟩, fun _ _ p b => Nat.le_trans p b.size, fun _ _ p b => ownsRow_at p (fun g hg => b.block g (World.ownsRow.lt p g hg).2), fun _ _ p b => row_keep p b, fun _ _ p b => p.kept b, trivial⟩ ⟨⟨.inr (.inl (by kernel_rfl)), .inr (.inl (by kernel_rfl)), .inr (.inl (by kernel_rfl)), .inr (.inr rfl), .inl (fun _ _ p g => row_other p g hpvd), .inl (fun _ _ p g => p.row g), trivial⟩, ⟨.inr (.inl (by kernel_rfl)), .inr (.inl (by kernel_rfl)), .inr (.inl (by kernel_rfl)), .inr (.inl (by kernel_rfl)), .inr (.inr rfl), .inl (fun _ _ p g => p.at g), trivial⟩, trivial⟩ ⟨hrow9, ⟨hrd9, hsz9⟩, hsz9, hown9, hrow9, hB9, trivial⟩ 74 rfl (by kernel_rfl) (by kernel_rfl) rfl rfl 15 rfl ?q1obl ?q1fin
    case q1obl =>
      refine And.intro ?q1o0 (And.intro ?q1o1 (And.intro ?q1o2 (And.intro ?q1o3 (And.intro ?q1o4 (And.intro ?q1o5 (And.intro ?q1o6 (And.intro ?q1o7 (And.intro ?q1o8 (And.intro ?q1o9 (And.intro ?q1o10 (And.intro ?q1o11 (And.intro ?q1o12 (And.intro ?q1o13 (And.intro ?q1o14 (True.intro)))))))))))))))
      case q1o0 =>
        intro w1 hI
        refine turn2_on (by rfl) ?_
        intro K hK
        go_simp
        refine hK _ _ ⟨rfl, Kept.refl _, ?_⟩
        show _ = _
        simp only [List.getD_cons_zero, List.getD_cons_succ, Array.getD_eq_getD_getElem?, List.getElem?_toArray, List.getElem?_cons_zero, List.getElem?_cons_succ, Option.getD_some]
        rfl
      case q1o1 =>
        intro w1 hI
        refine turn2_on (by rfl) ?_
        intro K hK
        go_simp
        refine hK _ _ ⟨rfl, Kept.refl _, ?_⟩
        show _ = _
        simp only [List.getD_cons_zero, List.getD_cons_succ, Array.getD_eq_getD_getElem?, List.getElem?_toArray, List.getElem?_cons_zero, List.getElem?_cons_succ, Option.getD_some]
        rfl
      case q1o2 =>
        intro w1 hI
        intro v1 h1
        change _ = _ at h1
        subst v1
        refine turn2_on (by rfl) ?_
        intro K hK
        simp only [List.getD_cons_zero, List.getD_cons_succ, List.setIfInBounds_toArray, List.set_cons_zero, List.set_cons_succ]
        go_simp
        refine hK _ _ ⟨rfl, Kept.refl _, ?_⟩
        show _ = _
        simp only [List.getD_cons_zero, List.getD_cons_succ, Array.getD_eq_getD_getElem?, List.getElem?_toArray, List.getElem?_cons_zero, List.getElem?_cons_succ, Option.getD_some]
        rfl
      case q1o3 =>
        intro w1 hI
        intro v2 h2
        change _ = _ at h2
        subst v2
        refine turn2_on (by rfl) ?_
        intro K hK
        simp only [List.getD_cons_zero, List.getD_cons_succ, List.setIfInBounds_toArray, List.set_cons_zero, List.set_cons_succ]
        go_simp
        refine hK _ _ ⟨rfl, Kept.refl _, ?_⟩
        show _ = _
        simp only [List.getD_cons_zero, List.getD_cons_succ, Array.getD_eq_getD_getElem?, List.getElem?_toArray, List.getElem?_cons_zero, List.getElem?_cons_succ, Option.getD_some]
        rfl
      case q1o4 =>
        intro w1 hI
        replace hI : (fun w => w.heap[r]? = some (.cells #[.int .i64 st.kept.length, .int .i64 st.size, .slice (some ⟨bb, 0, none⟩) st.kept.flatten.length st.kept.flatten.length, (.slice pa n0 pc), .bool false, .int .i64 am, kv, .int .i64 st.writes, .int .i64 st.reads] 61 (0, 0))) w1 := hI
        intro v3 h3
        change _ = _ at h3
        subst v3
        refine turn2_on (by rfl) ?_
        intro K hK
        simp only [List.getD_cons_zero, List.getD_cons_succ, List.setIfInBounds_toArray, List.set_cons_zero, List.set_cons_succ]
        obtain ⟨c0, c1, c2, c3, c4, c5, c6, c7, c8, cf⟩ := cellsD hI
        go_simp
        refine hK _ _ ⟨rfl, Kept.refl _, ?_⟩
        show _ = _
        simp only [List.getD_cons_zero, List.getD_cons_succ, Array.getD_eq_getD_getElem?, List.getElem?_toArray, List.getElem?_cons_zero, List.getElem?_cons_succ, Option.getD_some]
        rfl
      case q1o5 =>
        intro w1 hI
        refine turn2_on (by rfl) ?_
        intro K hK
        go_simp
        refine hK _ _ ⟨rfl, Kept.refl _, ?_⟩
        show _ = _
        simp only [List.getD_cons_zero, List.getD_cons_succ, Array.getD_eq_getD_getElem?, List.getElem?_toArray, List.getElem?_cons_zero, List.getElem?_cons_succ, Option.getD_some]
        rfl
      case q1o6 =>
        intro w1 hI
        refine turn2_on (by rfl) ?_
        intro K hK
        go_simp
        refine hK _ _ ⟨rfl, Below.alloc (Below.refl _ _) (Nat.le_refl _) _, ?_⟩
        show ∃ q5, _ = Value.slice (some ⟨q5, 0, none⟩) 0 0
        simp only [List.getD_cons_zero, List.getD_cons_succ, Array.getD_eq_getD_getElem?, List.getElem?_toArray, List.getElem?_cons_zero, List.getElem?_cons_succ, Option.getD_some]
        exact ⟨_, rfl⟩
      case q1o7 =>
        intro w1 hI
        refine turn2_on (by rfl) ?_
        intro K hK
        go_simp
        refine hK _ _ ⟨rfl, Kept.refl _, ?_⟩
        show _ = _
        simp only [List.getD_cons_zero, List.getD_cons_succ, Array.getD_eq_getD_getElem?, List.getElem?_toArray, List.getElem?_cons_zero, List.getElem?_cons_succ, Option.getD_some]
        rfl
      case q1o8 =>
        intro w1 hI
        replace hI : (fun w => RdAt .u8 w a st.size c l ∧ w2.heap.size ≤ w.heap.size) w1 := hI
        intro v6 h6
        obtain ⟨q5, rfl⟩ := h6
        intro v7 h7
        change _ = _ at h7
        subst v7
        refine turn2_on (by rfl) ?_
        intro K hK
        simp only [List.getD_cons_zero, List.getD_cons_succ, List.setIfInBounds_toArray, List.set_cons_zero, List.set_cons_succ]
        obtain ⟨hI, hwz⟩ := hI
        refine wp_app_all 61 rfl u8T u8I (by decide) (.tmp 59) (.tmp 60) rfl _ w2.heap.size _ [] rfl (Owns.empty _ _ _ _ _ _) _ _ _ l rfl hI HNL.out hwz ?_
        intro v2 w9 ho9 hg9
        refine hK _ _ ⟨rfl, hg9.fromNone, ?_⟩
        show PF7 _ _ _ _
        simp only [List.getD_cons_zero, List.getD_cons_succ, Array.getD_eq_getD_getElem?, List.getElem?_toArray, List.getElem?_cons_zero, List.getElem?_cons_succ, Option.getD_some]
        rw [List.nil_append] at ho9
        exact ho9
      case q1o9 =>
        intro w1 hI
        intro v5 h5
        change _ = _ at h5
        subst v5
        intro v8 h8
        obtain ⟨a8, c8, rfl⟩ := Owns.shape h8
        refine turn2_on (by rfl) ?_
        intro K hK
        simp only [List.getD_cons_zero, List.getD_cons_succ, List.setIfInBounds_toArray, List.set_cons_zero, List.set_cons_succ]
        go_simp
        refine hK _ _ ⟨rfl, Kept.refl _, ?_⟩
        show PF8 _ _ _ _ _
        simp only [List.getD_cons_zero, List.getD_cons_succ, Array.getD_eq_getD_getElem?, List.getElem?_toArray, List.getElem?_cons_zero, List.getElem?_cons_succ, Option.getD_some]
        exact ⟨_, rfl, h8⟩
      case q1o10 =>
        intro w1 hI
        replace hI : (fun w => w2.heap.size ≤ w.heap.size) w1 := hI
        intro v9 h9
        obtain ⟨vb9, rfl, h9⟩ := h9
        obtain ⟨a9, c9, rfl⟩ := Owns.shape h9
        refine turn2_on (by rfl) ?_
        intro K hK
        simp only [List.getD_cons_zero, List.getD_cons_succ, List.setIfInBounds_toArray, List.set_cons_zero, List.set_cons_succ]
        go_simp
        refine hK _ _ ⟨rfl, Below.alloc (Below.refl _ _) (Nat.le_refl _) _, ?_⟩
        show RF9 _ _ _ _ _
        simp only [List.getD_cons_zero, List.getD_cons_succ, Array.getD_eq_getD_getElem?, List.getElem?_toArray, List.getElem?_cons_zero, List.getElem?_cons_succ, Option.getD_some]
        exact ⟨w1.heap.size, _, rfl, hI, heap_alloc_new _ _, Owns.alloc h9 _⟩
      case q1o11 =>
        intro w1 hI
        replace hI : (fun w => World.ownsRow w 0 85 2 (.slice pa n0 pc) n0 (pendC st.pend pvs)) w1 := hI
        intro v4 h4
        change _ = _ at h4
        subst v4
        intro v10 h10
        refine turn2_on (by rfl) ?_
        intro K hK
        simp only [List.getD_cons_zero, List.getD_cons_succ, List.setIfInBounds_toArray, List.set_cons_zero, List.set_cons_succ]
        refine wp_rapp_write (v := v10) (pv := (.slice pa n0 pc)) 64 rfl (.tmp 57) (.tmp 63) rfl rfl rfl (show RF9 w2.heap.size s l v10 w1 from h10) hI hpvB HFEW.out ?_
        intro v2 w9 hg9 hp9
        refine hK _ _ ⟨rfl, hg9, ?_⟩
        show RF10 _ _ _ _ _ _ _ _
        simp only [List.getD_cons_zero, List.getD_cons_succ, Array.getD_eq_getD_getElem?, List.getElem?_toArray, List.getElem?_cons_zero, List.getElem?_cons_succ, Option.getD_some]
        exact hp9
      case q1o12 =>
        intro w1 hI
        intro v0 h0
        change _ = _ at h0
        subst v0
        refine turn2_on (by rfl) ?_
        intro K hK
        simp only [List.getD_cons_zero, List.getD_cons_succ, List.setIfInBounds_toArray, List.set_cons_zero, List.set_cons_succ]
        go_simp
        refine hK _ _ ⟨rfl, Kept.refl _, ?_⟩
        show _ = _
        simp only [List.getD_cons_zero, List.getD_cons_succ, Array.getD_eq_getD_getElem?, List.getElem?_toArray, List.getElem?_cons_zero, List.getElem?_cons_succ, Option.getD_some]
        rfl
      case q1o13 =>
        intro w1 hI
        intro v12 h12
        change _ = _ at h12
        subst v12
        refine turn2_on (by rfl) ?_
        intro K hK
        simp only [List.getD_cons_zero, List.getD_cons_succ, List.setIfInBounds_toArray, List.set_cons_zero, List.set_cons_succ]
        go_simp
        refine hK _ _ ⟨rfl, Kept.refl _, ?_⟩
        show _ = _
        simp only [List.getD_cons_zero, List.getD_cons_succ, Array.getD_eq_getD_getElem?, List.getElem?_toArray, List.getElem?_cons_zero, List.getElem?_cons_succ, Option.getD_some]
        rfl
      case q1o14 =>
        intro w1 hI
        replace hI : (fun w => w.heap[r]? = some (.cells #[.int .i64 st.kept.length, .int .i64 st.size, .slice (some ⟨bb, 0, none⟩) st.kept.flatten.length st.kept.flatten.length, (.slice pa n0 pc), .bool false, .int .i64 am, kv, .int .i64 st.writes, .int .i64 st.reads] 61 (0, 0))) w1 := hI
        intro v11 h11
        intro v13 h13
        change _ = _ at h13
        subst v13
        refine turn2_on (by rfl) ?_
        intro K hK
        simp only [List.getD_cons_zero, List.getD_cons_succ, List.setIfInBounds_toArray, List.set_cons_zero, List.set_cons_succ]
        obtain ⟨c0, c1, c2, c3, c4, c5, c6, c7, c8, cf⟩ := cellsD hI
        have hsh : ∃ a c, v11 = .slice a (n0 + 1) c := by obtain ⟨_, h, _⟩ := h11; exact owns_shape h
        obtain ⟨a11, c11, rfl⟩ := hsh
        go_simp
        refine hK _ _ ⟨rfl, put_grown _ _ _ _, ?_⟩
        exact ⟨_, by rw [heap_setCell_same _ r 3 _ _ _ hI]; simp, RF10.grown h11 (put_grown _ _ _ _) hdB2 hpvd⟩
    intro w1 hI
    replace hI : (fun w => Spared r (Value.ownBlock (.slice pa n0 pc)) w2 w) w1 := hI
    intro v0 h0
    change _ = _ at h0
    subst v0
    intro v1 h1
    change _ = _ at h1
    subst v1
    intro v2 h2
    change _ = _ at h2
    subst v2
    intro v3 h3
    change _ = _ at h3
    subst v3
    intro v4 h4
    change _ = _ at h4
    subst v4
    intro v5 h5
    change _ = _ at h5
    subst v5
    intro v6 h6
    obtain ⟨q5, rfl⟩ := h6
    intro v7 h7
    change _ = _ at h7
    subst v7
    intro v8 h8
    obtain ⟨a8, c8, rfl⟩ := Owns.shape h8
    intro v9 h9
    obtain ⟨vb9, rfl, h9⟩ := h9
    obtain ⟨a9, c9, rfl⟩ := Owns.shape h9
    intro v10 h10
    intro v11 h11
    intro v12 h12
    change _ = _ at h12
    subst v12
    intro v13 h13
    change _ = _ at h13
    subst v13
    intro v14 h14
    simp only [Given, List.getD_cons_zero, List.getD_cons_succ, List.setIfInBounds_toArray, List.set_cons_zero, List.set_cons_succ]
    obtain ⟨pv', hrow4, hpf⟩ := h14
    obtain ⟨c0, c1, c2, c3, c4, c5, c6, c7, c8, cf⟩ := cellsD hrow4
    have HROW4 := Lib.hid hrow4
    have HPF := Lib.hid hpf
    have HSP := Lib.hid hI
    clear hrow4 hpf hI hrow9 hrd9 hown9 hB9
    go_wp2_with fail
    go_ret
    have hput := P2.out.put (w5 := w1.setCell ⟨r, 7, none⟩ (.int .i64 (st.writes + 1))) (pv' := pv') HZ2.out s l HF.out (fun k hk h1 h2 => by
      rw [heap_setCell_other w1 ⟨r, 7, none⟩ k _ h1]
      exact HSP.out.block k hk h1 h2) ⟨HSP.out.os, HSP.out.tape, HSP.out.output⟩ (by simpa using HSP.out.size) (by
      rw [heap_setCell_same w1 r 7 _ _ _ HROW4.out]
      simp) (by
      have := RF10.grown HPF.out (put_grown w1 r 7 (.int .i64 (st.writes + 1))) hdB2 hpvd
      show RF10 _ _ _ _ (pendC st.pend pvs) (st.pend.length + 1) _ _
      rw [HN0.out]
      exact this) (by show st.pend.length + 1 ≤ _; rw [HN0.out]; exact hfew) hwr
    obtain ⟨Z', hin, ht5⟩ := hput
    exact ⟨rfl, Z', by rw [HPS.out]; exact hin, T2.out.trans ht5⟩
  · obtain ⟨am, ham⟩ : ∃ am : Int, st.armed - 1 = am := ⟨_, rfl⟩
    have d7 : decide (0 < st.armed) = true := decide_eq_true (by omega)
    have d8 : (0 < st.armed) := by omega
    have wa : IntKind.i64.wrap (st.armed - 1) = am := by rw [IntKind.wrap_i64]; omega
    have HPS : Hid (putS st s l = { ({ st with off := false, armed := am } : Dk) with pend := st.pend ++ [(s, l)], writes := st.writes + 1 }) := by
      show _ = _
      unfold putS
      rw [if_neg ha0, ham, ← ho]
    obtain ⟨w2, hw2⟩ : ∃ w2, w.setCell ⟨r, 5, none⟩ (.int .i64 am) = w2 := ⟨_, rfl⟩
    have P2 : Hid (RkP w2 Z r bb (.slice pa n0 pc) kv pvs { st with off := false, armed := am }) := by
      show RkP _ _ _ _ _ _ _ _
      rw [← hw2]
      exact P.out.re (fun x _ hne => heap_setCell_other w ⟨r, 5, none⟩ x _ hne) (by rw [heap_setCell_same w r 5 _ _ _ P.out.row]; rw [ho]; simp) rfl rfl rfl rfl ⟨P.out.ok.size, P.out.ok.n, P.out.ok.kept, P.out.ok.pend, by show 0 ≤ am ∧ am ≤ _; omega, P.out.ok.few, P.out.ok.writes, P.out.ok.reads⟩
    have T2 : Hid (Tnd Z Z w w2) := by
      show Tnd _ _ _ _
      rw [← hw2]
      exact ⟨rfl, rfl, rfl, by simp, fun x hx hzx => heap_setCell_other w ⟨r, 5, none⟩ x _ (fun e => hzx (by rw [e]; exact hZr)), fun x h => .inl h⟩
    have HZ2 : Hid (∀ k, Z k → k < w2.heap.size) := by show ∀ k, _; rw [← hw2]; intro k hk; simpa using HZ.out k hk
    have RD2 : Hid (RdAt .u8 w2 a n c l) := RD.out.tnd T2.out hnz
    have HW2 := Lib.hid hw2
    subst hns
    clear hw2 ho ham
    go_enter Try.func27, Try.ntmps27
    go_wp2_with fail
    rw [HW2.out]
    clear c0 c1 c2 c3 c4 c5 c6 c7 c8 cf
    have hrow9 : w2.drew.heap[r]? = some (.cells #[.int .i64 st.kept.length, .int .i64 st.size, .slice (some ⟨bb, 0, none⟩) st.kept.flatten.length st.kept.flatten.length, .slice pa n0 pc, .bool false, .int .i64 am, kv, .int .i64 st.writes, .int .i64 st.reads] 61 (0, 0)) := P2.out.row
    have hrd9 : RdAt .u8 w2.drew a st.size c l := RD2.out.at0 rfl
    have hsz9 : w2.heap.size ≤ w2.drew.heap.size := Nat.le_refl _
    have hown9 : w2.drew.ownsRow 0 85 2 (.slice pa n0 pc) n0 (pendC st.pend pvs) := by
      have := P2.out.prow
      rw [show ({ st with off := false, armed := am } : Dk).pend.length = n0 from HN0.out] at this
      exact this
    have hB9 : Spared r (Value.ownBlock (.slice pa n0 pc)) w2 w2.drew := ⟨rfl, rfl, rfl, Nat.le_refl _, fun _ _ _ _ => rfl⟩
    have hdB2 : r < w2.heap.size := HZ2.out r (P2.out.z r (.inl rfl))
    have hpvB : ∀ g, Value.ownBlock (.slice pa n0 pc) = some g → g < w2.heap.size := fun g hg => HZ2.out g (P2.out.z g (.inr (.inr hg)))
    have hpvd : Value.ownBlock (.slice pa n0 pc) ≠ some r := fun e => (P2.out.rm r e).1 rfl
    have hdB : ∀ x, some r = some x → x < w2.heap.size := fun x hx => by injection hx with hx; omega
    refine' reg_order [eqV _, eqV _, eqV _, eqV _, eqV _, eqV _, (fun v _ => ∃ q5, v = Value.slice (some ⟨q5, 0, none⟩) 0 0), eqV _, (PF7 w2.heap.size l), (PF8 w2.heap.size s l), (RF9 w2.heap.size s l), (RF10 w2.heap.size s l (.slice pa n0 pc) (pendC st.pend pvs) (n0 + 1)), eqV _, eqV _, (fun _ w => ∃ pv', w.heap[r]? = some (.cells #[.int .i64 st.kept.length, .int .i64 st.size, .slice (some ⟨bb, 0, none⟩) st.kept.flatten.length st.kept.flatten.length, pv', .bool false, .int .i64 am, kv, .int .i64 st.writes, .int .i64 st.reads] 61 (0, 0)) ∧ RF10 w2.heap.size s l (.slice pa n0 pc) (pendC st.pend pvs) (n0 + 1) pv' w)] [(11, fun w w' => World.grownBy w w' (Value.ownBlock (.slice pa n0 pc))), (14, fun w w' => World.grownBy w w' (some r))] [(4, fun w => w.heap[r]? = some (.cells #[.int .i64 st.kept.length, .int .i64 st.size, .slice (some ⟨bb, 0, none⟩) st.kept.flatten.length st.kept.flatten.length, (.slice pa n0 pc), .bool false, .int .i64 am, kv, .int .i64 st.writes, .int .i64 st.reads] 61 (0, 0))), (8, fun w => RdAt .u8 w a st.size c l ∧ w2.heap.size ≤ w.heap.size), (10, fun w => w2.heap.size ≤ w.heap.size), (11, fun w => World.ownsRow w 0 85 2 (.slice pa n0 pc) n0 (pendC st.pend pvs)), (14, fun w => w.heap[r]? = some (.cells #[.int .i64 st.kept.length, .int .i64 st.size, .slice (some ⟨bb, 0, none⟩) st.kept.flatten.length st.kept.flatten.length, (.slice pa n0 pc), .bool false, .int .i64 am, kv, .int .i64 st.writes, .int .i64 st.reads] 61 (0, 0))), (15, fun w => Spared r (Value.ownBlock (.slice pa n0 pc)) w2 w)] [53, 54, 55, 56, 57, 58, 59, 60, 61, 62, 63, 64, 65, 66, 88] [[], [], [1], [2], [3], [], [], [], [6, 7], [5, 8], [9], [4, 10], [0], [12], [11, 13]] [0, 1, 2, 3, 4, 5, 6, 7, 8, 9, 10, 11, 12, 13, 14] 15 (by kernel_rfl) ⟨eqV_stays _, eqV_stays _, eqV_stays _, eqV_stays _, eqV_stays _, eqV_stays _, fun _ _ _ p _ => p, eqV_stays _, fun _ _ _ p b => PF7.below p b, fun _ _ _ p b => PF8.below p b, fun _ _ _ p b => RF9.below p b, fun _ _ _ p b => RF10.below p b, eqV_stays _, eqV_stays _, fun _ _ _ ⟨y, p, q⟩ b => ⟨y, row_keep p b, q.below b⟩, trivial⟩ ⟨⟨.inl (eqV_stays _), .inl (eqV_stays _), .inl (eqV_stays _), .inl (eqV_stays _), .inl (eqV_stays _), .inl (eqV_stays _), .inl (fun _ _ _ p _ => p), .inl (eqV_stays _), .inl (fun _ _ _ p g => PF7.grown p g hpvB), .inl (fun _ _ _ p g => PF8.grown p g hpvB), .inl (fun _ _ _ p g => RF9.grown p g hpvB), .inr (.inr rfl), .inl (eqV_stays _), .inl (eqV_stays _), .inr (.inl (by kernel_rfl)), trivial⟩, ⟨.inl (eqV_stays _), .inl (eqV_stays _), .inl (eqV_stays _), .inl (eqV_stays _), .inl (eqV_stays _), .inl (eqV_stays _), .inl (fun _ _ _ p _ => p), .inl (eqV_stays _), .inl (fun _ _ _ p g => PF7.grown p g hdB), .inl (fun _ _ _ p g => PF8.grown p g hdB), .inl (fun _ _ _ p g => RF9.grown p g hdB), .inl (fun _ _ _ p g => RF10.grown p g hdB2 hpvd), .inl (eqV_stays _), .inl (eqV_stays _), .inr (.inr rfl), trivial⟩, trivial⟩ ⟨fun _ _ p b => row_keep p b, fun _ _ p b => ⟨p.1.below b, Nat.le_trans p.2 b.size⟩, fun _ _ p b => Nat.le_trans p b.size, fun _ _ p b => ownsRow_at p (fun g hg => b.block g (World.ownsRow.lt p g hg).2), fun _ _ p b => row_keep p b, fun _ _ p b => p.kept b, trivial⟩ ⟨⟨.inr (.inl (by kernel_rfl)), .inr (.inl (by kernel_rfl)), .inr (.inl (by kernel_rfl)), .inr (.inr rfl), .inl (fun _ _ p g => row_other p g hpvd), .inl (fun _ _ p g => p.row g), trivial⟩, ⟨.inr (.inl (by kernel_rfl)), .inr (.inl (by kernel_rfl)), .inr (.inl (by kernel_rfl)), .inr (.inl (by kernel_rfl)), .inr (.inr rfl), .inl (fun _ _ p g => p.at g), trivial⟩, trivial⟩ ⟨hrow9, ⟨hrd9, hsz9⟩, hsz9, hown9, hrow9, hB9, trivial⟩ 74 rfl (by kernel_rfl) (by kernel_rfl) rfl rfl 15 rfl ?q9obl ?q9fin
    case q9obl =>
      refine And.intro ?q9o0 (And.intro ?q9o1 (And.intro ?q9o2 (And.intro ?q9o3 (And.intro ?q9o4 (And.intro ?q9o5 (And.intro ?q9o6 (And.intro ?q9o7 (And.intro ?q9o8 (And.intro ?q9o9 (And.intro ?q9o10 (And.intro ?q9o11 (And.intro ?q9o12 (And.intro ?q9o13 (And.intro ?q9o14 (True.intro)))))))))))))))
      case q9o0 =>
        intro w1 hI
        refine turn2_on (by rfl) ?_
        intro K hK
        go_simp
        refine hK _ _ ⟨rfl, Kept.refl _, ?_⟩
        show _ = _
        simp only [List.getD_cons_zero, List.getD_cons_succ, Array.getD_eq_getD_getElem?, List.getElem?_toArray, List.getElem?_cons_zero, List.getElem?_cons_succ, Option.getD_some]
        rfl
      case q9o1 =>
        intro w1 hI
        refine turn2_on (by rfl) ?_
        intro K hK
        go_simp
        refine hK _ _ ⟨rfl, Kept.refl _, ?_⟩
        show _ = _
        simp only [List.getD_cons_zero, List.getD_cons_succ, Array.getD_eq_getD_getElem?, List.getElem?_toArray, List.getElem?_cons_zero, List.getElem?_cons_succ, Option.getD_some]
        rfl
      case q9o2 =>
        intro w1 hI
        intro v1 h1
        change _ = _ at h1
        subst v1
        refine turn2_on (by rfl) ?_
        intro K hK
        simp only [List.getD_cons_zero, List.getD_cons_succ, List.setIfInBounds_toArray, List.set_cons_zero, List.set_cons_succ]
        go_simp
        refine hK _ _ ⟨rfl, Kept.refl _, ?_⟩
        show _ = _
        simp only [List.getD_cons_zero, List.getD_cons_succ, Array.getD_eq_getD_getElem?, List.getElem?_toArray, List.getElem?_cons_zero, List.getElem?_cons_succ, Option.getD_some]
        rfl
      case q9o3 =>
        intro w1 hI
        intro v2 h2
        change _ = _ at h2
        subst v2
        refine turn2_on (by rfl) ?_
        intro K hK
        simp only [List.getD_cons_zero, List.getD_cons_succ, List.setIfInBounds_toArray, List.set_cons_zero, List.set_cons_succ]
        go_simp
        refine hK _ _ ⟨rfl, Kept.refl _, ?_⟩
        show _ = _
        simp only [List.getD_cons_zero, List.getD_cons_succ, Array.getD_eq_getD_getElem?, List.getElem?_toArray, List.getElem?_cons_zero, List.getElem?_cons_succ, Option.getD_some]
        rfl
      case q9o4 =>
        intro w1 hI
        replace hI : (fun w => w.heap[r]? = some (.cells #[.int .i64 st.kept.length, .int .i64 st.size, .slice (some ⟨bb, 0, none⟩) st.kept.flatten.length st.kept.flatten.length, (.slice pa n0 pc), .bool false, .int .i64 am, kv, .int .i64 st.writes, .int .i64 st.reads] 61 (0, 0))) w1 := hI
        intro v3 h3
        change _ = _ at h3
        subst v3
        refine turn2_on (by rfl) ?_
        intro K hK
        simp only [List.getD_cons_zero, List.getD_cons_succ, List.setIfInBounds_toArray, List.set_cons_zero, List.set_cons_succ]
        obtain ⟨c0, c1, c2, c3, c4, c5, c6, c7, c8, cf⟩ := cellsD hI
        go_simp
        refine hK _ _ ⟨rfl, Kept.refl _, ?_⟩
        show _ = _
        simp only [List.getD_cons_zero, List.getD_cons_succ, Array.getD_eq_getD_getElem?, List.getElem?_toArray, List.getElem?_cons_zero, List.getElem?_cons_succ, Option.getD_some]
        rfl
      case q9o5 =>
        intro w1 hI
        refine turn2_on (by rfl) ?_
        intro K hK
        go_simp
        refine hK _ _ ⟨rfl, Kept.refl _, ?_⟩
        show _ = _
        simp only [List.getD_cons_zero, List.getD_cons_succ, Array.getD_eq_getD_getElem?, List.getElem?_toArray, List.getElem?_cons_zero, List.getElem?_cons_succ, Option.getD_some]
        rfl
      case q9o6 =>
        intro w1 hI
        refine turn2_on (by rfl) ?_
        intro K hK
        go_simp
        refine hK _ _ ⟨rfl, Below.alloc (Below.refl _ _) (Nat.le_refl _) _, ?_⟩
        show ∃ q5, _ = Value.slice (some ⟨q5, 0, none⟩) 0 0
        simp only [List.getD_cons_zero, List.getD_cons_succ, Array.getD_eq_getD_getElem?, List.getElem?_toArray, List.getElem?_cons_zero, List.getElem?_cons_succ, Option.getD_some]
        exact ⟨_, rfl⟩
      case q9o7 =>
        intro w1 hI
        refine turn2_on (by rfl) ?_
        intro K hK
        go_simp
        refine hK _ _ ⟨rfl, Kept.refl _, ?_⟩
        show _ = _
        simp only [List.getD_cons_zero, List.getD_cons_succ, Array.getD_eq_getD_getElem?, List.getElem?_toArray, List.getElem?_cons_zero, List.getElem?_cons_succ, Option.getD_some]
        rfl
      case q9o8 =>
        intro w1 hI
        replace hI : (fun w => RdAt .u8 w a st.size c l ∧ w2.heap.size ≤ w.heap.size) w1 := hI
        intro v6 h6
        obtain ⟨q5, rfl⟩ := h6
        intro v7 h7
        change _ = _ at h7
        subst v7
        refine turn2_on (by rfl) ?_
        intro K hK
        simp only [List.getD_cons_zero, List.getD_cons_succ, List.setIfInBounds_toArray, List.set_cons_zero, List.set_cons_succ]
        obtain ⟨hI, hwz⟩ := hI
        refine wp_app_all 61 rfl u8T u8I (by decide) (.tmp 59) (.tmp 60) rfl _ w2.heap.size _ [] rfl (Owns.empty _ _ _ _ _ _) _ _ _ l rfl hI HNL.out hwz ?_
        intro v2 w9 ho9 hg9
        refine hK _ _ ⟨rfl, hg9.fromNone, ?_⟩
        show PF7 _ _ _ _
        simp only [List.getD_cons_zero, List.getD_cons_succ, Array.getD_eq_getD_getElem?, List.getElem?_toArray, List.getElem?_cons_zero, List.getElem?_cons_succ, Option.getD_some]
        rw [List.nil_append] at ho9
        exact ho9
      case q9o9 =>
        intro w1 hI
        intro v5 h5
        change _ = _ at h5
        subst v5
        intro v8 h8
        obtain ⟨a8, c8, rfl⟩ := Owns.shape h8
        refine turn2_on (by rfl) ?_
        intro K hK
        simp only [List.getD_cons_zero, List.getD_cons_succ, List.setIfInBounds_toArray, List.set_cons_zero, List.set_cons_succ]
        go_simp
        refine hK _ _ ⟨rfl, Kept.refl _, ?_⟩
        show PF8 _ _ _ _ _
        simp only [List.getD_cons_zero, List.getD_cons_succ, Array.getD_eq_getD_getElem?, List.getElem?_toArray, List.getElem?_cons_zero, List.getElem?_cons_succ, Option.getD_some]
        exact ⟨_, rfl, h8⟩
      case q9o10 =>
        intro w1 hI
        replace hI : (fun w => w2.heap.size ≤ w.heap.size) w1 := hI
        intro v9 h9
        obtain ⟨vb9, rfl, h9⟩ := h9
        obtain ⟨a9, c9, rfl⟩ := Owns.shape h9
        refine turn2_on (by rfl) ?_
        intro K hK
        simp only [List.getD_cons_zero, List.getD_cons_succ, List.setIfInBounds_toArray, List.set_cons_zero, List.set_cons_succ]
        go_simp
        refine hK _ _ ⟨rfl, Below.alloc (Below.refl _ _) (Nat.le_refl _) _, ?_⟩
        show RF9 _ _ _ _ _
        simp only [List.getD_cons_zero, List.getD_cons_succ, Array.getD_eq_getD_getElem?, List.getElem?_toArray, List.getElem?_cons_zero, List.getElem?_cons_succ, Option.getD_some]
        exact ⟨w1.heap.size, _, rfl, hI, heap_alloc_new _ _, Owns.alloc h9 _⟩
      case q9o11 =>
        intro w1 hI
        replace hI : (fun w => World.ownsRow w 0 85 2 (.slice pa n0 pc) n0 (pendC st.pend pvs)) w1 := hI
        intro v4 h4
        change _ = _ at h4
        subst v4
        intro v10 h10
        refine turn2_on (by rfl) ?_
        intro K hK
        simp only [List.getD_cons_zero, List.getD_cons_succ, List.setIfInBounds_toArray, List.set_cons_zero, List.set_cons_succ]
        refine wp_rapp_write (v := v10) (pv := (.slice pa n0 pc)) 64 rfl (.tmp 57) (.tmp 63) rfl rfl rfl (show RF9 w2.heap.size s l v10 w1 from h10) hI hpvB HFEW.out ?_
        intro v2 w9 hg9 hp9
        refine hK _ _ ⟨rfl, hg9, ?_⟩
        show RF10 _ _ _ _ _ _ _ _
        simp only [List.getD_cons_zero, List.getD_cons_succ, Array.getD_eq_getD_getElem?, List.getElem?_toArray, List.getElem?_cons_zero, List.getElem?_cons_succ, Option.getD_some]
        exact hp9
      case q9o12 =>
        intro w1 hI
        intro v0 h0
        change _ = _ at h0
        subst v0
        refine turn2_on (by rfl) ?_
        intro K hK
        simp only [List.getD_cons_zero, List.getD_cons_succ, List.setIfInBounds_toArray, List.set_cons_zero, List.set_cons_succ]
        go_simp
        refine hK _ _ ⟨rfl, Kept.refl _, ?_⟩
        show _ = _
        simp only [List.getD_cons_zero, List.getD_cons_succ, Array.getD_eq_getD_getElem?, List.getElem?_toArray, List.getElem?_cons_zero, List.getElem?_cons_succ, Option.getD_some]
        rfl
      case q9o13 =>
        intro w1 hI
        intro v12 h12
        change _ = _ at h12
        subst v12
        refine turn2_on (by rfl) ?_
        intro K hK
        simp only [List.getD_cons_zero, List.getD_cons_succ, List.setIfInBounds_toArray, List.set_cons_zero, List.set_cons_succ]
        go_simp
        refine hK _ _ ⟨rfl, Kept.refl _, ?_⟩
        show _ = _
        simp only [List.getD_cons_zero, List.getD_cons_succ, Array.getD_eq_getD_getElem?, List.getElem?_toArray, List.getElem?_cons_zero, List.getElem?_cons_succ, Option.getD_some]
        rfl
      case q9o14 =>
        intro w1 hI
        replace hI : (fun w => w.heap[r]? = some (.cells #[.int .i64 st.kept.length, .int .i64 st.size, .slice (some ⟨bb, 0, none⟩) st.kept.flatten.length st.kept.flatten.length, (.slice pa n0 pc), .bool false, .int .i64 am, kv, .int .i64 st.writes, .int .i64 st.reads] 61 (0, 0))) w1 := hI
        intro v11 h11
        intro v13 h13
        change _ = _ at h13
        subst v13
        refine turn2_on (by rfl) ?_
        intro K hK
        simp only [List.getD_cons_zero, List.getD_cons_succ, List.setIfInBounds_toArray, List.set_cons_zero, List.set_cons_succ]
        obtain ⟨c0, c1, c2, c3, c4, c5, c6, c7, c8, cf⟩ := cellsD hI
        have hsh : ∃ a c, v11 = .slice a (n0 + 1) c := by obtain ⟨_, h, _⟩ := h11; exact owns_shape h
        obtain ⟨a11, c11, rfl⟩ := hsh
        go_simp
        refine hK _ _ ⟨rfl, put_grown _ _ _ _, ?_⟩
        exact ⟨_, by rw [heap_setCell_same _ r 3 _ _ _ hI]; simp, RF10.grown h11 (put_grown _ _ _ _) hdB2 hpvd⟩
    intro w1 hI
    replace hI : (fun w => Spared r (Value.ownBlock (.slice pa n0 pc)) w2 w) w1 := hI
    intro v0 h0
    change _ = _ at h0
    subst v0
    intro v1 h1
    change _ = _ at h1
    subst v1
    intro v2 h2
    change _ = _ at h2
    subst v2
    intro v3 h3
    change _ = _ at h3
    subst v3
    intro v4 h4
    change _ = _ at h4
    subst v4
    intro v5 h5
    change _ = _ at h5
    subst v5
    intro v6 h6
    obtain ⟨q5, rfl⟩ := h6
    intro v7 h7
    change _ = _ at h7
    subst v7
    intro v8 h8
    obtain ⟨a8, c8, rfl⟩ := Owns.shape h8
    intro v9 h9
    obtain ⟨vb9, rfl, h9⟩ := h9
    obtain ⟨a9, c9, rfl⟩ := Owns.shape h9
    intro v10 h10
    intro v11 h11
    intro v12 h12
    change _ = _ at h12
    subst v12
    intro v13 h13
    change _ = _ at h13
    subst v13
    intro v14 h14
    simp only [Given, List.getD_cons_zero, List.getD_cons_succ, List.setIfInBounds_toArray, List.set_cons_zero, List.set_cons_succ]
    obtain ⟨pv', hrow4, hpf⟩ := h14
    obtain ⟨c0, c1, c2, c3, c4, c5, c6, c7, c8, cf⟩ := cellsD hrow4
    have HROW4 := Lib.hid hrow4
    have HPF := Lib.hid hpf
    have HSP := Lib.hid hI
    clear hrow4 hpf hI hrow9 hrd9 hown9 hB9
    go_wp2_with fail
    go_ret
    have hput := P2.out.put (w5 := w1.setCell ⟨r, 7, none⟩ (.int .i64 (st.writes + 1))) (pv' := pv') HZ2.out s l HF.out (fun k hk h1 h2 => by
      rw [heap_setCell_other w1 ⟨r, 7, none⟩ k _ h1]
      exact HSP.out.block k hk h1 h2) ⟨HSP.out.os, HSP.out.tape, HSP.out.output⟩ (by simpa using HSP.out.size) (by
      rw [heap_setCell_same w1 r 7 _ _ _ HROW4.out]
      simp) (by
      have := RF10.grown HPF.out (put_grown w1 r 7 (.int .i64 (st.writes + 1))) hdB2 hpvd
      show RF10 _ _ _ _ (pendC st.pend pvs) (st.pend.length + 1) _ _
      rw [HN0.out]
      exact this) (by show st.pend.length + 1 ≤ _; rw [HN0.out]; exact hfew) hwr
    obtain ⟨Z', hin, ht5⟩ := hput
    exact ⟨rfl, Z', by rw [HPS.out]; exact hin, T2.out.trans ht5⟩
end Go.Proofs.Ytpgncmoagmkcmaa
