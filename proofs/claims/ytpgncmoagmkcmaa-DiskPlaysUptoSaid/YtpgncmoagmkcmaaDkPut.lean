/- disk: one more write is pending: what its operations leave; the disk behind it. -/
import Derived.Test.YtpgncmoagmkcmaaDkC
import Derived.Test.YtpgncmoagmkcmaaRegion
import Derived.Maps.AppendAt
namespace Go.Proofs.Ytpgncmoagmkcmaa
open Go.RowKit
theorem pendC_snoc : ∀ {p : List (Int × List Int)} {vs : List Value} (s : Int) (b : List Int) (v : Value), vs.length = p.length → pendC (p ++ [(s, b)]) (vs ++ [v]) = pendC p vs ++ [.int .i64 s, v]
  | [], [], _, _, _, _ => rfl
  | [], _ :: _, _, _, _, h => by simp at h
  | _ :: _, [], _, _, _, h => by simp at h
  | (t, c) :: p, u :: vs, s, b, v, h => by
    show .int .i64 t :: u :: pendC (p ++ [(s, b)]) (vs ++ [v]) = .int .i64 t :: u :: (pendC p vs ++ [.int .i64 s, v])
    rw [pendC_snoc s b v (by simpa using h)]
theorem Owns.slc {w : World} {B : Nat} {v : Value} {l : List Int} (h : Owns .u8 5 w B v l) (hl : 0 < l.length) :
    ∃ g c, v = .slice (some ⟨g, 0, none⟩) l.length c ∧ room v = some g ∧ RdAt .u8 w (some ⟨g, 0, none⟩) l.length c l ∧ B ≤ g ∧ g < w.heap.size := by
  have hrd : ∀ g c, v = .slice (some ⟨g, 0, none⟩) l.length c → RdAt .u8 w (some ⟨g, 0, none⟩) l.length c l := fun g c e => by
    rw [e] at h
    exact h.rd
  rcases h.2 with ⟨rfl, _⟩ | h2
  · simp at hl
  · rcases h2.2 with ⟨_, h0⟩ | ⟨g, cap, cur, hv, hB, hh, hnc, _⟩
    · omega
    · have hr : room v = some g := by rw [hv]; show (if cap = 0 then none else some g) = some g; rw [if_neg (by omega)]
      have := h.at_base g hr
      exact ⟨g, cap, hv, hr, hrd g cap hv, this.1, this.2⟩
def PF7 (B : Nat) (l : List Int) (v : Value) (w : World) : Prop := Owns .u8 5 w B v l
def PF8 (B : Nat) (s : Int) (l : List Int) (v : Value) (w : World) : Prop := ∃ vb, v = .agg #[.int .i64 s, vb] ∧ PF7 B l vb w
def PF9 (B : Nat) (s : Int) (l : List Int) (v : Value) (w : World) : Prop := ∃ q vb, v = .slice (some ⟨q, 0, none⟩) 1 1 ∧ B ≤ q ∧ w.heap[q]? = some (.cells #[.int .i64 s, vb] 76 (0, 0)) ∧ PF7 B l vb w
def PF10 (B : Nat) (s : Int) (l : List Int) (pv : Value) (xs : List Value) (n : Nat) (v : Value) (w : World) : Prop :=
  ∃ vb, w.ownsRow 0 76 2 v n (xs ++ [.int .i64 s, vb]) ∧ PF7 B l vb w ∧ (v.ownBlock = pv.ownBlock ∨ ∃ q, v.ownBlock = some q ∧ B ≤ q) ∧ (∀ g, v.ownBlock = some g → g < w.heap.size ∧ room vb ≠ some g)
theorem PF7.below {B : Nat} {l : List Int} {v : Value} {w w' : World} (h : PF7 B l v w) (b : Below w.heap.size w w') : PF7 B l v w' := Owns.below h b
theorem PF7.grown {B : Nat} {l : List Int} {v : Value} {w w' : World} {row : Option Nat} (h : PF7 B l v w) (g : w.grownBy w' row) (hr : ∀ x, row = some x → x < B) : PF7 B l v w' :=
  Owns.grown h g (fun b hb e => by have := (Owns.at_base h b hb).1; have := hr b e.symm; omega)
theorem PF8.below {B : Nat} {s : Int} {l : List Int} {v : Value} {w w' : World} (h : PF8 B s l v w) (b : Below w.heap.size w w') : PF8 B s l v w' := by
  obtain ⟨vb, h1, h2⟩ := h
  exact ⟨vb, h1, h2.below b⟩
theorem PF8.grown {B : Nat} {s : Int} {l : List Int} {v : Value} {w w' : World} {row : Option Nat} (h : PF8 B s l v w) (g : w.grownBy w' row) (hr : ∀ x, row = some x → x < B) : PF8 B s l v w' := by
  obtain ⟨vb, h1, h2⟩ := h
  exact ⟨vb, h1, h2.grown g hr⟩
theorem PF9.below {B : Nat} {s : Int} {l : List Int} {v : Value} {w w' : World} (h : PF9 B s l v w) (b : Below w.heap.size w w') : PF9 B s l v w' := by
  obtain ⟨q, vb, h1, h2, h3, h4⟩ := h
  exact ⟨q, vb, h1, h2, row_keep h3 b, h4.below b⟩
theorem PF9.grown {B : Nat} {s : Int} {l : List Int} {v : Value} {w w' : World} {row : Option Nat} (h : PF9 B s l v w) (g : w.grownBy w' row) (hr : ∀ x, row = some x → x < B) : PF9 B s l v w' := by
  obtain ⟨q, vb, h1, h2, h3, h4⟩ := h
  exact ⟨q, vb, h1, h2, by rw [g.block q (Array.getElem?_eq_some_iff.1 h3).1 (fun e => by have := hr q e.symm; omega)]; exact h3, h4.grown g hr⟩
theorem PF10.below {B : Nat} {s : Int} {l : List Int} {pv : Value} {xs : List Value} {n : Nat} {v : Value} {w w' : World} (h : PF10 B s l pv xs n v w) (b : Below w.heap.size w w') : PF10 B s l pv xs n v w' := by
  obtain ⟨vb, h1, h2, h3, h4⟩ := h
  exact ⟨vb, ownsRow_at h1 (fun g hg => b.block g (h4 g hg).1), h2.below b, h3, fun g hg => ⟨Nat.lt_of_lt_of_le (h4 g hg).1 b.size, (h4 g hg).2⟩⟩
theorem PF10.grown {B : Nat} {s : Int} {l : List Int} {pv : Value} {xs : List Value} {n d : Nat} {v : Value} {w w' : World} (h : PF10 B s l pv xs n v w) (g : w.grownBy w' (some d)) (hd : d < B) (hpd : pv.ownBlock ≠ some d) : PF10 B s l pv xs n v w' := by
  obtain ⟨vb, h1, h2, h3, h4⟩ := h
  refine ⟨vb, ownsRow_at h1 (fun x hx => g.block x (h4 x hx).1 (fun e => ?_)), h2.grown g (fun x hx => by injection hx with hx; omega), h3, fun x hx => ⟨Nat.lt_of_lt_of_le (h4 x hx).1 g.size, (h4 x hx).2⟩⟩
  injection e with e
  subst e
  rcases h3 with h3 | ⟨q, hq, hB⟩
  · exact hpd (by rw [← h3]; exact hx)
  · rw [hx] at hq
    injection hq with hq
    omega
/-- The cells of a write's append. -/
theorem wrI : (Try.prog.info? 76).map (fun i => (i.zero, i.size, i.bytes)) = some (some (.agg #[.int .i64 0, .slice none 0 0]), 2, 32) := by kernel_rfl
theorem app_write {B : Nat} {s : Int} {l : List Int} {pv : Value} {xs : List Value} {n : Nat} {w : World} {v : Value} (h : PF9 B s l v w) (ho : w.ownsRow 0 76 2 pv n xs) (hpv : ∀ g, pv.ownBlock = some g → g < B) (hn : n ≤ 2000000) (ty : TypeId) :
    ∃ v' w', (Builtin.append_ #[34, 34] ty #[pv, v]).run Try.prog w = .ok v' w' ∧ w.grownBy w' pv.ownBlock ∧ PF10 B s l pv xs (n + 1) v' w' := by
  obtain ⟨q, vb, rfl, hq, hrow, hvb⟩ := h
  obtain ⟨i, hi, hz, hs, hb⟩ := info_parts wrI
  obtain ⟨v', w', hrun, h1, h2, _, h3⟩ := run_append_own_at (P := Try.prog) (w := w) 0 34 ty 76 i _ 2 32 Try.underlying34 hi hz hs hb (by rfl) (by omega) pv n xs ho ⟨q, 0, none⟩ 1 1 [.int .i64 s, vb] rfl (fun j u hj => by
      rw [show (Addr.mk q 0 none).add j = ⟨q, j, none⟩ by simp [Addr.add] <;> omega]
      rw [cell_of_row w _ _ _ _ _ hrow]
      simpa using hj) (fun u hu => by
      obtain ⟨a, c, e⟩ := Owns.shape hvb
      simp at hu
      rcases hu with rfl | rfl
      · rfl
      · rw [e]; rfl) (by unfold maxLen; omega) (by omega) (Nat.zero_le _)
  refine ⟨v', w', hrun, h2, vb, h1, hvb.grown h2 hpv, ?_, fun g hg => ?_⟩
  · rcases h3 with h3 | h3
    · exact .inl h3
    · refine .inr ⟨_, h3, ?_⟩
      have := (Array.getElem?_eq_some_iff.1 hrow).1
      omega
  · have hlt : g < w'.heap.size := by
      rcases h1.2 with ⟨e, _⟩ | ⟨g', cap, cur, e, _, hh, _⟩
      · rw [e] at hg; cases hg
      · rw [e] at hg
        injection hg with hg
        rw [← hg]
        exact (Array.getElem?_eq_some_iff.1 hh).1
    refine ⟨hlt, fun e => ?_⟩
    have hb2 := Owns.at_base hvb g e
    rcases h3 with h3 | h3
    · have := hpv g (by rw [← h3]; exact hg)
      omega
    · rw [hg] at h3
      injection h3 with h3
      omega
theorem wp_app_write {o : Oper} {t : Array Value} {ds : List Deferred} {K : Act → World → Prop} {Q : Exit → Act → World → Prop} (dd : Tmp) (hd : o.dst = some dd) (x y : Operand)
    (ho : o.op = .call { callee := .builtin .append, args := #[x, y], argTypes := #[34, 34] }) {B : Nat} {s : Int} {l : List Int} {pv : Value} {xs : List Value} {n : Nat} {w : World} {v : Value} (hx : (Act.mk t ds).eval x = pv) (hy : (Act.mk t ds).eval y = v)
    (h : PF9 B s l v w) (hown : w.ownsRow 0 76 2 pv n xs) (hpv : ∀ g, pv.ownBlock = some g → g < B) (hn : n ≤ 2000000)
    (hK : ∀ v' w', w.grownBy w' pv.ownBlock → PF10 B s l pv xs (n + 1) v' w' → K ⟨t.setIfInBounds dd v', ds⟩ w') : Oper.wp Try.prog o ⟨t, ds⟩ w K Q := by
  obtain ⟨v', w', hr, h1, h2⟩ := app_write h hown hpv hn o.type
  refine wp_of_run dd hd (v := v') (w' := w') ?_ (hK v' w' h1 h2)
  unfold execOp
  simp only [ho, resolve, invoke, builtin, Sem.run_bind, Sem.run_pure, Result.andThen_ok, List.map_toArray, List.map_cons, List.map_nil, hx, hy, hr]
/-- The disk behind the write. -/
theorem DkP.put {w w5 : World} {Z : Nat → Prop} {d kb mb : Nat} {pv pv' kv : Value} {vals pvs : List Value} {st : Dk} (p : DkP w Z d kb mb pv kv vals pvs st) (hz : ∀ k, Z k → k < w.heap.size) (s : Int) (l : List Int) (hfit : fitW st s l = true)
    (hsp : ∀ k, k < w.heap.size → k ≠ d → k ≠ mb → some k ≠ pv.ownBlock → w5.heap[k]? = w.heap[k]?) (hos : w5.os = w.os ∧ w5.tape = w.tape ∧ w5.output = w.output) (hsz : w.heap.size ≤ w5.heap.size)
    (row : w5.heap[d]? = some (.cells #[.bool st.off, .int .i64 st.armed, kv, .int .i64 st.size, .slice (some ⟨kb, 0, none⟩) st.kept.length st.kept.length, pv', .map (some mb), .int .i64 (st.writes + 1), .int .i64 st.reads] 37 (0, 0)))
    (hmap : MapAt w5 mb (fun t => if t = s then some ((st.pend.length : Nat) : Int) else lastOf st.pend t))
    (hown : PF10 w.heap.size s l pv (pendC st.pend pvs) (st.pend.length + 1) pv' w5) (hfew : st.pend.length + 1 ≤ 1000000) (hwr : st.writes + 1 ≤ 4611686018427387904) :
    ∃ Z', DkIn w5 Z' d { st with pend := st.pend ++ [(s, l)], writes := st.writes + 1 } ∧ Tnd Z Z' w w5 := by
  obtain ⟨vb, h1, h2, h3, h4⟩ := hown
  have hf : 0 ≤ s ∧ s < st.kept.length ∧ l.length = st.size := by
    unfold fitW at hfit
    simp only [Bool.and_eq_true, decide_eq_true_eq] at hfit
    exact ⟨hfit.1.1, hfit.1.2, hfit.2⟩
  have hl0 : 0 < l.length := by have := p.ok.size; omega
  obtain ⟨g, c, hv, hrm, hrd, hB, hlt⟩ := Owns.slc h2 hl0
  have hZm := p.z
  have hdl := hz d (hZm d (.inl rfl))
  have hkl := hz kb (hZm kb (.inr (.inl rfl)))
  have hml := hz mb (hZm mb (.inr (.inr (.inl rfl))))
  have hpl : ∀ x, pv.ownBlock = some x → x < w.heap.size := fun x hx => hz x (hZm x (.inr (.inr (.inr hx))))
  have hmut : ∀ x, Z x → ¬ MutD d kb mb pv x → w5.heap[x]? = w.heap[x]? := fun x hx hm => hsp x (hz x hx) (fun e => hm (.inl e)) (fun e => hm (.inr (.inr (.inl e)))) (fun e => hm (.inr (.inr (.inr e.symm))))
  have hM : ∀ x, Z x → ¬ MutD d kb mb pv x → ¬ MutD d kb mb pv' x := fun x hx hm h => by
    rcases h with h | h | h | h
    · exact hm (.inl h)
    · exact hm (.inr (.inl h))
    · exact hm (.inr (.inr (.inl h)))
    · rcases h3 with h3 | ⟨q, hq, hqB⟩
      · exact hm (.inr (.inr (.inr (by rw [← h3]; exact h))))
      · rw [h] at hq
        injection hq with hq
        have := hz x hx
        omega
  refine ⟨fun k => Z k ∨ (w.heap.size ≤ k ∧ k < w5.heap.size), ⟨fun k hk => ?_, kb, mb, pv', kv, vals, pvs ++ [vb], row, ?_, ?_, ?_, ?_, ?_, ?_, p.ne, ?_, ?_, ?_⟩, hos.1, hos.2.1, hos.2.2, hsz, fun k hk hzk => ?_, fun k hk => hk.imp id (·.1)⟩
  · rcases hk with hk | hk
    · have := hz k hk; omega
    · exact hk.2
  · rw [hsp kb hkl p.ne.1.symm p.ne.2.2 (fun e => (p.rm kb e.symm).2.1 rfl)]
    exact p.krow
  · exact p.kvals.imp fun v l h => h.at hmut hM (fun _ h => .inl h)
  · have hlen : pvs.length = st.pend.length := p.pvals.1
    show w5.ownsRow 0 _ 2 pv' (st.pend ++ [(s, l)]).length (pendC (st.pend ++ [(s, l)]) (pvs ++ [vb]))
    rw [pendC_snoc s l vb hlen, List.length_append]
    exact h1
  · refine All2.snoc (p.pvals.imp fun v l h => h.at hmut hM (fun _ h => .inl h)) ⟨g, 0, l.length, c, hv, hrd, hl0, fun hm => ?_, .inr ⟨hB, hlt⟩⟩
    rcases hm with hm | hm | hm | hm
    · omega
    · omega
    · omega
    · exact (h4 g hm).2 hrm
  · exact hmap.congr (fun t => (lastOf_snoc st.pend s l t).symm)
  · exact p.keep.at hmut hM (fun _ h => .inl h)
  · intro x hx
    rcases h3 with h3 | ⟨q, hq, hqB⟩
    · exact p.rm x (by rw [← h3]; exact hx)
    · rw [hx] at hq
      injection hq with hq
      omega
  · intro x hx
    rcases hx with hx | hx | hx | hx
    · exact .inl (hZm x (.inl hx))
    · exact .inl (hZm x (.inr (.inl hx)))
    · exact .inl (hZm x (.inr (.inr (.inl hx))))
    · rcases h3 with h3 | ⟨q, hq, hqB⟩
      · exact .inl (hZm x (.inr (.inr (.inr (by rw [← h3]; exact hx)))))
      · have hxq : x = q := by rw [hx] at hq; injection hq
        exact .inr ⟨by omega, (h4 x hx).1⟩
  · refine ⟨p.ok.size, p.ok.n, p.ok.kept, fun q hq => ?_, p.ok.armed, ?_, ⟨by have := p.ok.writes.1; show 0 ≤ st.writes + 1; omega, hwr⟩, p.ok.reads⟩
    · rcases List.mem_append.1 hq with h | h
      · exact p.ok.pend q h
      · simp at h
        subst h
        exact ⟨hf.2.2, hf.1, hf.2.1⟩
    · show (st.pend ++ [(s, l)]).length ≤ 1000000
      rw [List.length_append]
      exact hfew
  · exact hsp k hk (fun e => hzk (by rw [e]; exact hZm d (.inl rfl))) (fun e => hzk (by rw [e]; exact hZm mb (.inr (.inr (.inl rfl))))) (fun e => hzk (hZm k (.inr (.inr (.inr e.symm)))))
end Go.Proofs.Ytpgncmoagmkcmaa
