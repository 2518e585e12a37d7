/- disk: one more write is pending: what its operations leave; the disk behind it. disk: Write. -/
import Derived.Test.YtlhpdkapddnbcaaJn0
import Derived.Test.YtlhpdkapddnbcaaJn3
import Derived.Test.YtlhpdkapddnbcaaJn5
import Derived.Maps.AppendAt
namespace Go.Proofs.Ytlhpdkapddnbcaa
open Go.RowKit
theorem pendC_snoc : ∀ {p : List (Int × List Int)} {vs : List Value} (s : Int) (b : List Int) (v : Value), vs.length = p.length → pendC (p ++ [(s, b)]) (vs ++ [v]) = pendC p vs ++ [.int .i64 s, v]
  | [], [], _, _, _, _ => rfl
  | [], _ :: _, _, _, _, h => by simp at h
  | _ :: _, [], _, _, _, h => by simp at h
  | (t, c) :: p, u :: vs, s, b, v, h => by
    show .int .i64 t :: u :: pendC (p ++ [(s, b)]) (vs ++ [v]) = .int .i64 t :: u :: (pendC p vs ++ [.int .i64 s, v])
    rw [pendC_snoc s b v (by simpa using h)]
theorem Owns.slc {w : World} {B : Nat} {v : Value} {l : List Int} (h : Owns .u8 5 w B v l) (hl : 0 < l.length) :
    ∃ g c, v = .slice (some ⟨g, 0, none⟩) l.length c ∧ room v = some g ∧ RdAt .u8 w (some ⟨g, 0, none⟩) l.length c l ∧ B ≤ g ∧ g < w.heap.size := by
  have hrd : ∀ g c, v = .slice (some ⟨g, 0, none⟩) l.length c → RdAt .u8 w (some ⟨g, 0, none⟩) l.length c l := fun g c e => by
    rw [e] at h
    exact h.rd
  rcases h.2 with ⟨rfl, _⟩ | h2
  · simp at hl
  · rcases h2.2 with ⟨_, h0⟩ | ⟨g, cap, cur, hv, hB, hh, hnc, _⟩
    · omega
    · have hr : room v = some g := by rw [hv]; show (if cap = 0 then none else some g) = some g; rw [if_neg (by omega)]
      have := h.at_base g hr
      exact ⟨g, cap, hv, hr, hrd g cap hv, this.1, this.2⟩
def PF7 (B : Nat) (l : List Int) (v : Value) (w : World) : Prop := Owns .u8 5 w B v l
def PF8 (B : Nat) (s : Int) (l : List Int) (v : Value) (w : World) : Prop := ∃ vb, v = .agg #[.int .i64 s, vb] ∧ PF7 B l vb w
def PF9 (B : Nat) (s : Int) (l : List Int) (v : Value) (w : World) : Prop := ∃ q vb, v = .slice (some ⟨q, 0, none⟩) 1 1 ∧ B ≤ q ∧ w.heap[q]? = some (.cells #[.int .i64 s, vb] 104 (0, 0)) ∧ PF7 B l vb w
def PF10 (B : Nat) (s : Int) (l : List Int) (pv : Value) (xs : List Value) (n : Nat) (v : Value) (w : World) : Prop :=
  ∃ vb, w.ownsRow 0 104 2 v n (xs ++ [.int .i64 s, vb]) ∧ PF7 B l vb w ∧ (v.ownBlock = pv.ownBlock ∨ ∃ q, v.ownBlock = some q ∧ B ≤ q) ∧ (∀ g, v.ownBlock = some g → g < w.heap.size ∧ room vb ≠ some g)
theorem PF7.below {B : Nat} {l : List Int} {v : Value} {w w' : World} (h : PF7 B l v w) (b : Below w.heap.size w w') : PF7 B l v w' := Owns.below h b
theorem PF7.grown {B : Nat} {l : List Int} {v : Value} {w w' : World} {row : Option Nat} (h : PF7 B l v w) (g : w.grownBy w' row) (hr : ∀ x, row = some x → x < B) : PF7 B l v w' :=
  Owns.grown h g (fun b hb e => by have := (Owns.at_base h b hb).1; have := hr b e.symm; omega)
theorem PF8.below {B : Nat} {s : Int} {l : List Int} {v : Value} {w w' : World} (h : PF8 B s l v w) (b : Below w.heap.size w w') : PF8 B s l v w' := by
  obtain ⟨vb, h1, h2⟩ := h
  exact ⟨vb, h1, h2.below b⟩
theorem PF8.grown {B : Nat} {s : Int} {l : List Int} {v : Value} {w w' : World} {row : Option Nat} (h : PF8 B s l v w) (g : w.grownBy w' row) (hr : ∀ x, row = some x → x < B) : PF8 B s l v w' := by
  obtain ⟨vb, h1, h2⟩ := h
  exact ⟨vb, h1, h2.grown g hr⟩
theorem PF9.below {B : Nat} {s : Int} {l : List Int} {v : Value} {w w' : World} (h : PF9 B s l v w) (b : Below w.heap.size w w') : PF9 B s l v w' := by
  obtain ⟨q, vb, h1, h2, h3, h4⟩ := h
  exact ⟨q, vb, h1, h2, row_keep h3 b, h4.below b⟩
theorem PF9.grown {B : Nat} {s : Int} {l : List Int} {v : Value} {w w' : World} {row : Option Nat} (h : PF9 B s l v w) (g : w.grownBy w' row) (hr : ∀ x, row = some x → x < B) : PF9 B s l v w' := by
  obtain ⟨q, vb, h1, h2, h3, h4⟩ := h
  exact ⟨q, vb, h1, h2, by rw [g.block q (Array.getElem?_eq_some_iff.1 h3).1 (fun e => by have := hr q e.symm; omega)]; exact h3, h4.grown g hr⟩
theorem PF10.below {B : Nat} {s : Int} {l : List Int} {pv : Value} {xs : List Value} {n : Nat} {v : Value} {w w' : World} (h : PF10 B s l pv xs n v w) (b : Below w.heap.size w w') : PF10 B s l pv xs n v w' := by
  obtain ⟨vb, h1, h2, h3, h4⟩ := h
  exact ⟨vb, ownsRow_at h1 (fun g hg => b.block g (h4 g hg).1), h2.below b, h3, fun g hg => ⟨Nat.lt_of_lt_of_le (h4 g hg).1 b.size, (h4 g hg).2⟩⟩
theorem PF10.grown {B : Nat} {s : Int} {l : List Int} {pv : Value} {xs : List Value} {n d : Nat} {v : Value} {w w' : World} (h : PF10 B s l pv xs n v w) (g : w.grownBy w' (some d)) (hd : d < B) (hpd : pv.ownBlock ≠ some d) : PF10 B s l pv xs n v w' := by
  obtain ⟨vb, h1, h2, h3, h4⟩ := h
  refine ⟨vb, ownsRow_at h1 (fun x hx => g.block x (h4 x hx).1 (fun e => ?_)), h2.grown g (fun x hx => by injection hx with hx; omega), h3, fun x hx => ⟨Nat.lt_of_lt_of_le (h4 x hx).1 g.size, (h4 x hx).2⟩⟩
  injection e with e
  subst e
  rcases h3 with h3 | ⟨q, hq, hB⟩
  · exact hpd (by rw [← h3]; exact hx)
  · rw [hx] at hq
    injection hq with hq
    omega
set_option maxRecDepth 100000 in
/-- The cells of a write's append. -/
theorem wrI : (Try.prog.info? 104).map (fun i => (i.zero, i.size, i.bytes)) = some (some (.agg #[.int .i64 0, .slice none 0 0]), 2, 32) := by kernel_rfl
set_option maxRecDepth 100000 in
theorem app_write {B : Nat} {s : Int} {l : List Int} {pv : Value} {xs : List Value} {n : Nat} {w : World} {v : Value} (h : PF9 B s l v w) (ho : w.ownsRow 0 104 2 pv n xs) (hpv : ∀ g, pv.ownBlock = some g → g < B) (hn : n ≤ 2000000) (ty : TypeId) :
    ∃ v' w', (Builtin.append_ #[48, 48] ty #[pv, v]).run Try.prog w = .ok v' w' ∧ w.grownBy w' pv.ownBlock ∧ PF10 B s l pv xs (n + 1) v' w' := by
  obtain ⟨q, vb, rfl, hq, hrow, hvb⟩ := h
  obtain ⟨i, hi, hz, hs, hb⟩ := info_parts wrI
  obtain ⟨v', w', hrun, h1, h2, _, h3⟩ := run_append_own_at (P := Try.prog) (w := w) 0 48 ty 104 i _ 2 32 Try.underlying48 hi hz hs hb (by rfl) (by omega) pv n xs ho ⟨q, 0, none⟩ 1 1 [.int .i64 s, vb] rfl (fun j u hj => by
      rw [show (Addr.mk q 0 none).add j = ⟨q, j, none⟩ by simp [Addr.add] <;> omega]
      rw [cell_of_row w _ _ _ _ _ hrow]
      simpa using hj) (fun u hu => by
      obtain ⟨a, c, e⟩ := Owns.shape hvb
      simp at hu
      rcases hu with rfl | rfl
      · rfl
      · rw [e]; rfl) (by unfold maxLen; omega) (by omega) (Nat.zero_le _)
  refine ⟨v', w', hrun, h2, vb, h1, hvb.grown h2 hpv, ?_, fun g hg => ?_⟩
  · rcases h3 with h3 | h3
    · exact .inl h3
    · refine .inr ⟨_, h3, ?_⟩
      have := (Array.getElem?_eq_some_iff.1 hrow).1
      omega
  · have hlt : g < w'.heap.size := by
      rcases h1.2 with ⟨e, _⟩ | ⟨g', cap, cur, e, _, hh, _⟩
      · rw [e] at hg; cases hg
      · rw [e] at hg
        injection hg with hg
        rw [← hg]
        exact (Array.getElem?_eq_some_iff.1 hh).1
    refine ⟨hlt, fun e => ?_⟩
    have hb2 := Owns.at_base hvb g e
    rcases h3 with h3 | h3
    · have := hpv g (by rw [← h3]; exact hg)
      omega
    · rw [hg] at h3
      injection h3 with h3
      omega
set_option maxRecDepth 100000 in
theorem wp_app_write {o : Oper} {t : Array Value} {ds : List Deferred} {K : Act → World → Prop} {Q : Exit → Act → World → Prop} (dd : Tmp) (hd : o.dst = some dd) (x y : Operand)
    (ho : o.op = .call { callee := .builtin .append, args := #[x, y], argTypes := #[48, 48] }) {B : Nat} {s : Int} {l : List Int} {pv : Value} {xs : List Value} {n : Nat} {w : World} {v : Value} (hx : (Act.mk t ds).eval x = pv) (hy : (Act.mk t ds).eval y = v)
    (h : PF9 B s l v w) (hown : w.ownsRow 0 104 2 pv n xs) (hpv : ∀ g, pv.ownBlock = some g → g < B) (hn : n ≤ 2000000)
    (hK : ∀ v' w', w.grownBy w' pv.ownBlock → PF10 B s l pv xs (n + 1) v' w' → K ⟨t.setIfInBounds dd v', ds⟩ w') : Oper.wp Try.prog o ⟨t, ds⟩ w K Q := by
  obtain ⟨v', w', hr, h1, h2⟩ := app_write h hown hpv hn o.type
  refine wp_of_run dd hd (v := v') (w' := w') ?_ (hK v' w' h1 h2)
  unfold execOp
  simp only [ho, resolve, invoke, builtin, Sem.run_bind, Sem.run_pure, Result.andThen_ok, List.map_toArray, List.map_cons, List.map_nil, hx, hy, hr]
/-- The disk behind the write. -/
theorem DkP.put {w w5 : World} {Z : Nat → Prop} {d kb mb : Nat} {pv pv' kv : Value} {vals pvs : List Value} {st : Dk} (p : DkP w Z d kb mb pv kv vals pvs st) (hz : ∀ k, Z k → k < w.heap.size) (s : Int) (l : List Int) (hfit : fitW st s l = true)
    (hsp : ∀ k, k < w.heap.size → k ≠ d → k ≠ mb → some k ≠ pv.ownBlock → w5.heap[k]? = w.heap[k]?) (hos : w5.os = w.os ∧ w5.tape = w.tape ∧ w5.output = w.output) (hsz : w.heap.size ≤ w5.heap.size)
    (row : w5.heap[d]? = some (.cells #[.bool st.off, .int .i64 st.armed, kv, .int .i64 st.size, .slice (some ⟨kb, 0, none⟩) st.kept.length st.kept.length, pv', .map (some mb), .int .i64 (st.writes + 1), .int .i64 st.reads] 51 (0, 0)))
    (hmap : MapAt w5 mb (fun t => if t = s then some ((st.pend.length : Nat) : Int) else lastOf st.pend t))
    (hown : PF10 w.heap.size s l pv (pendC st.pend pvs) (st.pend.length + 1) pv' w5) (hfew : st.pend.length + 1 ≤ 1000000) (hwr : st.writes + 1 ≤ 4611686018427387904) :
    ∃ Z', DkIn w5 Z' d { st with pend := st.pend ++ [(s, l)], writes := st.writes + 1 } ∧ Tnd Z Z' w w5 := by
  obtain ⟨vb, h1, h2, h3, h4⟩ := hown
  have hf : 0 ≤ s ∧ s < st.kept.length ∧ l.length = st.size := by
    unfold fitW at hfit
    simp only [Bool.and_eq_true, decide_eq_true_eq] at hfit
    exact ⟨hfit.1.1, hfit.1.2, hfit.2⟩
  have hl0 : 0 < l.length := by have := p.ok.size; omega
  obtain ⟨g, c, hv, hrm, hrd, hB, hlt⟩ := Owns.slc h2 hl0
  have hZm := p.z
  have hdl := hz d (hZm d (.inl rfl))
  have hkl := hz kb (hZm kb (.inr (.inl rfl)))
  have hml := hz mb (hZm mb (.inr (.inr (.inl rfl))))
  have hpl : ∀ x, pv.ownBlock = some x → x < w.heap.size := fun x hx => hz x (hZm x (.inr (.inr (.inr hx))))
  have hmut : ∀ x, Z x → ¬ MutD d kb mb pv x → w5.heap[x]? = w.heap[x]? := fun x hx hm => hsp x (hz x hx) (fun e => hm (.inl e)) (fun e => hm (.inr (.inr (.inl e)))) (fun e => hm (.inr (.inr (.inr e.symm))))
  have hM : ∀ x, Z x → ¬ MutD d kb mb pv x → ¬ MutD d kb mb pv' x := fun x hx hm h => by
    rcases h with h | h | h | h
    · exact hm (.inl h)
    · exact hm (.inr (.inl h))
    · exact hm (.inr (.inr (.inl h)))
    · rcases h3 with h3 | ⟨q, hq, hqB⟩
      · exact hm (.inr (.inr (.inr (by rw [← h3]; exact h))))
      · rw [h] at hq
        injection hq with hq
        have := hz x hx
        omega
  refine ⟨fun k => Z k ∨ (w.heap.size ≤ k ∧ k < w5.heap.size), ⟨fun k hk => ?_, kb, mb, pv', kv, vals, pvs ++ [vb], row, ?_, ?_, ?_, ?_, ?_, ?_, p.ne, ?_, ?_, ?_⟩, hos.1, hos.2.1, hos.2.2, hsz, fun k hk hzk => ?_, fun k hk => hk.imp id (·.1)⟩
  · rcases hk with hk | hk
    · have := hz k hk; omega
    · exact hk.2
  · rw [hsp kb hkl p.ne.1.symm p.ne.2.2 (fun e => (p.rm kb e.symm).2.1 rfl)]
    exact p.krow
  · exact p.kvals.imp fun v l h => h.at hmut hM (fun _ h => .inl h)
  · have hlen : pvs.length = st.pend.length := p.pvals.1
    show w5.ownsRow 0 _ 2 pv' (st.pend ++ [(s, l)]).length (pendC (st.pend ++ [(s, l)]) (pvs ++ [vb]))
    rw [pendC_snoc s l vb hlen, List.length_append]
    exact h1
  · refine All2.snoc (p.pvals.imp fun v l h => h.at hmut hM (fun _ h => .inl h)) ⟨g, 0, l.length, c, hv, hrd, hl0, fun hm => ?_, .inr ⟨hB, hlt⟩⟩
    rcases hm with hm | hm | hm | hm
    · omega
    · omega
    · omega
    · exact (h4 g hm).2 hrm
  · exact hmap.congr (fun t => (lastOf_snoc st.pend s l t).symm)
  · exact p.keep.at hmut hM (fun _ h => .inl h)
  · intro x hx
    rcases h3 with h3 | ⟨q, hq, hqB⟩
    · exact p.rm x (by rw [← h3]; exact hx)
    · rw [hx] at hq
      injection hq with hq
      omega
  · intro x hx
    rcases hx with hx | hx | hx | hx
    · exact .inl (hZm x (.inl hx))
    · exact .inl (hZm x (.inr (.inl hx)))
    · exact .inl (hZm x (.inr (.inr (.inl hx))))
    · rcases h3 with h3 | ⟨q, hq, hqB⟩
      · exact .inl (hZm x (.inr (.inr (.inr (by rw [← h3]; exact hx)))))
      · have hxq : x = q := by rw [hx] at hq; injection hq
        exact .inr ⟨by omega, (h4 x hx).1⟩
  · refine ⟨p.ok.size, p.ok.n, p.ok.kept, fun q hq => ?_, p.ok.armed, ?_, ⟨by have := p.ok.writes.1; show 0 ≤ st.writes + 1; omega, hwr⟩, p.ok.reads⟩
    · rcases List.mem_append.1 hq with h | h
      · exact p.ok.pend q h
      · simp at h
        subst h
        exact ⟨hf.2.2, hf.1, hf.2.1⟩
    · show (st.pend ++ [(s, l)]).length ≤ 1000000
      rw [List.length_append]
      exact hfew
  · exact hsp k hk (fun e => hzk (by rw [e]; exact hZm d (.inl rfl))) (fun e => hzk (by rw [e]; exact hZm mb (.inr (.inr (.inl rfl))))) (fun e => hzk (hZm k (.inr (.inr (.inr e.symm)))))
end Go.Proofs.Ytlhpdkapddnbcaa

namespace Go.Proofs.Ytlhpdkapddnbcaa
open Go.RowKit
theorem grownB {w w1 w2 : World} {h : Nat} (g : w.grownBy w1 (some h)) (b : Below w1.heap.size w1 w2) : w.grownBy w2 (some h) :=
  ⟨b.os.trans g.os, b.tape.trans g.tape, b.output.trans g.output, Nat.le_trans g.size b.size, fun k hk hne => by rw [b.block k (Nat.lt_of_lt_of_le hk g.size)]; exact g.block k hk hne⟩
theorem put_grown (w : World) (h i : Nat) (x : Value) : w.grownBy (w.setCell ⟨h, i, none⟩ x) (some h) :=
  ⟨rfl, rfl, rfl, by simp, fun k _ hk => heap_setCell_other w ⟨h, i, none⟩ k x (fun e => hk (by simp [e]))⟩
theorem row_other {w w' : World} {row : Option Nat} {k : Nat} {o : Obj} (ho : w.heap[k]? = some o) (hg : w.grownBy w' row) (hk : row ≠ some k) : w'.heap[k]? = some o := by
  rw [hg.block k (Array.getElem?_eq_some_iff.1 ho).1 (fun e => hk e.symm)]; exact ho
theorem RdAt.at0 {k : IntKind} {w w' : World} {a : Option Addr} {n c : Nat} {l : List Int} (h : RdAt k w a n c l) (e : w'.heap = w.heap) : RdAt k w' a n c l :=
  ⟨h.len, h.cap, h.max, fun i hi => by
    obtain ⟨b, o, e1, hc⟩ := h.cell i hi
    exact ⟨b, o, e1, by rw [← hc]; exact World.cell?_of_block (a := ⟨b, o + i, none⟩) (by rw [e])⟩, h.wf, h.void⟩
theorem RdAt.tnd {k : IntKind} {Z Z' : Nat → Prop} {w w' : World} {a : Option Addr} {n c : Nat} {l : List Int} (h : RdAt k w a n c l) (t : Tnd Z Z' w w') (hne : ∀ x, a = some x → ¬ Z x.block) : RdAt k w' a n c l :=
  ⟨h.len, h.cap, h.max, fun i hi => by
    obtain ⟨b, o, e, hc⟩ := h.cell i hi
    exact ⟨b, o, e, by rw [← hc]; exact World.cell?_of_block (a := ⟨b, o + i, none⟩) (t.block b (block_lt_of_cell hc) (hne _ e))⟩, h.wf, h.void⟩
set_option linter.unusedSimpArgs false in
set_option linter.unusedVariables false in
set_option maxRecDepth 100000 in
set_option maxHeartbeats 2000000 in
theorem write_put (Z : Nat → Prop) (d : Nat) (st : Dk) (s : Int) (a : Option Addr) (n c : Nat) (l : List Int) (w : World) (h : DkIn w Z d st) (hr : RdAt .u8 w a n c l) (hnz : ∀ x, a = some x → ¬ Z x.block) (hs1 : -9223372036854775808 ≤ s) (hs2 : s ≤ 9223372036854775807) (hfew : st.pend.length + 1 ≤ 1000000) (hwr : st.writes + 1 ≤ 4611686018427387904)
    (ho : st.off = false) (hf : fitW st s l = true) (ha1 : st.armed ≠ 1) :
    Calls Try.prog 27 #[.pointer (some ⟨d, 0, none⟩), .int .i64 s, .slice a n c] w fun e w' => e = .returned (.int .i64 0) ∧ ∃ Z', DkIn w' Z' d (putS st s l) ∧ Tnd Z Z' w w' := by
  have H := Lib.hid h
  have HO := Lib.hid ho
  have hi : inS st s = true := by
    have h1 : (inS st s && decide (l.length = st.size)) = true := hf
    simp only [Bool.and_eq_true] at h1
    exact h1.1
  have hns : n = st.size := by
    have h1 : (inS st s && decide (l.length = st.size)) = true := hf
    simp only [Bool.and_eq_true, decide_eq_true_eq] at h1
    rw [← hr.len]; exact h1.2
  have HI := Lib.hid hi
  have HF := Lib.hid hf
  obtain ⟨hz, kb, mb, pv, kv, vals, pvs, p⟩ := h
  obtain ⟨c0, c1, c2, c3, c4, c5, c6, c7, c8, cf⟩ := cellsD p.row
  have P := Lib.hid p
  have hn9 : n ≤ 1000000000 := by have := p.ok.size; omega
  have hnp := p.ok.n
  have HN := Lib.hid hn9
  have hwf : (Lit.int .i64 s).wf = true := by
    simp [Lit.wf, IntKind.min, IntKind.max, IntKind.signed, IntKind.bits]
    omega
  have HWF := Lib.hid hwf
  have HFEW : Hid (st.pend.length ≤ 2000000) := by show _ ≤ _; omega
  have hw0 := p.ok.writes
  have wr1 : IntKind.i64.wrap (st.writes + 1) = st.writes + 1 := by rw [IntKind.wrap_i64]; omega
  subst hns
  have ea : decide (st.armed = 1) = false := decide_eq_false ha1
  have HEA := Lib.hid ea
  have HR := Lib.hid hr
  clear ho hf hi p hwf ea hr ha1 hn9 hnp
  go_enter Try.func27, Try.ntmps27
  go_wp2_with fail
  refine (off_any Z d st w H.out).mono ?_
  rintro e w1 ⟨rfl, rfl⟩
  rw [HO.out]
  go_wp2_with fail
  refine (there_any Z d st s w H.out).mono ?_
  rintro e w2 ⟨rfl, rfl⟩
  rw [HI.out]
  go_wp2_with fail
  refine (goes_any Z d kb mb pv kv vals pvs st w P.out hz).mono ?_
  rintro e w2 ⟨rfl, hp2, ht2, hz2⟩
  rw [HEA.out]
  have hrd2 := HR.out.tnd ht2 hnz
  have P2 := Lib.hid hp2
  have T2 := Lib.hid ht2
  have HR2 := Lib.hid hrd2
  clear c0 c1 c2 c3 c4 c5 c6 c7 c8 cf ht2 hrd2
  obtain ⟨am, ham⟩ : ∃ am, (if st.armed = 0 then 0 else st.armed - 1) = am := ⟨_, rfl⟩
  have HAM := Lib.hid ham
  have hrow8 := hp2.row
  simp only [HO.out, ham] at hrow8
  have hmap8 : MapAt w2.drew mb (lastOf st.pend) := hp2.map.at rfl
  have hown8 := hp2.prow
  have hne := hp2.ne
  have hrm := hp2.rm
  have hdB2 : d < w2.heap.size := hz2 d (hp2.z d (.inl rfl))
  obtain ⟨pa, pc, hpv⟩ := owns_shape hown8
  have hpvB : ∀ g, pv.ownBlock = some g → g < w2.heap.size := fun g hg => hz2 g (hp2.z g (.inr (.inr (.inr hg))))
  have hpvd : pv.ownBlock ≠ some d := fun e => (hrm d e).1 rfl
  have hpvm : pv.ownBlock ≠ some mb := fun e => (hrm mb e).2.2 rfl
  replace hpv : pv = .slice pa st.pend.length pc := hpv
  subst hpv
  have hdB : ∀ x, some d = some x → x < w2.heap.size := fun x hx => by injection hx with hx; omega
  replace hrow8 : w2.drew.heap[d]? = _ := hrow8
  have hB8 : w2.grownBy w2.drew (some mb) := ⟨rfl, rfl, rfl, Nat.le_refl _, fun _ _ _ => rfl⟩
  clear hp2
  go_wp2_with fail
  refine' reg_order [eqV _, eqV _, eqV _, eqV _, eqV _, eqV _, eqV _, eqV _, eqV _, eqV _, eqV _, (fun _ w => MapAt w mb (fun t => if t = s then some ((st.pend.length : Nat) : Int) else lastOf st.pend t))] [(11, fun w w' => World.grownBy w w' (some mb))] [(3, fun w => w.heap[d]? = some (.cells #[.bool false, .int .i64 am, kv, .int .i64 st.size, .slice (some ⟨kb, 0, none⟩) st.kept.length st.kept.length, (.slice pa st.pend.length pc), .map (some mb), .int .i64 st.writes, .int .i64 st.reads] 51 (0, 0))), (9, fun w => w.heap[d]? = some (.cells #[.bool false, .int .i64 am, kv, .int .i64 st.size, .slice (some ⟨kb, 0, none⟩) st.kept.length st.kept.length, (.slice pa st.pend.length pc), .map (some mb), .int .i64 st.writes, .int .i64 st.reads] 51 (0, 0))), (11, fun w => MapAt w mb (lastOf st.pend)), (12, fun w => World.grownBy w2 w (some mb))] [38, 39, 40, 41, 42, 43, 44, 45, 46, 47, 48, 80] [[], [0], [1], [2], [], [4], [], [6], [7], [8], [9], [3, 5, 10]] [0, 1, 2, 3, 4, 5, 6, 7, 8, 9, 10, 11] 12 (by kernel_rfl) ⟨eqV_stays _, eqV_stays _, eqV_stays _, eqV_stays _, eqV_stays _, eqV_stays _, eqV_stays _, eqV_stays _, eqV_stays _, eqV_stays _, eqV_stays _, fun _ _ _ p b => p.at (b.block mb p.lt), trivial⟩ ⟨⟨.inl (eqV_stays _), .inl (eqV_stays _), .inl (eqV_stays _), .inl (eqV_stays _), .inl (eqV_stays _), .inl (eqV_stays _), .inl (eqV_stays _), .inl (eqV_stays _), .inl (eqV_stays _), .inl (eqV_stays _), .inl (eqV_stays _), .inr (.inr rfl), trivial⟩, trivial⟩ ⟨fun _ _ p b => row_keep p b, fun _ _ p b => row_keep p b, fun _ _ p b => p.at (b.block mb p.lt), fun _ _ p b => grownB p b, trivial⟩ ⟨⟨.inr (.inl (by kernel_rfl)), .inr (.inl (by kernel_rfl)), .inr (.inr rfl), .inl (fun _ _ p g => World.grownBy.trans p g), trivial⟩, trivial⟩ ⟨hrow8, hrow8, hmap8, hB8, trivial⟩ 69 rfl (by kernel_rfl) (by kernel_rfl) rfl rfl 12 rfl ?q1obl ?q1fin
  case q1obl =>
    refine And.intro ?q1o0 (And.intro ?q1o1 (And.intro ?q1o2 (And.intro ?q1o3 (And.intro ?q1o4 (And.intro ?q1o5 (And.intro ?q1o6 (And.intro ?q1o7 (And.intro ?q1o8 (And.intro ?q1o9 (And.intro ?q1o10 (And.intro ?q1o11 (True.intro))))))))))))
    case q1o0 =>
      intro w1 hI
      refine turn2_on (by rfl) ?_
      intro K hK
      go_simp
      refine hK _ _ ⟨rfl, Kept.refl _, ?_⟩
      show _ = _
      simp only [gv1]
      rfl
    case q1o1 =>
      intro w1 hI
      intro v0 h0
      change _ = _ at h0
      subst v0
      refine turn2_on (by rfl) ?_
      intro K hK
      simp only [gv2]
      go_simp
      refine hK _ _ ⟨rfl, Kept.refl _, ?_⟩
      show _ = _
      simp only [gv1]
      rfl
    case q1o2 =>
      intro w1 hI
      intro v1 h1
      change _ = _ at h1
      subst v1
      refine turn2_on (by rfl) ?_
      intro K hK
      simp only [gv2]
      go_simp
      refine hK _ _ ⟨rfl, Kept.refl _, ?_⟩
      show _ = _
      simp only [gv1]
      rfl
    case q1o3 =>
      intro w1 hI
      replace hI : (fun w => w.heap[d]? = some (.cells #[.bool false, .int .i64 am, kv, .int .i64 st.size, .slice (some ⟨kb, 0, none⟩) st.kept.length st.kept.length, (.slice pa st.pend.length pc), .map (some mb), .int .i64 st.writes, .int .i64 st.reads] 51 (0, 0))) w1 := hI
      intro v2 h2
      change _ = _ at h2
      subst v2
      refine turn2_on (by rfl) ?_
      intro K hK
      simp only [gv2]
      obtain ⟨c0, c1, c2, c3, c4, c5, c6, c7, c8, cf⟩ := cellsD hI
      go_simp
      refine hK _ _ ⟨rfl, Kept.refl _, ?_⟩
      show _ = _
      simp only [gv1]
      rfl
    case q1o4 =>
      intro w1 hI
      refine turn2_on (by rfl) ?_
      intro K hK
      go_simp
      refine hK _ _ ⟨rfl, Kept.refl _, ?_⟩
      show _ = _
      simp only [gv1]
      rfl
    case q1o5 =>
      intro w1 hI
      intro v4 h4
      change _ = _ at h4
      subst v4
      refine turn2_on (by rfl) ?_
      intro K hK
      simp only [gv2]
      go_simp
      refine hK _ _ ⟨rfl, Kept.refl _, ?_⟩
      show _ = _
      simp only [gv1]
      rfl
    case q1o6 =>
      intro w1 hI
      refine turn2_on (by rfl) ?_
      intro K hK
      go_simp
      refine hK _ _ ⟨rfl, Kept.refl _, ?_⟩
      show _ = _
      simp only [gv1]
      rfl
    case q1o7 =>
      intro w1 hI
      intro v6 h6
      change _ = _ at h6
      subst v6
      refine turn2_on (by rfl) ?_
      intro K hK
      simp only [gv2]
      go_simp
      refine hK _ _ ⟨rfl, Kept.refl _, ?_⟩
      show _ = _
      simp only [gv1]
      rfl
    case q1o8 =>
      intro w1 hI
      intro v7 h7
      change _ = _ at h7
      subst v7
      refine turn2_on (by rfl) ?_
      intro K hK
      simp only [gv2]
      go_simp
      refine hK _ _ ⟨rfl, Kept.refl _, ?_⟩
      show _ = _
      simp only [gv1]
      rfl
    case q1o9 =>
      intro w1 hI
      replace hI : (fun w => w.heap[d]? = some (.cells #[.bool false, .int .i64 am, kv, .int .i64 st.size, .slice (some ⟨kb, 0, none⟩) st.kept.length st.kept.length, (.slice pa st.pend.length pc), .map (some mb), .int .i64 st.writes, .int .i64 st.reads] 51 (0, 0))) w1 := hI
      intro v8 h8
      change _ = _ at h8
      subst v8
      refine turn2_on (by rfl) ?_
      intro K hK
      simp only [gv2]
      obtain ⟨c0, c1, c2, c3, c4, c5, c6, c7, c8, cf⟩ := cellsD hI
      go_simp
      refine hK _ _ ⟨rfl, Kept.refl _, ?_⟩
      show _ = _
      simp only [gv1]
      rfl
    case q1o10 =>
      intro w1 hI
      intro v9 h9
      change _ = _ at h9
      subst v9
      refine turn2_on (by rfl) ?_
      intro K hK
      simp only [gv2]
      go_simp
      refine hK _ _ ⟨rfl, Kept.refl _, ?_⟩
      show _ = _
      simp only [gv1]
      rfl
    case q1o11 =>
      intro w1 hI
      replace hI : (fun w => MapAt w mb (lastOf st.pend)) w1 := hI
      intro v3 h3
      change _ = _ at h3
      subst v3
      intro v5 h5
      change _ = _ at h5
      subst v5
      intro v10 h10
      change _ = _ at h10
      subst v10
      refine turn2_on (by rfl) ?_
      intro K hK
      simp only [gv2]
      obtain ⟨w3, hrun, hmp, hg⟩ := map_put hI s ((st.pend.length : Nat) : Int) HWF.out
      go_simp
      refine hK _ _ ⟨rfl, hg, ?_⟩
      exact hmp
  intro w1 hI
  replace hI : (fun w => World.grownBy w2 w (some mb)) w1 := hI
  intro v0 h0
  change _ = _ at h0
  subst v0
  intro v1 h1
  change _ = _ at h1
  subst v1
  intro v2 h2
  change _ = _ at h2
  subst v2
  intro v3 h3
  change _ = _ at h3
  subst v3
  intro v4 h4
  change _ = _ at h4
  subst v4
  intro v5 h5
  change _ = _ at h5
  subst v5
  intro v6 h6
  change _ = _ at h6
  subst v6
  intro v7 h7
  change _ = _ at h7
  subst v7
  intro v8 h8
  change _ = _ at h8
  subst v8
  intro v9 h9
  change _ = _ at h9
  subst v9
  intro v10 h10
  change _ = _ at h10
  subst v10
  intro v11 h11
  simp only [Given, gv2]
  obtain ⟨w3, hw3⟩ : ∃ w3, w1 = w3 := ⟨_, rfl⟩
  subst w1
  have hrow9 : w3.drew.heap[d]? = _ := show w3.heap[d]? = _ from row_other (show w2.heap[d]? = _ from hrow8) hI (fun e => hne.2.1 (Option.some.inj e).symm)
  have hrd9 : RdAt .u8 w3.drew a st.size c l := (HR2.out.grown hI (fun x hx e => hnz x hx (by rw [Option.some.inj e]; exact P2.out.z mb (.inr (.inr (.inl rfl)))))).at0 rfl
  have hsz9 : w2.heap.size ≤ w3.drew.heap.size := hI.size
  have hown9 : w3.drew.ownsRow 0 104 2 (.slice pa st.pend.length pc) st.pend.length (pendC st.pend pvs) := ownsRow_at hown8 (fun g hg => hI.block g (hpvB g hg) (fun e => hpvm (by rw [hg]; exact e)))
  have hB9 : Spared d (Value.ownBlock (.slice pa st.pend.length pc)) w3 w3.drew := ⟨rfl, rfl, rfl, Nat.le_refl _, fun _ _ _ _ => rfl⟩
  have HI3 := Lib.hid hI
  have HMAP := Lib.hid h11
  clear hI h11 hrow8 hmap8 hB8
  go_wp2_with fail
  refine' reg_order [eqV _, eqV _, eqV _, eqV _, eqV _, eqV _, eqV _, (PF7 w2.heap.size l), (PF8 w2.heap.size s l), (PF9 w2.heap.size s l), (PF10 w2.heap.size s l (.slice pa st.pend.length pc) (pendC st.pend pvs) (st.pend.length + 1)), eqV _, eqV _, (fun _ w => ∃ pv', w.heap[d]? = some (.cells #[.bool false, .int .i64 am, kv, .int .i64 st.size, .slice (some ⟨kb, 0, none⟩) st.kept.length st.kept.length, pv', .map (some mb), .int .i64 st.writes, .int .i64 st.reads] 51 (0, 0)) ∧ PF10 w2.heap.size s l (.slice pa st.pend.length pc) (pendC st.pend pvs) (st.pend.length + 1) pv' w)] [(10, fun w w' => World.grownBy w w' (Value.ownBlock (.slice pa st.pend.length pc))), (13, fun w w' => World.grownBy w w' (some d))] [(4, fun w => w.heap[d]? = some (.cells #[.bool false, .int .i64 am, kv, .int .i64 st.size, .slice (some ⟨kb, 0, none⟩) st.kept.length st.kept.length, (.slice pa st.pend.length pc), .map (some mb), .int .i64 st.writes, .int .i64 st.reads] 51 (0, 0))), (7, fun w => RdAt .u8 w a st.size c l ∧ w2.heap.size ≤ w.heap.size), (9, fun w => w2.heap.size ≤ w.heap.size), (10, fun w => World.ownsRow w 0 104 2 (.slice pa st.pend.length pc) st.pend.length (pendC st.pend pvs)), (13, fun w => w.heap[d]? = some (.cells #[.bool false, .int .i64 am, kv, .int .i64 st.size, .slice (some ⟨kb, 0, none⟩) st.kept.length st.kept.length, (.slice pa st.pend.length pc), .map (some mb), .int .i64 st.writes, .int .i64 st.reads] 51 (0, 0))), (14, fun w => Spared d (Value.ownBlock (.slice pa st.pend.length pc)) w3 w)] [49, 50, 51, 52, 53, 54, 55, 56, 57, 58, 59, 60, 61, 82] [[], [], [1], [2], [3], [], [], [6], [5, 7], [8], [4, 9], [0], [11], [10, 12]] [0, 1, 2, 3, 4, 5, 6, 7, 8, 9, 10, 11, 12, 13] 14 (by kernel_rfl) ⟨eqV_stays _, eqV_stays _, eqV_stays _, eqV_stays _, eqV_stays _, eqV_stays _, eqV_stays _, fun _ _ _ p b => PF7.below p b, fun _ _ _ p b => PF8.below p b, fun _ _ _ p b => PF9.below p b, fun _ _ _ p b => PF10.below p b, eqV_stays _, eqV_stays _, fun _ _ _ ⟨y, p, q⟩ b => ⟨y, row_keep p b, q.below b⟩, trivial⟩ ⟨⟨.inl (eqV_stays _), .inl (eqV_stays _), .inl (eqV_stays _), .inl (eqV_stays _), .inl (eqV_stays _), .inl (eqV_stays _), .inl (eqV_stays _), .inl (fun _ _ _ p g => PF7.grown p g hpvB), .inl (fun _ _ _ p g => PF8.grown p g hpvB), .inl (fun _ _ _ p g => PF9.grown p g hpvB), .inr (.inr rfl), .inl (eqV_stays _), .inl (eqV_stays _), .inr (.inl (by kernel_rfl)), trivial⟩, ⟨.inl (eqV_stays _), .inl (eqV_stays _), .inl (eqV_stays _), .inl (eqV_stays _), .inl (eqV_stays _), .inl (eqV_stays _), .inl (eqV_stays _), .inl (fun _ _ _ p g => PF7.grown p g hdB), .inl (fun _ _ _ p g => PF8.grown p g hdB), .inl (fun _ _ _ p g => PF9.grown p g hdB), .inl (fun _ _ _ p g => PF10.grown p g hdB2 hpvd), .inl (eqV_stays _), .inl (eqV_stays _), .inr (.inr rfl), trivial⟩, trivial⟩ ⟨fun _ _ p b => row_keep p b, fun _ _ p b => ⟨p.1.below b, Nat.le_trans p.2 b.size⟩, fun _ _ p b => Nat.le_trans p b.size, fun _ _ p b => ownsRow_at p (fun g hg => b.block g (World.ownsRow.lt p g hg).2), fun _ _ p b => row_keep p b, fun _ _ p b => p.kept b, trivial⟩ ⟨⟨.inr (.inl (by kernel_rfl)), .inr (.inl (by kernel_rfl)), .inr (.inl (by kernel_rfl)), .inr (.inr rfl), .inl (fun _ _ p g => row_other p g hpvd), .inl (fun _ _ p g => p.row g), trivial⟩, ⟨.inr (.inl (by kernel_rfl)), .inr (.inl (by kernel_rfl)), .inr (.inl (by kernel_rfl)), .inr (.inl (by kernel_rfl)), .inr (.inr rfl), .inl (fun _ _ p g => p.at g), trivial⟩, trivial⟩ ⟨hrow9, ⟨hrd9, hsz9⟩, hsz9, hown9, hrow9, hB9, trivial⟩ 69 rfl (by kernel_rfl) (by kernel_rfl) rfl rfl 14 rfl ?q2obl ?q2fin
  case q2obl =>
    refine And.intro ?q2o0 (And.intro ?q2o1 (And.intro ?q2o2 (And.intro ?q2o3 (And.intro ?q2o4 (And.intro ?q2o5 (And.intro ?q2o6 (And.intro ?q2o7 (And.intro ?q2o8 (And.intro ?q2o9 (And.intro ?q2o10 (And.intro ?q2o11 (And.intro ?q2o12 (And.intro ?q2o13 (True.intro))))))))))))))
    case q2o0 =>
      intro w1 hI
      refine turn2_on (by rfl) ?_
      intro K hK
      go_simp
      refine hK _ _ ⟨rfl, Kept.refl _, ?_⟩
      show _ = _
      simp only [gv1]
      rfl
    case q2o1 =>
      intro w1 hI
      refine turn2_on (by rfl) ?_
      intro K hK
      go_simp
      refine hK _ _ ⟨rfl, Kept.refl _, ?_⟩
      show _ = _
      simp only [gv1]
      rfl
    case q2o2 =>
      intro w1 hI
      intro v1 h1
      change _ = _ at h1
      subst v1
      refine turn2_on (by rfl) ?_
      intro K hK
      simp only [gv2]
      go_simp
      refine hK _ _ ⟨rfl, Kept.refl _, ?_⟩
      show _ = _
      simp only [gv1]
      rfl
    case q2o3 =>
      intro w1 hI
      intro v2 h2
      change _ = _ at h2
      subst v2
      refine turn2_on (by rfl) ?_
      intro K hK
      simp only [gv2]
      go_simp
      refine hK _ _ ⟨rfl, Kept.refl _, ?_⟩
      show _ = _
      simp only [gv1]
      rfl
    case q2o4 =>
      intro w1 hI
      replace hI : (fun w => w.heap[d]? = some (.cells #[.bool false, .int .i64 am, kv, .int .i64 st.size, .slice (some ⟨kb, 0, none⟩) st.kept.length st.kept.length, (.slice pa st.pend.length pc), .map (some mb), .int .i64 st.writes, .int .i64 st.reads] 51 (0, 0))) w1 := hI
      intro v3 h3
      change _ = _ at h3
      subst v3
      refine turn2_on (by rfl) ?_
      intro K hK
      simp only [gv2]
      obtain ⟨c0, c1, c2, c3, c4, c5, c6, c7, c8, cf⟩ := cellsD hI
      go_simp
      refine hK _ _ ⟨rfl, Kept.refl _, ?_⟩
      show _ = _
      simp only [gv1]
      rfl
    case q2o5 =>
      intro w1 hI
      refine turn2_on (by rfl) ?_
      intro K hK
      go_simp
      refine hK _ _ ⟨rfl, Kept.refl _, ?_⟩
      show _ = _
      simp only [gv1]
      rfl
    case q2o6 =>
      intro w1 hI
      refine turn2_on (by rfl) ?_
      intro K hK
      go_simp
      refine hK _ _ ⟨rfl, Kept.refl _, ?_⟩
      show _ = _
      simp only [gv1]
      rfl
    case q2o7 =>
      intro w1 hI
      replace hI : (fun w => RdAt .u8 w a st.size c l ∧ w2.heap.size ≤ w.heap.size) w1 := hI
      intro v6 h6
      change _ = _ at h6
      subst v6
      refine turn2_on (by rfl) ?_
      intro K hK
      simp only [gv2]
      obtain ⟨hI, hwz⟩ := hI
      go_simp
      refine Calls.mono (clone_any _ _ _ _ _ hI HN.out) ?_
      rintro e w9 ⟨v9, rfl, ho9, hb9⟩
      refine hK _ _ ⟨rfl, hb9, ?_⟩
      show PF7 _ _ _ _
      simp only [gv1]
      exact Owns.mono ho9 hwz
    case q2o8 =>
      intro w1 hI
      intro v5 h5
      change _ = _ at h5
      subst v5
      intro v7 h7
      obtain ⟨a7, c7, rfl⟩ := Owns.shape h7
      refine turn2_on (by rfl) ?_
      intro K hK
      simp only [gv2]
      go_simp
      refine hK _ _ ⟨rfl, Kept.refl _, ?_⟩
      show PF8 _ _ _ _ _
      simp only [gv1]
      exact ⟨_, rfl, h7⟩
    case q2o9 =>
      intro w1 hI
      replace hI : (fun w => w2.heap.size ≤ w.heap.size) w1 := hI
      intro v8 h8
      obtain ⟨vb8, rfl, h8⟩ := h8
      obtain ⟨a8, c8, rfl⟩ := Owns.shape h8
      refine turn2_on (by rfl) ?_
      intro K hK
      simp only [gv2]
      go_simp
      refine hK _ _ ⟨rfl, Below.alloc (Below.refl _ _) (Nat.le_refl _) _, ?_⟩
      show PF9 _ _ _ _ _
      simp only [gv1]
      exact ⟨w1.heap.size, _, rfl, hI, heap_alloc_new _ _, Owns.alloc h8 _⟩
    case q2o10 =>
      intro w1 hI
      replace hI : (fun w => World.ownsRow w 0 104 2 (.slice pa st.pend.length pc) st.pend.length (pendC st.pend pvs)) w1 := hI
      intro v4 h4
      change _ = _ at h4
      subst v4
      intro v9 h9
      refine turn2_on (by rfl) ?_
      intro K hK
      simp only [gv2]
      refine wp_app_write (v := v9) (pv := (.slice pa st.pend.length pc)) 59 rfl (.tmp 53) (.tmp 58) rfl rfl rfl (show PF9 w2.heap.size s l v9 w1 from h9) hI hpvB HFEW.out ?_
      intro v2 w9 hg9 hp9
      refine hK _ _ ⟨rfl, hg9, ?_⟩
      show PF10 _ _ _ _ _ _ _ _
      simp only [gv1]
      exact hp9
    case q2o11 =>
      intro w1 hI
      intro v0 h0
      change _ = _ at h0
      subst v0
      refine turn2_on (by rfl) ?_
      intro K hK
      simp only [gv2]
      go_simp
      refine hK _ _ ⟨rfl, Kept.refl _, ?_⟩
      show _ = _
      simp only [gv1]
      rfl
    case q2o12 =>
      intro w1 hI
      intro v11 h11
      change _ = _ at h11
      subst v11
      refine turn2_on (by rfl) ?_
      intro K hK
      simp only [gv2]
      go_simp
      refine hK _ _ ⟨rfl, Kept.refl _, ?_⟩
      show _ = _
      simp only [gv1]
      rfl
    case q2o13 =>
      intro w1 hI
      replace hI : (fun w => w.heap[d]? = some (.cells #[.bool false, .int .i64 am, kv, .int .i64 st.size, .slice (some ⟨kb, 0, none⟩) st.kept.length st.kept.length, (.slice pa st.pend.length pc), .map (some mb), .int .i64 st.writes, .int .i64 st.reads] 51 (0, 0))) w1 := hI
      intro v10 h10
      intro v12 h12
      change _ = _ at h12
      subst v12
      refine turn2_on (by rfl) ?_
      intro K hK
      simp only [gv2]
      obtain ⟨c0, c1, c2, c3, c4, c5, c6, c7, c8, cf⟩ := cellsD hI
      have hsh : ∃ a c, v10 = .slice a (st.pend.length + 1) c := by obtain ⟨_, h, _⟩ := h10; exact owns_shape h
      obtain ⟨a10, c10, rfl⟩ := hsh
      go_simp
      refine hK _ _ ⟨rfl, put_grown _ _ _ _, ?_⟩
      exact ⟨_, by rw [heap_setCell_same _ d 5 _ _ _ hI]; simp, PF10.grown h10 (put_grown _ _ _ _) hdB2 hpvd⟩
  intro w1 hI
  replace hI : (fun w => Spared d (Value.ownBlock (.slice pa st.pend.length pc)) w3 w) w1 := hI
  intro v0 h0
  change _ = _ at h0
  subst v0
  intro v1 h1
  change _ = _ at h1
  subst v1
  intro v2 h2
  change _ = _ at h2
  subst v2
  intro v3 h3
  change _ = _ at h3
  subst v3
  intro v4 h4
  change _ = _ at h4
  subst v4
  intro v5 h5
  change _ = _ at h5
  subst v5
  intro v6 h6
  change _ = _ at h6
  subst v6
  intro v7 h7
  obtain ⟨a7, c7, rfl⟩ := Owns.shape h7
  intro v8 h8
  obtain ⟨vb8, rfl, h8⟩ := h8
  obtain ⟨a8, c8, rfl⟩ := Owns.shape h8
  intro v9 h9
  intro v10 h10
  intro v11 h11
  change _ = _ at h11
  subst v11
  intro v12 h12
  change _ = _ at h12
  subst v12
  intro v13 h13
  simp only [Given, gv2]
  obtain ⟨pv', hrow4, hpf⟩ := h13
  obtain ⟨c0, c1, c2, c3, c4, c5, c6, c7, c8, cf⟩ := cellsD hrow4
  have HROW4 := Lib.hid hrow4
  have HPF := Lib.hid hpf
  have HSP := Lib.hid hI
  clear hrow4 hpf hI
  go_wp2_with fail
  go_ret
  have hm4 : MapAt (w1.setCell ⟨d, 7, none⟩ (.int .i64 (st.writes + 1))) mb (fun t => if t = s then some ((st.pend.length : Nat) : Int) else lastOf st.pend t) := HMAP.out.at (by
    rw [heap_setCell_other w1 ⟨d, 7, none⟩ mb _ (fun e => hne.2.1 e.symm)]
    exact HSP.out.block mb HMAP.out.lt (fun e => hne.2.1 e.symm) (fun e => hpvm e.symm))
  have hput := P2.out.put (w5 := w1.setCell ⟨d, 7, none⟩ (.int .i64 (st.writes + 1))) (pv' := pv') hz2 s l HF.out (fun k hk h1 h2 h3 => by
    rw [heap_setCell_other w1 ⟨d, 7, none⟩ k _ h1, HSP.out.block k (Nat.lt_of_lt_of_le hk HI3.out.size) h1 h3]
    exact HI3.out.block k hk (fun e => h2 (Option.some.inj e))) ⟨HSP.out.os.trans HI3.out.os, HSP.out.tape.trans HI3.out.tape, HSP.out.output.trans HI3.out.output⟩ (by simpa using Nat.le_trans HI3.out.size HSP.out.size) (by
    rw [heap_setCell_same w1 d 7 _ _ _ HROW4.out]
    simp only [HO.out, ham]
    simp) hm4 (PF10.grown HPF.out (put_grown _ _ _ _) hdB2 hpvd) hfew hwr
  obtain ⟨Z', hin, ht5⟩ := hput
  exact ⟨rfl, Z', hin, T2.out.trans ht5⟩
set_option linter.unusedSimpArgs false in
set_option linter.unusedVariables false in
set_option maxRecDepth 100000 in
set_option maxHeartbeats 2000000 in
theorem write_cut (Z : Nat → Prop) (d : Nat) (st : Dk) (s : Int) (a : Option Addr) (n c : Nat) (l : List Int) (w : World) (h : DkIn w Z d st) (hr : RdAt .u8 w a n c l)
    (ho : st.off = false) (hf : fitW st s l = true) (ha1 : st.armed = 1) :
    Calls Try.prog 27 #[.pointer (some ⟨d, 0, none⟩), .int .i64 s, .slice a n c] w fun e w' => e = .returned (.int .i64 8) ∧ DkIn w' Z d (cutS st st.keep) ∧ Tnd Z Z w w' := by
  have H := Lib.hid h
  have HO := Lib.hid ho
  have hi : inS st s = true := by
    have h1 : (inS st s && decide (l.length = st.size)) = true := hf
    simp only [Bool.and_eq_true] at h1
    exact h1.1
  have hns : n = st.size := by
    have h1 : (inS st s && decide (l.length = st.size)) = true := hf
    simp only [Bool.and_eq_true, decide_eq_true_eq] at h1
    rw [← hr.len]; exact h1.2
  have HI := Lib.hid hi
  obtain ⟨hz, kb, mb, pv, kv, vals, pvs, p⟩ := h
  obtain ⟨c0, c1, c2, c3, c4, c5, c6, c7, c8, cf⟩ := cellsD p.row
  have P := Lib.hid p
  subst hns
  have ea : decide (st.armed = 1) = true := decide_eq_true ha1
  have HEA := Lib.hid ea
  clear ho hf hi p ea hr ha1
  go_enter Try.func27, Try.ntmps27
  go_wp2_with fail
  refine (off_any Z d st w H.out).mono ?_
  rintro e w1 ⟨rfl, rfl⟩
  rw [HO.out]
  go_wp2_with fail
  refine (there_any Z d st s w H.out).mono ?_
  rintro e w2 ⟨rfl, rfl⟩
  rw [HI.out]
  go_wp2_with fail
  refine (goes_any Z d kb mb pv kv vals pvs st w P.out hz).mono ?_
  rintro e w2 ⟨rfl, hp2, ht2, hz2⟩
  rw [HEA.out]
  obtain ⟨ka, kn, kc, hkv, hkr, hkq⟩ := hp2.keep
  have P2 := Lib.hid hp2
  have T2 := Lib.hid ht2
  have HKR := Lib.hid hkr
  have HKQ := Lib.hid hkq
  subst hkv
  clear c0 c1 c2 c3 c4 c5 c6 c7 c8 cf ht2 hkr hkq
  obtain ⟨c0, c1, c2, c3, c4, c5, c6, c7, c8, cf⟩ := cellsD hp2.row
  clear hp2
  go_wp2_with fail
  refine (cutP Z d kb mb pv _ vals pvs _ w2 P2.out hz2 ka kn kc st.keep HKR.out (fun x h1 h2 => ⟨hz2 _ (HKQ.out x h1 h2).2, (HKQ.out x h1 h2).1⟩)).mono ?_
  rintro e w3 ⟨rfl, hd3, ht3⟩
  have HD3 := Lib.hid hd3
  have HT3 := Lib.hid ht3
  clear hd3 ht3 c0 c1 c2 c3 c4 c5 c6 c7 c8 cf
  go_wp2_with fail
  go_ret
  exact ⟨rfl, HD3.out, T2.out.trans HT3.out⟩
set_option linter.unusedSimpArgs false in
set_option linter.unusedVariables false in
set_option maxRecDepth 100000 in
set_option maxHeartbeats 2000000 in
theorem write_any (Z : Nat → Prop) (d : Nat) (st : Dk) (s : Int) (a : Option Addr) (n c : Nat) (l : List Int) (w : World) (h : DkIn w Z d st) (hr : RdAt .u8 w a n c l) (hnz : ∀ x, a = some x → ¬ Z x.block) (hs1 : -9223372036854775808 ≤ s) (hs2 : s ≤ 9223372036854775807) (hfew : st.pend.length + 1 ≤ 1000000) (hwr : st.writes + 1 ≤ 4611686018427387904) :
    Calls Try.prog 27 #[.pointer (some ⟨d, 0, none⟩), .int .i64 s, .slice a n c] w fun e w' => e = .returned (.int .i64 (wrE st s l)) ∧ ∃ Z', DkIn w' Z' d (wrS st s l) ∧ Tnd Z Z' w w' := by
  have H := Lib.hid h
  cases ho : st.off with
  | true =>
    have e1 : wrE st s l = 8 := by unfold wrE; rw [ho]; rfl
    have e2 : wrS st s l = st := by unfold wrS; rw [ho]; rfl
    rw [e1, e2]
    have HO := Lib.hid ho
    clear ho h e1 e2 hr
    go_enter Try.func27, Try.ntmps27
    go_wp2_with fail
    refine (off_any Z d st w H.out).mono ?_
    rintro e w1 ⟨rfl, rfl⟩
    rw [HO.out]
    go_wp2_with fail
    go_ret
    exact ⟨rfl, Z, H.out, Tnd.refl _ _⟩
  | false =>
    have hlen := hr.len
    cases hi : inS st s with
    | false =>
      have hf : fitW st s l = false := by
        show (inS st s && _) = false
        rw [hi]; rfl
      have HI := Lib.hid hi
      have e1 : wrE st s l = 1 := by unfold wrE; rw [ho, hf]; rfl
      have e2 : wrS st s l = st := by unfold wrS; rw [ho, hf]; rfl
      rw [e1, e2]
      have HO := Lib.hid ho
      clear ho hf e1 e2 hi hr h hlen
      go_enter Try.func27, Try.ntmps27
      go_wp2_with fail
      refine (off_any Z d st w H.out).mono ?_
      rintro e w1 ⟨rfl, rfl⟩
      rw [HO.out]
      go_wp2_with fail
      refine (there_any Z d st s w H.out).mono ?_
      rintro e w2 ⟨rfl, rfl⟩
      rw [HI.out]
      go_wp2_with fail
      go_ret
      exact ⟨rfl, Z, H.out, Tnd.refl _ _⟩
    | true =>
      have HI := Lib.hid hi
      by_cases hns : n = st.size
      · have hf : fitW st s l = true := by
          show (inS st s && decide (l.length = st.size)) = true
          rw [hi, hlen, decide_eq_true hns]; rfl
        by_cases ha : st.armed = 1
        · have e1 : wrE st s l = 8 := by unfold wrE; rw [ho, hf, ha]; rfl
          have e2 : wrS st s l = cutS st st.keep := by unfold wrS; rw [ho, hf, ha]; rfl
          rw [e1, e2]
          exact (write_cut Z d st s a n c l w h hr ho hf ha).mono fun e w' ⟨x, y, z⟩ => ⟨x, Z, y, z⟩
        · have e1 : wrE st s l = 0 := by unfold wrE; rw [ho, hf]; simp [ha]
          have e2 : wrS st s l = putS st s l := by unfold wrS; rw [ho, hf]; simp [ha]
          rw [e1, e2]
          exact write_put Z d st s a n c l w h hr hnz hs1 hs2 hfew hwr ho hf ha
      · have hf : fitW st s l = false := by
          show (inS st s && decide (l.length = st.size)) = false
          rw [hi, hlen, decide_eq_false hns]; rfl
        have e1 : wrE st s l = 1 := by unfold wrE; rw [ho, hf]; rfl
        have e2 : wrS st s l = st := by unfold wrS; rw [ho, hf]; rfl
        rw [e1, e2]
        have HO := Lib.hid ho
        have d9 : decide ((n : Int) = st.size) = false := decide_eq_false (by omega)
        obtain ⟨hz, kb, mb, pv, kv, vals, pvs, p⟩ := h
        obtain ⟨c0, c1, c2, c3, c4, c5, c6, c7, c8, cf⟩ := cellsD p.row
        clear p ho hf e1 e2 hi hr hlen
        go_enter Try.func27, Try.ntmps27
        go_wp2_with fail
        refine (off_any Z d st w H.out).mono ?_
        rintro e w1 ⟨rfl, rfl⟩
        rw [HO.out]
        go_wp2_with fail
        refine (there_any Z d st s w H.out).mono ?_
        rintro e w2 ⟨rfl, rfl⟩
        rw [HI.out]
        go_wp2_with fail
        go_ret
        exact ⟨rfl, Z, H.out, Tnd.refl _ _⟩
end Go.Proofs.Ytlhpdkapddnbcaa
