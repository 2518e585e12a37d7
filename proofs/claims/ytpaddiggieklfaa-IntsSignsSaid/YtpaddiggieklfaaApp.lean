/- append on rows of numbers that the call owns, in the walk's form. No program in sight. -/
import Derived.Test.YtpaddiggieklfaaMem
namespace Go.Proofs.Ytpaddiggieklfaa
open Go.RowKit

/-- The call owns (from block base on) the slice v, whose elements are the numbers l. -/
def Owns (k : IntKind) (e : TypeId) (w : World) (base : Nat) (v : Value) (l : List Int) : Prop := w.ownsRow base e 1 v l.length (l.map (Value.int k)) ∧ ∀ x ∈ l, (Lit.int k x).wf = true

theorem Owns.shape {k : IntKind} {e : TypeId} {w : World} {base : Nat} {v : Value} {l : List Int} (h : Owns k e w base v l) : ∃ a c, v = .slice a l.length c := by
  rcases h.1.2 with ⟨hv, hn⟩ | ⟨g, cap, cur, hv, _⟩
  · exact ⟨none, 0, by rw [hv, hn]⟩
  · exact ⟨_, _, hv⟩
theorem Owns.shapeN {k : IntKind} {e : TypeId} {w : World} {base : Nat} {v : Value} {l : List Int} (h : Owns k e w base v l) (n : Nat) (hn : l.length = n) : ∃ a c, v = .slice a n c := by
  subst hn; exact h.shape
theorem Owns.rd {k : IntKind} {e : TypeId} {w : World} {base : Nat} {a : Option Addr} {n c : Nat} {l : List Int} (h : Owns k e w base (.slice a n c) l) : RdAt k w a n c l := by
  obtain ⟨a', c', hv⟩ := h.shape
  injection hv with h1 h2 h3
  subst h2
  exact RdAt.owned h.1 h.2
theorem Owns.nil (k : IntKind) (e : TypeId) (w : World) (base : Nat) : Owns k e w base (.slice none 0 0) [] := ⟨World.ownsRow_nil w base e 1, by simp⟩
theorem Owns.alloc {k : IntKind} {e : TypeId} {w : World} {base : Nat} {v : Value} {l : List Int} (h : Owns k e w base v l) (o : Obj) : Owns k e (w.alloc o) base v l := ⟨h.1.alloc o, h.2⟩
theorem Owns.empty (k : IntKind) (e : TypeId) (w : World) (base : Nat) (hb : base ≤ w.heap.size) : Owns k e (w.alloc (.cells #[] e)) base (.slice (some ⟨w.heap.size, 0, none⟩) 0 0) [] :=
  ⟨by simpa using World.ownsRow_made (base := base) (e := e) (size := 1) w #[] 0 hb (by unfold maxLen; omega) rfl, by simp⟩
theorem Owns.mono {k : IntKind} {e : TypeId} {w : World} {base base' : Nat} {v : Value} {l : List Int} (h : Owns k e w base v l) (hb : base' ≤ base) : Owns k e w base' v l := by
  refine ⟨⟨h.1.1, ?_⟩, h.2⟩
  rcases h.1.2 with h2 | ⟨g, cap, cur, hv, hg, r⟩
  · exact .inl h2
  · exact .inr ⟨g, cap, cur, hv, by omega, r⟩
/-- What is owned from base on stays owned while nothing below the end of the heap is written. -/
theorem Owns.below {k : IntKind} {e : TypeId} {w w' : World} {base : Nat} {v : Value} {l : List Int} (h : Owns k e w base v l) (hb : Below w.heap.size w w') : Owns k e w' base v l := by
  refine ⟨⟨h.1.1, ?_⟩, h.2⟩
  rcases h.1.2 with h2 | ⟨g, cap, cur, hv, hg, hh, r⟩
  · exact .inl h2
  · refine .inr ⟨g, cap, cur, hv, hg, ?_, r⟩
    rw [hb.block g (Array.getElem?_eq_some_iff.1 hh).1]; exact hh

def elemInfo (P : Program) (e : TypeId) (k : IntKind) (bytes : Nat) : Prop := (P.info? e).map (fun i => (i.zero, i.size, i.bytes)) = some (some (.int k 0), 1, bytes)

section
variable {P : Program} {k : IntKind} {T e bytes : Nat} {ops : Array Oper} {rest : List Oper} {o : Oper} {a : Act} {Q : Exit → Act → World → Prop}

/-- append(s, x): one number; the walk has laid x into a new block of one cell. -/
theorem app_one (hT : P.underlying T = some (.slice e)) (hI : elemInfo P e k bytes) (hby : bytes ≤ 8) (hg : o.guard = none) (s x : Operand)
    (ho : o.op = .call { callee := .builtin .append, args := #[s, x], argTypes := #[T, T] }) (w : World) (base : Nat) (v : Value) (l : List Int) (hs : a.eval s = v) (hown : Owns k e w base v l)
    (q : Int) (hx : a.eval x = .slice (some ⟨w.heap.size, 0, none⟩) 1 1) (hq : (Lit.int k q).wf = true) (hlen : l.length ≤ 1099511627776) (hbase : base ≤ w.heap.size)
    (h : ∀ v' w', Owns k e w' base v' (l ++ [q]) → Below base w w' → wpList P ops Q rest (a.put o.dst v') w') :
    wpList P ops Q (o :: rest) a (w.alloc (.cells #[.int k q] e)) := by
  obtain ⟨i, hi, hz0, hz1, hz2⟩ := info_parts hI
  have hbb : (l.length + 1) * bytes ≤ (l.length + 1) * 8 := Nat.mul_le_mul_left _ hby
  refine wpList_append_own _ hg s x T ho base e i (.int k 0) 1 bytes hT hi hz0 hz1 hz2 rfl (by decide) v l.length _ hs (hown.alloc _).1 ⟨w.heap.size, 0, none⟩ 1 1 [.int k q] hx rfl ?_ ?_ ?_ ?_ ?_ ?_
  · intro j u hu
    cases j with
    | zero => simp at hu; subst hu; rw [Addr.add_lit]; simp
    | succ j => simp at hu
  · intro u hu; simp at hu; subst hu; rfl
  · unfold maxLen; omega
  · omega
  · simp; omega
  · intro v' w' h1 h2 _
    refine h v' w' ⟨by simpa using h1, ?_⟩ ?_
    · intro z hz
      rcases List.mem_append.1 hz with hz | hz
      · exact hown.2 z hz
      · simp at hz; subst hz; exact hq
    · refine ((Below.refl base w).alloc hbase _).grown h2 (by simp; omega) fun g hgk => ?_
      exact (hown.1.lt g hgk).1

/-- append(s, b...): all numbers of a slice. -/
theorem app_all (hT : P.underlying T = some (.slice e)) (hI : elemInfo P e k bytes) (hby : bytes ≤ 8) (hg : o.guard = none) (s x : Operand)
    (ho : o.op = .call { callee := .builtin .append, args := #[s, x], argTypes := #[T, T] }) (w : World) (base : Nat) (v : Value) (l : List Int) (hs : a.eval s = v) (hown : Owns k e w base v l)
    (b : Option Addr) (n c : Nat) (lb : List Int) (hx : a.eval x = .slice b n c) (hrd : RdAt k w b n c lb) (hlen : l.length + n ≤ 1099511627776) (hbase : base ≤ w.heap.size)
    (h : ∀ v' w', Owns k e w' base v' (l ++ lb) → Below base w w' → wpList P ops Q rest (a.put o.dst v') w') :
    wpList P ops Q (o :: rest) a w := by
  obtain ⟨i, hi, hz0, hz1, hz2⟩ := info_parts hI
  have hbb : (l.length + n) * bytes ≤ (l.length + n) * 8 := Nat.mul_le_mul_left _ hby
  have hl := hrd.len
  have hwf : ∀ z ∈ l ++ lb, (Lit.int k z).wf = true := by
    intro z hz
    rcases List.mem_append.1 hz with hz | hz
    · exact hown.2 z hz
    · exact hrd.wf z hz
  cases b with
  | none =>
    have hn : n = 0 := by
      cases n with
      | zero => rfl
      | succ n => obtain ⟨_, _, h', _⟩ := hrd.cell 0 (by omega); cases h'
    obtain rfl := hrd.void rfl
    subst hn
    obtain rfl : lb = [] := List.eq_nil_of_length_eq_zero hl
    refine wpList_plain hg fun K hK' => ?_
    have hrun := run_append_owned_none (P := P) w base T o.type e i 1 hT hi _ l.length _ hown.1
    unfold Oper.wp
    simp [execOp, ho, resolve, invoke, builtin, hs, hx, hrun, Result.andThen]
    exact hK' _ _ (h _ _ (by simpa using hown) (Below.refl _ _))
  | some ad =>
    refine wpList_append_own _ hg s x T ho base e i (.int k 0) 1 bytes hT hi hz0 hz1 hz2 rfl (by decide) v l.length _ hs hown.1 ad n c (lb.map (Value.int k)) hx (by simp [hl]) ?_ (ints_oneCell k lb) ?_ ?_ hbase ?_
    · intro j u hu
      have hj : j < n := by have := (List.getElem?_eq_some_iff.1 hu).1; simpa [hl] using this
      obtain ⟨b, o', e', hc⟩ := hrd.cell j hj
      injection e' with e'
      subst e'
      rw [Addr.add_lit, hc]
      rw [List.getElem?_map, List.getElem?_eq_getElem (by omega)] at hu
      rw [nth_eq (by omega)]; exact hu
    · unfold maxLen; omega
    · omega
    · intro v' w' h1 h2 _
      refine h v' w' ⟨by simpa [hl] using h1, hwf⟩ ?_
      exact (Below.refl base w).grown h2 hbase fun g hgk => (hown.1.lt g hgk).1
end
end Go.Proofs.Ytpaddiggieklfaa
