/- Regions that draw their order: small steps for a walk that is written out, order by order. No program in sight. -/
import Derived.Test.YtfoabnoolmeoiaaApp
import Derived.Deep.DrawnRows
namespace Go.Proofs.Ytfoabnoolmeoiaa
open Go.RowKit

section
variable {P : Program} {l : List Oper} {Q : Exit → Act → World → Prop}

/-- Which operations have come up: a number's bits. -/
def bitsA (n m : Nat) : Array Bool := ((List.range n).map fun i => m.testBit i).toArray

theorem get_of_drop {i : Nat} {o : Oper} {r : List Oper} (h : l.drop i = o :: r) : l.toArray[i]? = some o := by
  have h1 : (l.drop i)[0]? = some o := by rw [h]; rfl
  rw [List.getElem?_drop] at h1
  simpa using h1

/-- Operation i, which yields v in whatever world, is taken first. -/
theorem reg_take (i : Nat) {o : Oper} {r : List Oper} {d : Tmp} {v : Value} {fuel : Nat} {listed listed' : Array Bool} {t : Array Value} {ds : List Deferred} {w : World} (ho : l.drop i = o :: r) (hd : o.dst = some d) (hl : listed.setIfInBounds i true = listed')
    (hs : Region.noSelect l.toArray = true) (hf : Region.free .any l.toArray listed i = true) (hr : (Region.ready .any l.toArray listed).contains i = true)
    (hQ : ∀ c a w, Q (.panic c) (a.put o.dst v) w → Q (.panic c) a w) (hw : Region.wanted o (yielded l.toArray t) = true)
    (hy : ∀ w, (execOp (Act.mk t ds).eval o).run P w = .ok (.value v) w)
    (h : wpAny P .any l.toArray Q fuel listed' ⟨t.setIfInBounds d v, ds⟩ w) : wpAny P .any l.toArray Q (fuel + 1) listed ⟨t, ds⟩ w := by
  refine wpAny_take (get_of_drop ho) hs hf hr hQ (.inl ⟨hw, hy⟩) ?_
  rw [hl, hd]
  exact h
/-- Its guard says no: it is passed over. -/
theorem reg_pass (i : Nat) {o : Oper} {r : List Oper} {d : Tmp} {fuel : Nat} {listed listed' : Array Bool} {t : Array Value} {ds : List Deferred} {w : World} (ho : l.drop i = o :: r) (hd : o.dst = some d) (hl : listed.setIfInBounds i true = listed')
    (hs : Region.noSelect l.toArray = true) (hf : Region.free .any l.toArray listed i = true) (hr : (Region.ready .any l.toArray listed).contains i = true)
    (hQ : ∀ c a w, Q (.panic c) (a.put o.dst undef) w → Q (.panic c) a w) (hw : Region.wanted o (yielded l.toArray t) = false)
    (h : wpAny P .any l.toArray Q fuel listed' ⟨t.setIfInBounds d undef, ds⟩ w) : wpAny P .any l.toArray Q (fuel + 1) listed ⟨t, ds⟩ w := by
  refine wpAny_take (v := undef) (get_of_drop ho) hs hf hr hQ (.inr ⟨hw, rfl⟩) ?_
  rw [hl, hd]
  exact h

/-- What is to be shown of an operation that comes up: its run, and what follows. -/
def Comes1 (P : Program) (l : List Oper) (Q : Exit → Act → World → Prop) (fuel : Nat) (listed' : Array Bool) (o : Oper) (a : Act) (w : World) : Prop :=
  ∀ K : Act → World → Prop, (∀ a w, wpAny P .any l.toArray Q fuel listed' a w → K a w) → Oper.wp P o a w K Q

theorem reg_step {fuel i : Nat} {o : Oper} {r : List Oper} {listed listed' : Array Bool} {a : Act} {w : World} (ho : l.drop i = o :: r) (hl : listed.setIfInBounds i true = listed') (hg : o.guard = none)
    (h : Comes1 P l Q fuel listed' o a w) : wpOp P l.toArray Q i (wpAny P .any l.toArray Q fuel (listed.setIfInBounds i true)) a w := by
  subst hl
  exact wpOp_step (get_of_drop ho) (fun K hK => by rw [if_pos (by simp [Region.wanted, hg])]; exact h K hK)

theorem reg_one (i1 : Nat) {o1 : Oper} {r1 : List Oper} {fuel : Nat} {listed m1 : Array Bool} {a : Act} {w : World} (ho1 : l.drop i1 = o1 :: r1) (hl1 : listed.setIfInBounds i1 true = m1) (hg1 : o1.guard = none)
    (hr : Region.ready .any l.toArray listed = [i1]) (h1 : Comes1 P l Q fuel m1 o1 a w) : wpAny P .any l.toArray Q (fuel + 1) listed a w :=
  wpAny_all hr (by simp) (fun i hi => by
    simp at hi; subst hi; exact reg_step ho1 hl1 hg1 h1)
theorem reg_two (i1 i2 : Nat) {o1 o2 : Oper} {r1 r2 : List Oper} {fuel : Nat} {listed m1 m2 : Array Bool} {a : Act} {w : World} (ho1 : l.drop i1 = o1 :: r1) (hl1 : listed.setIfInBounds i1 true = m1) (hg1 : o1.guard = none)
    (ho2 : l.drop i2 = o2 :: r2) (hl2 : listed.setIfInBounds i2 true = m2) (hg2 : o2.guard = none)
    (hr : Region.ready .any l.toArray listed = [i1, i2]) (h1 : Comes1 P l Q fuel m1 o1 a w) (h2 : Comes1 P l Q fuel m2 o2 a w) : wpAny P .any l.toArray Q (fuel + 1) listed a w :=
  wpAny_all hr (by simp) (fun i hi => by
    simp at hi
    rcases hi with hi | hi
    · subst hi; exact reg_step ho1 hl1 hg1 h1
    · subst hi; exact reg_step ho2 hl2 hg2 h2)
theorem reg_three (i1 i2 i3 : Nat) {o1 o2 o3 : Oper} {r1 r2 r3 : List Oper} {fuel : Nat} {listed m1 m2 m3 : Array Bool} {a : Act} {w : World} (ho1 : l.drop i1 = o1 :: r1) (hl1 : listed.setIfInBounds i1 true = m1) (hg1 : o1.guard = none)
    (ho2 : l.drop i2 = o2 :: r2) (hl2 : listed.setIfInBounds i2 true = m2) (hg2 : o2.guard = none)
    (ho3 : l.drop i3 = o3 :: r3) (hl3 : listed.setIfInBounds i3 true = m3) (hg3 : o3.guard = none)
    (hr : Region.ready .any l.toArray listed = [i1, i2, i3]) (h1 : Comes1 P l Q fuel m1 o1 a w) (h2 : Comes1 P l Q fuel m2 o2 a w) (h3 : Comes1 P l Q fuel m3 o3 a w) : wpAny P .any l.toArray Q (fuel + 1) listed a w :=
  wpAny_all hr (by simp) (fun i hi => by
    simp at hi
    rcases hi with hi | hi | hi
    · subst hi; exact reg_step ho1 hl1 hg1 h1
    · subst hi; exact reg_step ho2 hl2 hg2 h2
    · subst hi; exact reg_step ho3 hl3 hg3 h3)

theorem reg_four (i1 i2 i3 i4 : Nat) {o1 o2 o3 o4 : Oper} {r1 r2 r3 r4 : List Oper} {fuel : Nat} {listed m1 m2 m3 m4 : Array Bool} {a : Act} {w : World} (ho1 : l.drop i1 = o1 :: r1) (hl1 : listed.setIfInBounds i1 true = m1) (hg1 : o1.guard = none)
    (ho2 : l.drop i2 = o2 :: r2) (hl2 : listed.setIfInBounds i2 true = m2) (hg2 : o2.guard = none)
    (ho3 : l.drop i3 = o3 :: r3) (hl3 : listed.setIfInBounds i3 true = m3) (hg3 : o3.guard = none)
    (ho4 : l.drop i4 = o4 :: r4) (hl4 : listed.setIfInBounds i4 true = m4) (hg4 : o4.guard = none)
    (hr : Region.ready .any l.toArray listed = [i1, i2, i3, i4]) (h1 : Comes1 P l Q fuel m1 o1 a w) (h2 : Comes1 P l Q fuel m2 o2 a w) (h3 : Comes1 P l Q fuel m3 o3 a w) (h4 : Comes1 P l Q fuel m4 o4 a w) : wpAny P .any l.toArray Q (fuel + 1) listed a w :=
  wpAny_all hr (by simp) (fun i hi => by
    simp at hi
    rcases hi with hi | hi | hi | hi
    · subst hi; exact reg_step ho1 hl1 hg1 h1
    · subst hi; exact reg_step ho2 hl2 hg2 h2
    · subst hi; exact reg_step ho3 hl3 hg3 h3
    · subst hi; exact reg_step ho4 hl4 hg4 h4)

theorem reg_start {id : Nat} {a : Act} {w : World} (hm : P.follows .mixedOrders = true) (n : Nat) (hn : l.length = n) (h0 : Array.replicate n false = bitsA n 0) (h : wpAny P .any l.toArray Q n (bitsA n 0) a w.drew) : (Code.region id l.toArray true).wp P Q a w := by
  subst hn
  refine wp_region_any hm ?_
  rw [List.size_toArray, h0]
  exact h
theorem reg_done {listed : Array Bool} {a : Act} {w : World} (hr : Region.ready .any l.toArray listed = []) (h : Q .normal a w) : wpAny P .any l.toArray Q 0 listed a w := wpAny_done hr h 0
end

section
variable {P : Program} {k : IntKind} {T e bytes : Nat} {o : Oper} {t : Array Value} {ds : List Deferred} {Q : Exit → Act → World → Prop} {K : Act → World → Prop}
theorem wp_of_run {v : Value} {w w' : World} (d : Tmp) (hd : o.dst = some d) (hrun : (execOp (Act.mk t ds).eval o).run P w = .ok (.value v) w') (h : K ⟨t.setIfInBounds d v, ds⟩ w') : Oper.wp P o ⟨t, ds⟩ w K Q := by
  unfold Oper.wp
  rw [hrun]
  show K ((Act.mk t ds).put o.dst v) w'
  rw [hd]
  exact h
/-- A slice literal without elements. -/
theorem wp_empty (d : Tmp) (hd : o.dst = some d) (e : Nat) (w : World) (hrun : (execOp (Act.mk t ds).eval o).run P w = .ok (.value (.slice (some ⟨w.heap.size, 0, none⟩) 0 0)) (w.alloc (.cells #[] e)))
    (h : K ⟨t.setIfInBounds d (.slice (some ⟨w.heap.size, 0, none⟩) 0 0), ds⟩ (w.alloc (.cells #[] e))) : Oper.wp P o ⟨t, ds⟩ w K Q := wp_of_run d hd hrun h
theorem wp_app_all (d : Tmp) (hd : o.dst = some d) (hT : P.underlying T = some (.slice e)) (hI : elemInfo P e k bytes) (hby : bytes ≤ 8) (s x : Operand)
    (ho : o.op = .call { callee := .builtin .append, args := #[s, x], argTypes := #[T, T] }) (w : World) (base : Nat) (v : Value) (l : List Int) (hs : (Act.mk t ds).eval s = v) (hown : Owns k e w base v l)
    (b : Option Addr) (n c : Nat) (lb : List Int) (hx : (Act.mk t ds).eval x = .slice b n c) (hrd : RdAt k w b n c lb) (hlen : l.length + n ≤ 1099511627776) (hbase : base ≤ w.heap.size)
    (h : ∀ v' w', Owns k e w' base v' (l ++ lb) → Grows w v w' v' → K ⟨t.setIfInBounds d v', ds⟩ w') :
    Oper.wp P o ⟨t, ds⟩ w K Q := by
  obtain ⟨v', w', hr, h1, h2⟩ := run_app_all (P := P) hT hI hby o.type w base v l hown b n c lb hrd hlen hbase
  refine wp_of_run d hd (v := v') (w' := w') ?_ (h v' w' h1 h2)
  unfold execOp
  simp only [ho, resolve, invoke, builtin, Sem.run_bind, Sem.run_pure, Result.andThen_ok, List.map_toArray, List.map_cons, List.map_nil, hs, hx, hr]
theorem wp_app_one (d : Tmp) (hd : o.dst = some d) (hT : P.underlying T = some (.slice e)) (hI : elemInfo P e k bytes) (hby : bytes ≤ 8) (s x : Operand)
    (ho : o.op = .call { callee := .builtin .append, args := #[s, x], argTypes := #[T, T] }) (w : World) (base : Nat) (v : Value) (l : List Int) (hs : (Act.mk t ds).eval s = v) (hown : Owns k e w base v l)
    (q : Int) (hx : (Act.mk t ds).eval x = .slice (some ⟨w.heap.size, 0, none⟩) 1 1) (hq : (Lit.int k q).wf = true) (hlen : l.length ≤ 1099511627775) (hbase : base ≤ w.heap.size)
    (h : ∀ v' w', Owns k e w' base v' (l ++ [q]) → Grows w v w' v' → K ⟨t.setIfInBounds d v', ds⟩ w') :
    Oper.wp P o ⟨t, ds⟩ (w.alloc (.cells #[.int k q] e)) K Q := by
  obtain ⟨v', w', hr, h1, h2⟩ := run_app_one (P := P) hT hI hby o.type w base v l hown q hq hlen hbase
  refine wp_of_run d hd (v := v') (w' := w') ?_ (h v' w' h1 h2)
  unfold execOp
  simp only [ho, resolve, invoke, builtin, Sem.run_bind, Sem.run_pure, Result.andThen_ok, List.map_toArray, List.map_cons, List.map_nil, hs, hx, hr]
theorem wp_conv {src dst : TypeId} (d : Tmp) (hd : o.dst = some d) (hs : P.underlying src = some (.slice e)) (he : P.underlying e = some (.int .u8)) (hdt : P.underlying dst = some .string) (x : Operand) (ho : o.op = .convert src dst x)
    {w : World} {a : Option Addr} {n c : Nat} {l : List Int} (hx : (Act.mk t ds).eval x = .slice a n c) (hrd : RdAt .u8 w a n c l)
    (h : K ⟨t.setIfInBounds d (.string (strOfNums l)), ds⟩ w) : Oper.wp P o ⟨t, ds⟩ w K Q := by
  have hr := conv_rd hs he hdt hrd
  refine wp_of_run d hd ?_ h
  unfold execOp
  simp only [ho, hx]
  simp [hr, Result.andThen]
end
end Go.Proofs.Ytfoabnoolmeoiaa
