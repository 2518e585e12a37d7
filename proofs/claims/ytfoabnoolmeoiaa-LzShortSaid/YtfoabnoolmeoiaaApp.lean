/- append on rows of numbers that the call owns, in the walk's form. No program in sight. -/
import Derived.Test.YtfoabnoolmeoiaaMem
import Derived.Maps.AppendAt
import Derived.Deep.RegionHeld3
namespace Go.Proofs.Ytfoabnoolmeoiaa
open Go.RowKit

/-- The block that an append to the slice may write to: none where it has no room at all. -/
def room : Value → Option Nat
  | .slice (some a) _ c => if c = 0 then none else some a.block
  | _ => none
theorem room_some {v : Value} {g : Nat} (h : room v = some g) : v.ownBlock = some g := by
  unfold room at h
  split at h
  · split at h
    · cases h
    · exact h
  · cases h
theorem room_empty (a : Option Addr) (n : Nat) : room (.slice a n 0) = none := by cases a <;> simp [room]

/-- The call owns (from block base on) the slice v, whose elements are the numbers l: it has no room and no elements, or lies at the head of a row of its own. -/
def Owns (k : IntKind) (e : TypeId) (w : World) (base : Nat) (v : Value) (l : List Int) : Prop :=
  (∀ x ∈ l, (Lit.int k x).wf = true) ∧ ((l = [] ∧ ∃ a : Option Addr, v = .slice a 0 0 ∧ (∀ x, a = some x → x.spot = none)) ∨ w.ownsRow base e 1 v l.length (l.map (Value.int k)))

theorem Owns.shape {k : IntKind} {e : TypeId} {w : World} {base : Nat} {v : Value} {l : List Int} (h : Owns k e w base v l) : ∃ a c, v = .slice a l.length c := by
  rcases h.2 with ⟨rfl, a, hv, _⟩ | h2
  · exact ⟨a, 0, hv⟩
  · rcases h2.2 with ⟨hv, hn⟩ | ⟨g, cap, cur, hv, _⟩
    · exact ⟨none, 0, by rw [hv, hn]⟩
    · exact ⟨_, _, hv⟩
theorem Owns.shapeN {k : IntKind} {e : TypeId} {w : World} {base : Nat} {v : Value} {l : List Int} (h : Owns k e w base v l) (n : Nat) (hn : l.length = n) : ∃ a c, v = .slice a n c := by
  subst hn; exact h.shape
theorem Owns.rd {k : IntKind} {e : TypeId} {w : World} {base : Nat} {a : Option Addr} {n c : Nat} {l : List Int} (h : Owns k e w base (.slice a n c) l) : RdAt k w a n c l := by
  rcases h.2 with ⟨rfl, a', hv, _⟩ | h2
  · injection hv with h1 h2 h3
    subst h1 h2 h3
    exact ⟨rfl, Nat.le_refl _, by unfold maxLen; omega, fun i hi => by omega, by simp, fun _ => rfl⟩
  · obtain ⟨a', c', hv⟩ := h.shape
    injection hv with h1 h3 h4
    subst h3
    exact RdAt.owned h2 h.1
theorem Owns.nil (k : IntKind) (e : TypeId) (w : World) (base : Nat) : Owns k e w base (.slice none 0 0) [] := ⟨by simp, .inl ⟨rfl, none, rfl, fun _ h => by cases h⟩⟩
theorem Owns.empty (k : IntKind) (e : TypeId) (w : World) (base b o : Nat) : Owns k e w base (.slice (some ⟨b, o, none⟩) 0 0) [] := ⟨by simp, .inl ⟨rfl, _, rfl, fun x h => by injection h with h; rw [← h]⟩⟩
theorem Owns.alloc {k : IntKind} {e : TypeId} {w : World} {base : Nat} {v : Value} {l : List Int} (h : Owns k e w base v l) (o : Obj) : Owns k e (w.alloc o) base v l := ⟨h.1, h.2.imp id fun h2 => h2.alloc o⟩
theorem Owns.drew {k : IntKind} {e : TypeId} {w : World} {base : Nat} {v : Value} {l : List Int} (h : Owns k e w base v l) : Owns k e w.drew base v l := h
theorem Owns.mono {k : IntKind} {e : TypeId} {w : World} {base base' : Nat} {v : Value} {l : List Int} (h : Owns k e w base v l) (hb : base' ≤ base) : Owns k e w base' v l := by
  refine ⟨h.1, h.2.imp id fun h2 => ⟨h2.1, ?_⟩⟩
  rcases h2.2 with h3 | ⟨g, cap, cur, hv, hg, r⟩
  · exact .inl h3
  · exact .inr ⟨g, cap, cur, hv, by omega, r⟩
/-- What is owned stays owned while nothing that was there is written. -/
theorem Owns.below {k : IntKind} {e : TypeId} {w w' : World} {base : Nat} {v : Value} {l : List Int} (h : Owns k e w base v l) (hb : Below w.heap.size w w') : Owns k e w' base v l := by
  refine ⟨h.1, h.2.imp id fun h2 => ⟨h2.1, ?_⟩⟩
  rcases h2.2 with h3 | ⟨g, cap, cur, hv, hg, hh, r⟩
  · exact .inl h3
  · refine .inr ⟨g, cap, cur, hv, hg, ?_, r⟩
    rw [hb.block g (Array.getElem?_eq_some_iff.1 hh).1]; exact hh
theorem Owns.at_base {k : IntKind} {e : TypeId} {w : World} {base : Nat} {v : Value} {l : List Int} (h : Owns k e w base v l) : ∀ g, room v = some g → base ≤ g ∧ g < w.heap.size := by
  intro g hg
  rcases h.2 with ⟨_, a, hv, _⟩ | h2
  · rw [hv, room_empty] at hg; cases hg
  · exact h2.lt g (room_some hg)
/-- While an own row is written, another one stays. -/
theorem Owns.grown {k : IntKind} {e : TypeId} {w w' : World} {row : Option Nat} {base : Nat} {v : Value} {l : List Int} (h : Owns k e w base v l) (hg : w.grownBy w' row) (hne : ∀ g, room v = some g → some g ≠ row) : Owns k e w' base v l := by
  by_cases hr : room v = none
  · refine ⟨h.1, ?_⟩
    rcases h.2 with h2 | h2
    · exact .inl h2
    · rcases h2.2 with ⟨hv, hn⟩ | ⟨g, cap, cur, hv, hb, hh, hnc, hcm, hcs, ht⟩
      · exact .inl ⟨List.eq_nil_of_length_eq_zero hn, none, hv, fun _ h => by cases h⟩
      · have hc : cap = 0 := by
          subst hv
          unfold room at hr
          simp at hr
          exact hr
        subst hc
        have hl : l.length = 0 := by omega
        exact .inl ⟨List.eq_nil_of_length_eq_zero hl, _, by rw [hv, hl], fun x h => by injection h with h; rw [← h]⟩
  · obtain ⟨g, hgr⟩ := Option.ne_none_iff_exists'.1 hr
    exact ⟨h.1, h.2.imp id fun h2 => h2.kept hg (.inr (by rw [room_some hgr]; exact hne g hgr))⟩

/-- From w to w' the slice v has become v': nothing that was there has turned but the block that v had room in; v' has its room there or in a new block. -/
def Grows (w : World) (v : Value) (w' : World) (v' : Value) : Prop := w.grownBy w' (room v) ∧ (room v' = room v ∨ ∀ g, room v' = some g → w.heap.size ≤ g)
theorem Grows.refl (w : World) (v : Value) : Grows w v w v := ⟨⟨rfl, rfl, rfl, Nat.le_refl _, fun _ _ _ => rfl⟩, .inl rfl⟩
theorem Grows.trans {w w' w'' : World} {v v' v'' : Value} (h : Grows w v w' v') (k : Grows w' v' w'' v'') : Grows w v w'' v'' := by
  refine ⟨⟨k.1.os.trans h.1.os, k.1.tape.trans h.1.tape, k.1.output.trans h.1.output, Nat.le_trans h.1.size k.1.size, fun i hi hne => ?_⟩, ?_⟩
  · rw [k.1.block i (Nat.lt_of_lt_of_le hi h.1.size) ?_]
    · exact h.1.block i hi hne
    · rcases h.2 with e | e
      · rw [e]; exact hne
      · intro e'; have := e i e'.symm; omega
  · rcases k.2 with e | e
    · rw [e]; exact h.2
    · exact .inr fun g hg => Nat.le_trans h.1.size (e g hg)
theorem Grows.below {w w' : World} {v v' : Value} {base : Nat} (h : Grows w v w' v') (hb : base ≤ w.heap.size) (hv : ∀ g, room v = some g → base ≤ g) : Below base w w' :=
  (Below.refl base w).grown h.1 hb hv
theorem Grows.fromEmpty {w w1 : World} {v1 : Value} {o : Obj} {a : Option Addr} (h : Grows (w.alloc o) (.slice a 0 0) w1 v1) : Below w.heap.size w w1 :=
  ((Below.refl w.heap.size w).alloc (Nat.le_refl _) o).trans (h.below (by simp) (fun g hg => by rw [room_empty] at hg; cases hg))
/-- Behind an append to a slice without room all that was there is as it was. -/
theorem Grows.fromNone {w w1 : World} {a : Option Addr} {n : Nat} {v1 : Value} (h : Grows w (.slice a n 0) w1 v1) : Below w.heap.size w w1 :=
  h.below (Nat.le_refl _) (fun g hg => by rw [room_empty] at hg; cases hg)
/-- A slice elsewhere reads as it did. -/
theorem RdAt.grown {k : IntKind} {w w' : World} {row : Option Nat} {a : Option Addr} {n c : Nat} {l : List Int} (h : RdAt k w a n c l) (hg : w.grownBy w' row) (hne : ∀ x, a = some x → some x.block ≠ row) : RdAt k w' a n c l :=
  ⟨h.len, h.cap, h.max, fun i hi => by
    obtain ⟨b, o, e, hc⟩ := h.cell i hi
    exact ⟨b, o, e, hg.cell hc (show some b ≠ row from hne _ e)⟩, h.wf, h.void⟩

/-- While a row is written that lies behind all that was there at w0, what was read at w0 reads as it did. -/
theorem RdAt.apart {k : IntKind} {w0 w w' : World} {row : Option Nat} {a : Option Addr} {n c : Nat} {l : List Int} (h0 : RdAt k w0 a n c l) (h : RdAt k w a n c l) (hg : w.grownBy w' row) (hrow : ∀ g, row = some g → w0.heap.size ≤ g) : RdAt k w' a n c l :=
  ⟨h.len, h.cap, h.max, fun i hi => by
    obtain ⟨b, o, e, hc⟩ := h.cell i hi
    obtain ⟨b0, o0, e0, hc0⟩ := h0.cell i hi
    rw [e] at e0
    injection e0 with e0
    injection e0 with e1 e2
    subst e1 e2
    have hlt : b < w0.heap.size := block_lt_of_cell hc0
    exact ⟨b, o, e, hg.cell hc (fun hr => by have := hrow b hr.symm; omega)⟩, h.wf, h.void⟩
theorem Grows.newRoom {w w' : World} {a : Option Addr} {n : Nat} {v' : Value} (h : Grows w (.slice a n 0) w' v') : ∀ g, room v' = some g → w.heap.size ≤ g := by
  intro g hg
  rcases h.2 with e | e
  · rw [e, room_empty] at hg; cases hg
  · exact e g hg
/-- What holds below the heap's old size, handed on. -/
theorem Below.more {w W : World} (h : Below w.heap.size w W) (o : Obj) : Below w.heap.size w (W.alloc o) := h.alloc h.size o
theorem Below.call {w W W' : World} (h : Below w.heap.size w W) (k : Below W.heap.size W W') : Below w.heap.size w W' := h.trans (k.mono h.size)

def elemInfo (P : Program) (e : TypeId) (k : IntKind) (bytes : Nat) : Prop := (P.info? e).map (fun i => (i.zero, i.size, i.bytes)) = some (some (.int k 0), 1, bytes)

section
variable {P : Program} {k : IntKind} {T e bytes : Nat} {ops : Array Oper} {rest : List Oper} {o : Oper} {a : Act} {Q : Exit → Act → World → Prop}

/-- Nothing is appended: all is as it was. -/
theorem run_app_zero (hT : P.underlying T = some (.slice e)) (hI : elemInfo P e k bytes) (ty : TypeId) (w : World) (a0 : Option Addr) (m c0 : Nat) (hm : m ≤ c0) (b : Option Addr) (c : Nat) :
    (Builtin.append_ #[T, T] ty #[.slice a0 m c0, .slice b 0 c]).run P w = .ok (.slice a0 m c0) w := by
  obtain ⟨i, hi, hz0, hz1, hz2⟩ := info_parts hI
  cases a0 <;> cases b <;> simp [Builtin.append_, run_underlying hT, sizeOf, typeInfo, hi, Builtin.lenOf, Builtin.firstCells, loadCells, loadCellsFrom, storeCells, hm]

theorem cap_of_owns {w : World} {base : Nat} {a0 : Option Addr} {m c0 : Nat} {l : List Int} (h : Owns k e w base (.slice a0 m c0) l) : m ≤ c0 ∧ l.length = m :=
  ⟨h.rd.cap, h.rd.len⟩

/-- append of cells that lie at an address, to a slice that the call owns. -/
theorem run_app (hT : P.underlying T = some (.slice e)) (hI : elemInfo P e k bytes) (hby : bytes ≤ 8) (ty : TypeId) (w : World) (base : Nat) (v : Value) (l : List Int) (hown : Owns k e w base v l)
    (ad : Addr) (n c : Nat) (lb : List Int) (hl : lb.length = n) (hw : ∀ x ∈ lb, (Lit.int k x).wf = true) (hcell : ∀ j u, (lb.map (Value.int k))[j]? = some u → w.cell? (ad.add j) = some u) (hlen : l.length + n ≤ 1099511627776) (hbase : base ≤ w.heap.size) :
    ∃ v' w', (Builtin.append_ #[T, T] ty #[v, .slice (some ad) n c]).run P w = .ok v' w' ∧ Owns k e w' base v' (l ++ lb) ∧ Grows w v w' v' := by
  have hwf : ∀ z ∈ l ++ lb, (Lit.int k z).wf = true := by
    intro z hz
    rcases List.mem_append.1 hz with hz | hz
    · exact hown.1 z hz
    · exact hw z hz
  obtain ⟨a0, c0, rfl⟩ := hown.shape
  have hcap := (cap_of_owns hown).1
  by_cases hn : n = 0
  · subst hn
    obtain rfl : lb = [] := List.eq_nil_of_length_eq_zero hl
    exact ⟨_, _, run_app_zero hT hI ty w a0 _ c0 hcap (some ad) c, by simpa using hown, Grows.refl _ _⟩
  obtain ⟨i, hi, hz0, hz1, hz2⟩ := info_parts hI
  have hbb : (l.length + n) * bytes ≤ (l.length + n) * 8 := Nat.mul_le_mul_left _ hby
  by_cases hc : c0 = 0
  · subst hc
    obtain rfl : l = [] := List.eq_nil_of_length_eq_zero (by omega)
    have hgc := grownCap_ge w n 0 e
    have hown0 : ∀ (g : Nat) (hg : (w.drew.alloc (.cells (#[] ++ (lb.map (Value.int k)).toArray ++ Builtin.zeroCells (Value.int k 0).cells (grownCap w n 0 e - n)) e)).heap[g]? = some (.cells (#[] ++ (lb.map (Value.int k)).toArray ++ Builtin.zeroCells (Value.int k 0).cells (grownCap w n 0 e - n)) e)) (hgb : base ≤ g),
        (w.drew.alloc (.cells (#[] ++ (lb.map (Value.int k)).toArray ++ Builtin.zeroCells (Value.int k 0).cells (grownCap w n 0 e - n)) e)).ownsRow base e 1 (.slice (some ⟨g, 0, none⟩) n (grownCap w n 0 e)) lb.length (lb.map (Value.int k)) := by
      intro g hg hgb
      refine ⟨by simp, .inr ⟨g, _, _, by rw [hl], hgb, hg, by omega, grownCap_le_maxLen w n 0 e (by unfold maxLen; simp at hlen; omega), ?_, ?_⟩⟩
      · simp only [Array.size_append, List.size_toArray, size_zeroCells, List.length_map, hl]
        simp [Value.cells]; omega
      · simp [hl]
    cases a0 with
    | none =>
      have hrun := run_append_nil (P := P) w T ty e i (.int k 0) hT hi hz0 ad n c (lb.map (Value.int k)) (by simp [hl, hz1]) hcell (by omega) (by simp at hlen; omega) (by rw [hz2]; simp at hbb hlen; omega)
      refine ⟨_, _, hrun, ⟨by simpa using hw, .inr ?_⟩, ⟨⟨rfl, rfl, rfl, by simp, fun j hj _ => Below.heap_alloc w.drew _ j hj⟩, .inr fun g hg => ?_⟩⟩
      · simpa using hown0 w.heap.size (heap_alloc_new w.drew _) hbase
      · have := room_some hg
        simp [Value.ownBlock] at this
        omega
    | some g0 =>
      have hrun := run_append_grow (P := P) w T ty e i (.int k 0) hT hi hz0 g0 0 0 [] (by simp) (by simp) ad n c (lb.map (Value.int k)) (by simp [hl, hz1]) hcell (by omega) (by simp at hlen; omega) (growslice_fits (by omega) (by rw [hz2]; simp at hlen hbb ⊢; omega))
      rw [Nat.zero_add] at hrun
      refine ⟨_, _, hrun, ⟨by simpa using hw, .inr ?_⟩, ⟨⟨rfl, rfl, rfl, by simp, fun j hj _ => Below.heap_alloc w.drew _ j hj⟩, .inr fun g hg => ?_⟩⟩
      · simpa using hown0 w.heap.size (heap_alloc_new w.drew _) hbase
      · have := room_some hg
        simp [Value.ownBlock] at this
        omega
  · have hrow : w.ownsRow base e 1 (.slice a0 l.length c0) l.length (l.map (Value.int k)) := by
      rcases hown.2 with ⟨_, a1, hv, _⟩ | h2
      · injection hv with _ _ h3; exact absurd h3 hc
      · exact h2
    have hroom : room (.slice a0 l.length c0) = Value.ownBlock (.slice a0 l.length c0) := by
      cases a0 <;> simp [room, Value.ownBlock, hc]
    obtain ⟨v', w', hr', h1, h2, _, h4⟩ := run_append_own_at (P := P) w base T ty e i (.int k 0) 1 bytes hT hi hz0 hz1 hz2 rfl (by decide) _ l.length _ hrow ad n c (lb.map (Value.int k)) (by simp [hl]) hcell (ints_oneCell k lb) (by unfold maxLen; omega) (by omega) hbase
    refine ⟨v', w', hr', ⟨hwf, .inr (by simpa [hl] using h1)⟩, ⟨by rw [hroom]; exact h2, ?_⟩⟩
    by_cases hv' : room v' = none
    · exact .inr fun g hg => by rw [hv'] at hg; cases hg
    · obtain ⟨g, hgr⟩ := Option.ne_none_iff_exists'.1 hv'
      have hgo := room_some hgr
      rcases h4 with h4 | h4
      · exact .inl (by rw [hgr, hroom, ← h4, hgo])
      · exact .inr fun g' hg' => by rw [hgr] at hg'; injection hg' with hg'; rw [hgo] at h4; injection h4 with h4; omega

/-- append(s, x): one number; the walk has laid x into a new block of one cell. -/
theorem run_app_one (hT : P.underlying T = some (.slice e)) (hI : elemInfo P e k bytes) (hby : bytes ≤ 8) (ty : TypeId) (w : World) (base : Nat) (v : Value) (l : List Int) (hown : Owns k e w base v l)
    (q : Int) (hq : (Lit.int k q).wf = true) (hlen : l.length ≤ 1099511627775) (hbase : base ≤ w.heap.size) :
    ∃ v' w', (Builtin.append_ #[T, T] ty #[v, .slice (some ⟨w.heap.size, 0, none⟩) 1 1]).run P (w.alloc (.cells #[.int k q] e)) = .ok v' w' ∧ Owns k e w' base v' (l ++ [q]) ∧ Grows w v w' v' := by
  obtain ⟨v', w', hr, h1, h2, h4⟩ := run_app (P := P) hT hI hby ty (w.alloc (.cells #[.int k q] e)) base v l (hown.alloc _) ⟨w.heap.size, 0, none⟩ 1 1 [q] rfl (by simpa using hq) (by
      intro j u hu
      cases j with
      | zero => simp at hu; subst hu; rw [Addr.add_lit]; simp
      | succ j => simp at hu) (by omega) (by simp; omega)
  refine ⟨v', w', hr, h1, ⟨?_, ?_⟩⟩
  · have hs := h2.size
    rw [World.size_alloc] at hs
    exact ⟨h2.os, h2.tape, h2.output, by omega, fun j hj hne => by rw [h2.block j (by rw [World.size_alloc]; omega) hne]; exact Below.heap_alloc w _ j hj⟩
  · rcases h4 with h4 | h4
    · exact .inl h4
    · exact .inr fun g hg => by have := h4 g hg; rw [World.size_alloc] at this; omega

/-- append(s, b...): all numbers of a slice. -/
theorem run_app_all (hT : P.underlying T = some (.slice e)) (hI : elemInfo P e k bytes) (hby : bytes ≤ 8) (ty : TypeId) (w : World) (base : Nat) (v : Value) (l : List Int) (hown : Owns k e w base v l)
    (b : Option Addr) (n c : Nat) (lb : List Int) (hrd : RdAt k w b n c lb) (hlen : l.length + n ≤ 1099511627776) (hbase : base ≤ w.heap.size) :
    ∃ v' w', (Builtin.append_ #[T, T] ty #[v, .slice b n c]).run P w = .ok v' w' ∧ Owns k e w' base v' (l ++ lb) ∧ Grows w v w' v' := by
  have hl := hrd.len
  cases b with
  | none =>
    have hn : n = 0 := by
      cases n with
      | zero => rfl
      | succ n => obtain ⟨_, _, h', _⟩ := hrd.cell 0 (by omega); cases h'
    subst hn
    obtain rfl : lb = [] := List.eq_nil_of_length_eq_zero hl
    obtain ⟨a0, c0, rfl⟩ := hown.shape
    exact ⟨_, _, run_app_zero hT hI ty w a0 _ c0 (cap_of_owns hown).1 none c, by simpa using hown, Grows.refl _ _⟩
  | some ad =>
    exact run_app hT hI hby ty w base v l hown ad n c lb hl hrd.wf (by
        intro j u hu
        have hj : j < n := by have := (List.getElem?_eq_some_iff.1 hu).1; simpa [hl] using this
        obtain ⟨b, o', e', hc⟩ := hrd.cell j hj
        injection e' with e'
        subst e'
        rw [Addr.add_lit, hc]
        rw [List.getElem?_map, List.getElem?_eq_getElem (by omega)] at hu
        rw [nth_eq (by omega)]; exact hu) hlen hbase

theorem app_one (hT : P.underlying T = some (.slice e)) (hI : elemInfo P e k bytes) (hby : bytes ≤ 8) (hg : o.guard = none) (s x : Operand)
    (ho : o.op = .call { callee := .builtin .append, args := #[s, x], argTypes := #[T, T] }) (w : World) (base : Nat) (v : Value) (l : List Int) (hs : a.eval s = v) (hown : Owns k e w base v l)
    (q : Int) (hx : a.eval x = .slice (some ⟨w.heap.size, 0, none⟩) 1 1) (hq : (Lit.int k q).wf = true) (hlen : l.length ≤ 1099511627775) (hbase : base ≤ w.heap.size)
    (h : ∀ v' w', Owns k e w' base v' (l ++ [q]) → Grows w v w' v' → wpList P ops Q rest (a.put o.dst v') w') :
    wpList P ops Q (o :: rest) a (w.alloc (.cells #[.int k q] e)) := by
  refine wpList_plain hg fun K hK => ?_
  obtain ⟨v', w', hr, h1, h2⟩ := run_app_one (P := P) hT hI hby o.type w base v l hown q hq hlen hbase
  unfold Oper.wp execOp
  simp only [ho, resolve, invoke, builtin, Sem.run_bind, Sem.run_pure, Result.andThen_ok, List.map_toArray, List.map_cons, List.map_nil, hs, hx, hr]
  exact hK _ _ (h v' w' h1 h2)

theorem app_all (hT : P.underlying T = some (.slice e)) (hI : elemInfo P e k bytes) (hby : bytes ≤ 8) (hg : o.guard = none) (s x : Operand)
    (ho : o.op = .call { callee := .builtin .append, args := #[s, x], argTypes := #[T, T] }) (w : World) (base : Nat) (v : Value) (l : List Int) (hs : a.eval s = v) (hown : Owns k e w base v l)
    (b : Option Addr) (n c : Nat) (lb : List Int) (hx : a.eval x = .slice b n c) (hrd : RdAt k w b n c lb) (hlen : l.length + n ≤ 1099511627776) (hbase : base ≤ w.heap.size)
    (h : ∀ v' w', Owns k e w' base v' (l ++ lb) → Grows w v w' v' → wpList P ops Q rest (a.put o.dst v') w') :
    wpList P ops Q (o :: rest) a w := by
  refine wpList_plain hg fun K hK => ?_
  obtain ⟨v', w', hr, h1, h2⟩ := run_app_all (P := P) hT hI hby o.type w base v l hown b n c lb hrd hlen hbase
  unfold Oper.wp execOp
  simp only [ho, resolve, invoke, builtin, Sem.run_bind, Sem.run_pure, Result.andThen_ok, List.map_toArray, List.map_cons, List.map_nil, hs, hx, hr]
  exact hK _ _ (h v' w' h1 h2)

/-- The same two at a step of a region that draws its order. -/
theorem step_app_one {K : Act → World → Prop} {E : Prop} (hT : P.underlying T = some (.slice e)) (hI : elemInfo P e k bytes) (hby : bytes ≤ 8) (hg : o.guard = none) (s x : Operand)
    (ho : o.op = .call { callee := .builtin .append, args := #[s, x], argTypes := #[T, T] }) (w : World) (base : Nat) (v : Value) (l : List Int) (hs : a.eval s = v) (hown : Owns k e w base v l)
    (q : Int) (hx : a.eval x = .slice (some ⟨w.heap.size, 0, none⟩) 1 1) (hq : (Lit.int k q).wf = true) (hlen : l.length ≤ 1099511627775) (hbase : base ≤ w.heap.size)
    (h : ∀ v' w', Owns k e w' base v' (l ++ [q]) → Grows w v w' v' → K (a.put o.dst v') w') :
    if Region.wanted o (yielded ops a.tmps) = true then Oper.wp P o a (w.alloc (.cells #[.int k q] e)) K Q else E := by
  rw [if_pos (by simp [Region.wanted, hg])]
  obtain ⟨v', w', hr, h1, h2⟩ := run_app_one (P := P) hT hI hby o.type w base v l hown q hq hlen hbase
  unfold Oper.wp execOp
  simp only [ho, resolve, invoke, builtin, Sem.run_bind, Sem.run_pure, Result.andThen_ok, List.map_toArray, List.map_cons, List.map_nil, hs, hx, hr]
  exact h v' w' h1 h2
theorem step_app_all {K : Act → World → Prop} {E : Prop} (hT : P.underlying T = some (.slice e)) (hI : elemInfo P e k bytes) (hby : bytes ≤ 8) (hg : o.guard = none) (s x : Operand)
    (ho : o.op = .call { callee := .builtin .append, args := #[s, x], argTypes := #[T, T] }) (w : World) (base : Nat) (v : Value) (l : List Int) (hs : a.eval s = v) (hown : Owns k e w base v l)
    (b : Option Addr) (n c : Nat) (lb : List Int) (hx : a.eval x = .slice b n c) (hrd : RdAt k w b n c lb) (hlen : l.length + n ≤ 1099511627776) (hbase : base ≤ w.heap.size)
    (h : ∀ v' w', Owns k e w' base v' (l ++ lb) → Grows w v w' v' → K (a.put o.dst v') w') :
    if Region.wanted o (yielded ops a.tmps) = true then Oper.wp P o a w K Q else E := by
  rw [if_pos (by simp [Region.wanted, hg])]
  obtain ⟨v', w', hr, h1, h2⟩ := run_app_all (P := P) hT hI hby o.type w base v l hown b n c lb hrd hlen hbase
  unfold Oper.wp execOp
  simp only [ho, resolve, invoke, builtin, Sem.run_bind, Sem.run_pure, Result.andThen_ok, List.map_toArray, List.map_cons, List.map_nil, hs, hx, hr]
  exact h v' w' h1 h2
end
end Go.Proofs.Ytfoabnoolmeoiaa
