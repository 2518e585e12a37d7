/- segs: a map of segments' entries: what it tells, laid, struck, ranged over. -/
import Derived.Test.YthikpggndjfeaaaProg
import Derived.Maps.Keyed
import Derived.Maps.RangeWalk
import Derived.DeepKeys4
import Derived.ProofKit
import Derived.WalkKit
namespace Go.Proofs.Ythikpggndjfeaaa
open Go.RowKit
open Go.ChangeMaps (setBlock)
set_option maxRecDepth 100000 in
theorem sg_laidOut : laidOutB Try.prog = true := by kernel_rfl
set_option maxRecDepth 100000 in
theorem sg_row : (63 : TypeId) < Try.prog.types.size := of_decide_eq_true (by kernel_rfl)
set_option maxRecDepth 100000 in
theorem sg_wide : (match Try.prog.underlying 63 with | some (.array _ _) | some (.struct _) => true | _ => false) = true := by kernel_rfl
set_option maxRecDepth 100000 in
theorem nameK : Maps.Keyed Try.prog 63 := Maps.Keyed.of_law (deep_law_laid sg_laidOut (m := 2) (by omega) sg_row (by kernel_rfl) sg_wide)
set_option maxRecDepth 100000 in
theorem name_key (s : Int) (h : (Lit.int .i64 s).wf = true) : ∃ l, keyOf Try.prog 63 (.agg #[.int .i64 s]) = some l := by
  unfold keyOf
  rw [Try.underlying63]
  have h1 : Try.prog.keyType 63 = true := by kernel_rfl
  have h2 : (Value.agg #[.int .i64 s]).formed Try.prog 63 = true := by kernel_rfl
  simp only [h1, h2]
  have h3 : Try.prog.types.size + 1 = (Try.prog.types.size - 1) + 1 + 1 := by kernel_rfl
  have h4 : Try.prog.cellsOf 63 = 1 := by kernel_rfl
  have h5 : Try.prog.cellsOf 3 = 1 := by kernel_rfl
  rw [h3]
  generalize Try.prog.types.size - 1 = N
  have h6 : Try.prog.keyLits (N + 1) 3 [.int .i64 s] = some [.int .i64 s] := by
    unfold Program.keyLits
    rw [Try.underlying3]
    simp [h]
  unfold Program.keyLits
  rw [Try.underlying63]
  simp [Value.cells, h4, h5, h6]
/-- An entry: its state, what is used, its epoch. -/
structure Ent where
  st : Int
  us : Int
  ep : Int
deriving DecidableEq
def ent0 : Ent := ⟨0, 0, 0⟩
def Ent.val (e : Ent) : Value := .agg #[.int .i64 e.st, .int .i64 e.us, .int .i64 e.ep]
set_option maxRecDepth 100000 in
theorem look_ent (w : World) : (zeroValue 61).run Try.prog w = .ok ent0.val w := by kernel_rfl
def keyE (s : Int) : Value := .agg #[.int .i64 s]
theorem keyE_inj {s t : Int} (h : keyE s = keyE t) : s = t := by
  unfold keyE at h
  simpa using h
theorem ent_inj {d e : Ent} (h : d.val = e.val) : d = e := by
  obtain ⟨a, b, c⟩ := d
  obtain ⟨x, y, z⟩ := e
  unfold Ent.val at h
  simp at h
  obtain ⟨rfl, rfl, rfl⟩ := h
  rfl
/-- What every entry of a map's block is. -/
def EntsAre (es : Array MapEntry) (f : Int → Option Ent) : Prop :=
  (∀ e ∈ es.toList, ∃ s i, e.key = keyE s ∧ (Lit.int .i64 s).wf = true ∧ e.val = i.val ∧ f s = some i) ∧ (∀ s, (∀ e ∈ es.toList, e.key ≠ keyE s) → f s = none)
structure MapE (w : World) (b : Nat) (f : Int → Option Ent) : Prop where
  all : ∃ es clock, w.heap[b]? = some (.map es clock) ∧ MapKept.Stamped es clock ∧ EntsAre es f
set_option maxRecDepth 100000 in
theorem ents_keys {es : Array MapEntry} {f : Int → Option Ent} (h : EntsAre es f) : ∀ e ∈ es.toList, ∃ l, keyOf Try.prog 63 e.key = some l := by
  intro e he
  obtain ⟨s, i, h1, h2, _⟩ := h.1 e he
  rw [h1]
  exact name_key s h2
theorem me_made (w : World) : MapE (w.alloc (.map #[] 0)) w.heap.size (fun _ => none) :=
  ⟨#[], 0, heap_alloc_new _ _, MapKept.stamped_empty 0, by simp, fun _ _ => rfl⟩
set_option maxRecDepth 100000 in
theorem me_look {w : World} {b : Nat} {f : Int → Option Ent} (h : MapE w b f) (s : Int) (hs : (Lit.int .i64 s).wf = true) :
    (Instr.lookup 57 (.map (some b)) (.agg #[.int .i64 s]) false).run Try.prog w = .ok ((f s).getD ent0).val w := by
  obtain ⟨es, clock, hb, _, hE⟩ := h.all
  obtain ⟨lk, hlk⟩ := name_key s hs
  have hchk := nameK.check w es.isEmpty hlk
  have hz := look_ent w
  have ht : Try.prog.underlying 57 = some (.map 63 61) := Try.underlying57
  rcases nameK.find w hlk es.toList (ents_keys hE) with ⟨hf, hne⟩ | ⟨j, e, hf, hj, hk⟩
  · have h0 : f s = none := hE.2 s hne
    rw [h0]
    simp [Instr.lookup, run_underlying ht, MapKept.run_getObj_map hb, hchk, hf, hz, Result.andThen]
  · obtain ⟨s', i, k1, _, k2, k3⟩ := hE.1 e (List.mem_of_getElem? hj)
    have : s' = s := keyE_inj (by rw [← k1, hk]; rfl)
    subst this
    rw [k3]
    simp [Instr.lookup, run_underlying ht, MapKept.run_getObj_map hb, hchk, hf, k2, Result.andThen]
theorem seg_set {w : World} {b : Nat} {o o' : Obj} (hb : w.heap[b]? = some o) : (setBlock w b o').heap[b]? = some o' := by
  have := (Array.getElem?_eq_some_iff.1 hb).1
  simp [setBlock, this]
theorem seg_set_grown (w : World) (b : Nat) (o' : Obj) : w.grownBy (setBlock w b o') (some b) :=
  ⟨rfl, rfl, rfl, by simp [setBlock], fun k _ hk => by
    have : b ≠ k := fun e => hk (by rw [e])
    simp [setBlock, Array.getElem?_setIfInBounds_ne this]⟩
theorem stamped_apart {es : Array MapEntry} {clock : Nat} (h : MapKept.Stamped es clock) {i j : Nat} {d e : MapEntry} (hi : es.toList[i]? = some d) (hj : es.toList[j]? = some e) (hk : d.key = e.key) : i = j := by
  obtain ⟨_, _, h3⟩ := (MapKept.stamped_iff es clock).1 h
  rw [List.pairwise_iff_getElem] at h3
  obtain ⟨li, ei⟩ := List.getElem?_eq_some_iff.1 hi
  obtain ⟨lj, ej⟩ := List.getElem?_eq_some_iff.1 hj
  rcases Nat.lt_trichotomy i j with h | h | h
  · exact absurd (by rw [ei, ej]; exact hk) (h3 i j li lj h)
  · exact h
  · exact absurd (by rw [ei, ej]; exact hk.symm) (h3 j i lj li h)
def putE (f : Int → Option Ent) (s : Int) (v : Ent) : Int → Option Ent := fun t => if t = s then some v else f t
def delE (f : Int → Option Ent) (s : Int) : Int → Option Ent := fun t => if t = s then none else f t
set_option maxRecDepth 100000 in
theorem me_put {w : World} {b : Nat} {f : Int → Option Ent} (h : MapE w b f) (s : Int) (v : Ent) (hs : (Lit.int .i64 s).wf = true) :
    ∃ w', (Instr.mapUpdate 57 (.map (some b)) (.agg #[.int .i64 s]) v.val).run Try.prog w = .ok () w' ∧ MapE w' b (putE f s v) ∧ w.grownBy w' (some b) := by
  obtain ⟨es, clock, hb, hst, hE⟩ := h.all
  obtain ⟨lk, hlk⟩ := name_key s hs
  have ht : Try.prog.underlying 57 = some (.map 63 61) := Try.underlying57
  rcases nameK.find w hlk es.toList (ents_keys hE) with ⟨h1, h2⟩ | ⟨j, e0, h1, h2, h3⟩
  · refine ⟨setBlock w b (.map (es.push ⟨.agg #[.int .i64 s], v.val, clock⟩) (clock + 1)), by simp [Instr.mapUpdate, run_underlying ht, MapKept.run_getObj_map hb, nameK.check w false hlk, h1, MapKept.run_setObj_map _ hb, Result.andThen, setBlock], ⟨_, _, seg_set hb, MapKept.stamped_push hst h2, ?_, ?_⟩, seg_set_grown _ _ _⟩
    · intro e he
      simp only [Array.toList_push, List.mem_append, List.mem_singleton] at he
      rcases he with he | rfl
      · obtain ⟨t, i, k1, k2, k3, k4⟩ := hE.1 e he
        have hne : t ≠ s := fun e1 => h2 e he (by rw [k1, e1]; rfl)
        exact ⟨t, i, k1, k2, k3, by unfold putE; rw [if_neg hne]; exact k4⟩
      · exact ⟨s, v, rfl, hs, rfl, if_pos rfl⟩
    · intro t hne
      have h0 : t ≠ s := fun e1 => hne ⟨.agg #[.int .i64 s], v.val, clock⟩ (by simp) (by rw [e1]; rfl)
      unfold putE
      rw [if_neg h0]
      exact hE.2 t (fun e he => hne e (by simp [he]))
  · have hj : es[j]? = some e0 := by simpa using h2
    have hst2 := MapKept.stamped_modify hst j (fun e' => { e' with key := .agg #[.int .i64 s], val := v.val }) (fun _ _ => rfl) (fun e _ he => by rw [hj] at he; injection he with he; rw [← he, h3])
    refine ⟨setBlock w b (.map (es.modify j (fun e' => { e' with key := .agg #[.int .i64 s], val := v.val })) clock), by simp [Instr.mapUpdate, run_underlying ht, MapKept.run_getObj_map hb, nameK.check w false hlk, h1, hj, h3, nameK.stays w hlk, MapKept.run_setObj_map _ hb, Result.andThen, setBlock], ⟨_, _, seg_set hb, hst2, ?_, ?_⟩, seg_set_grown _ _ _⟩
    all_goals
      have horig : ∀ (i : Nat) (e1 : MapEntry), (es.modify j (fun e' => { e' with key := .agg #[.int .i64 s], val := v.val })).toList[i]? = some e1 →
          (i = j ∧ e1.key = .agg #[.int .i64 s] ∧ e1.val = v.val) ∨ (i ≠ j ∧ es.toList[i]? = some e1) := by
        intro i e1 h
        rw [Array.getElem?_toList, Array.getElem?_modify] at h
        by_cases hij : j = i
        · subst hij
          rw [if_pos rfl, hj] at h
          simp only [Option.map_some] at h
          injection h with h
          exact .inl ⟨rfl, by rw [← h], by rw [← h]⟩
        · rw [if_neg hij] at h
          exact .inr ⟨fun e => hij e.symm, by rw [Array.getElem?_toList]; exact h⟩
    · intro e he
      obtain ⟨i, hi⟩ := List.getElem?_of_mem he
      rcases horig i e hi with ⟨_, k1, k2⟩ | ⟨hne, h5⟩
      · exact ⟨s, v, k1, hs, k2, if_pos rfl⟩
      · obtain ⟨t, x, k1, k2, k3, k4⟩ := hE.1 e (List.mem_of_getElem? h5)
        have hts : t ≠ s := fun e1 => hne (stamped_apart hst h5 h2 (by rw [k1, h3, e1]; rfl))
        exact ⟨t, x, k1, k2, k3, by unfold putE; rw [if_neg hts]; exact k4⟩
    · intro t hne
      have hts : t ≠ s := by
        intro e1
        have hm : ({ e0 with key := .agg #[.int .i64 s], val := v.val } : MapEntry) ∈ (es.modify j (fun e' => { e' with key := .agg #[.int .i64 s], val := v.val })).toList := by
          refine Array.mem_toList_iff.2 (Array.mem_of_getElem? (i := j) ?_)
          rw [Array.getElem?_modify, if_pos rfl, hj]
          rfl
        exact hne _ hm (by rw [e1]; rfl)
      unfold putE
      rw [if_neg hts]
      refine hE.2 t fun e he e1 => ?_
      obtain ⟨i, hi⟩ := List.getElem?_of_mem he
      by_cases hij : i = j
      · subst hij
        rw [h2] at hi
        injection hi with hi
        rw [← hi, h3] at e1
        exact hts (keyE_inj e1).symm
      · refine hne e (Array.mem_toList_iff.2 (Array.mem_of_getElem? (i := i) ?_)) e1
        rw [Array.getElem?_modify, if_neg (fun h => hij h.symm)]
        simpa using hi
theorem MapE.lt {w : World} {b : Nat} {f : Int → Option Ent} (h : MapE w b f) : b < w.heap.size := by
  obtain ⟨es, clock, hb, _⟩ := h.all
  exact (Array.getElem?_eq_some_iff.1 hb).1
theorem MapE.at {w w' : World} {b : Nat} {f : Int → Option Ent} (h : MapE w b f) (hb : w'.heap[b]? = w.heap[b]?) : MapE w' b f := by
  obtain ⟨es, clock, h1, h2⟩ := h.all
  exact ⟨es, clock, hb.trans h1, h2⟩
theorem MapE.grown {w w' : World} {b : Nat} {f : Int → Option Ent} {row : Option Nat} (h : MapE w b f) (hg : w.grownBy w' row) (hne : some b ≠ row) : MapE w' b f :=
  h.at (hg.block b h.lt hne)
theorem MapE.congr {w : World} {b : Nat} {f g : Int → Option Ent} (h : MapE w b f) (e : ∀ s, f s = g s) : MapE w b g := by
  have : f = g := funext e
  rw [← this]
  exact h
/-- 'for n, e := range m' under way: 'left' says whose entry is still to come. -/
structure IterE (w : World) (b r : Nat) (f : Int → Option Ent) (left : Int → Bool) : Prop where
  all : ∃ es clock since seen c0, w.heap[b]? = some (.map es clock) ∧ MapKept.Stamped es clock ∧ EntsAre es f ∧ w.heap[r]? = some (.mapIter (some b) since seen c0) ∧
    (∀ x ∈ es.toList, x.born < since) ∧ since ≤ c0 ∧ since ≤ clock ∧ (∀ e ∈ es.toList, ∀ s, e.key = keyE s → left s = !seen.contains e.born) ∧ (∀ s, left s = true → f s ≠ none)
theorem IterE.map {w : World} {b r : Nat} {f : Int → Option Ent} {left : Int → Bool} (h : IterE w b r f left) : MapE w b f := by
  obtain ⟨es, clock, _, _, _, h1, h2, h3, _⟩ := h.all
  exact ⟨es, clock, h1, h2, h3⟩
theorem IterE.ne {w : World} {b r : Nat} {f : Int → Option Ent} {left : Int → Bool} (h : IterE w b r f left) : r ≠ b := by
  obtain ⟨es, clock, _, _, _, h1, _, _, h2, _⟩ := h.all
  intro e
  rw [e, h1] at h2
  cases h2
theorem IterE.lt {w : World} {b r : Nat} {f : Int → Option Ent} {left : Int → Bool} (h : IterE w b r f left) : r < w.heap.size := by
  obtain ⟨es, clock, _, _, _, _, _, _, h2, _⟩ := h.all
  exact (Array.getElem?_eq_some_iff.1 h2).1
theorem IterE.grown {w w' : World} {b r : Nat} {f : Int → Option Ent} {left : Int → Bool} {row : Option Nat} (h : IterE w b r f left) (hg : w.grownBy w' row) (hb : some b ≠ row) (hr : some r ≠ row) : IterE w' b r f left := by
  have l1 := h.map.lt
  have l2 := h.lt
  obtain ⟨es, clock, since, seen, c0, h1, h2, h3, h4, h5⟩ := h.all
  exact ⟨es, clock, since, seen, c0, (hg.block b l1 hb).trans h1, h2, h3, (hg.block r l2 hr).trans h4, h5⟩
/-- How many entries are still to come. -/
def toCome (w : World) (b r : Nat) : Nat := w.rangeLeft b r
theorem toCome_at {w w' : World} {b r : Nat} (hb : w'.heap[b]? = w.heap[b]?) (hr : w'.heap[r]? = w.heap[r]?) : toCome w' b r = toCome w b r := by
  unfold toCome World.rangeLeft
  rw [hb, hr]
set_option maxRecDepth 100000 in
theorem me_range {w : World} {b : Nat} {f : Int → Option Ent} (h : MapE w b f) :
    ∃ w', (Instr.range 57 (.map (some b))).run Try.prog w = .ok (.pointer (some ⟨w.heap.size, 0, none⟩)) w' ∧ IterE w' b w.heap.size f (fun s => (f s).isSome) ∧ w.grownBy w' none ∧ w'.heap.size = w.heap.size + 1 := by
  have hlt := h.lt
  obtain ⟨es, clock, hb, hst, hE⟩ := h.all
  have ht : Try.prog.underlying 57 = some (.map 63 61) := Try.underlying57
  refine ⟨_, run_range_map w _ _ _ b es clock ht hb, ⟨es, clock, clock, #[], clock, ((MapKept.heap_alloc w _).2 b hlt).trans hb, hst, hE, (MapKept.heap_alloc w _).1, hst.1, Nat.le_refl _, Nat.le_refl _, ?_, ?_⟩, World.grownBy_alloc w _ none, by simp⟩
  · intro e he s hk
    obtain ⟨t, i, k1, _, _, k4⟩ := hE.1 e he
    have : t = s := keyE_inj (by rw [← k1, hk])
    subst this
    rw [k4]
    simp
  · intro s hs e
    rw [e] at hs
    cases hs
set_option maxRecDepth 100000 in
theorem it_next {w : World} {b r : Nat} {f : Int → Option Ent} {left : Int → Bool} (h : IterE w b r f left) (ty : TypeId) :
    ((∀ s, left s = false) ∧ (Instr.next (.pointer (some ⟨r, 0, none⟩)) false ty).run Try.prog w = .ok (.tuple #[.bool false]) w) ∨
    ∃ s i w', left s = true ∧ f s = some i ∧ (Lit.int .i64 s).wf = true ∧ (Instr.next (.pointer (some ⟨r, 0, none⟩)) false ty).run Try.prog w = .ok (.tuple #[.bool true, .agg #[.int .i64 s], i.val]) w' ∧
      IterE w' b r f (fun t => left t && !decide (t = s)) ∧ w.grownBy w' (some r) ∧ w'.heap.size = w.heap.size ∧ toCome w' b r < toCome w b r ∧ (Instr.entry (.pointer (some ⟨r, 0, none⟩))).run Try.prog w' = .ok (.tuple #[.agg #[.int .i64 s], i.val]) w' := by
  have hne := h.ne
  obtain ⟨es, clock, since, seen, c0, hb, hst, hE, hr, hold, hsc, hsk, hl1, hl2⟩ := h.all
  rcases run_next_at (P := Try.prog) w ty r b since c0 seen es clock hr hb hold hsc with ⟨h0, hrun⟩ | ⟨e, he, w1, hal, hrun⟩
  · refine .inl ⟨fun s => ?_, hrun⟩
    cases hk : left s with
    | false => rfl
    | true =>
      have hf := hl2 s hk
      have : ∃ e ∈ es.toList, e.key = keyE s := Classical.byContradiction fun hn => hf (hE.2 s (fun e he hk2 => hn ⟨e, he, hk2⟩))
      obtain ⟨e, he, hke⟩ := this
      rw [hl1 e he s hke, all_seen es seen h0 e he] at hk
      cases hk
  · right
    have hem : e ∈ es.toList := by
      unfold leftOf at he
      simp at he
      simpa using he.1
    have hes : seen.contains e.born = false := by
      unfold leftOf at he
      simp at he
      simpa using he.2
    obtain ⟨s, i, k1, k2, k3, k4⟩ := hE.1 e hem
    have hr1 : w1.heap[r]? = some (.mapIter (some b) since seen c0) := by rcases hal with rfl | rfl <;> exact hr
    have hb1 : w1.heap[b]? = some (.map es clock) := by rcases hal with rfl | rfl <;> exact hb
    have hb2 : (setBlock w1 r (.mapIter (some b) since (seen.push e.born) clock)).heap[b]? = some (.map es clock) := by
      rw [(seg_set_grown w1 r _).block b (Array.getElem?_eq_some_iff.1 hb1).1 (fun q => hne (by injection q with q; exact q.symm))]
      exact hb1
    have hr2 : (setBlock w1 r (.mapIter (some b) since (seen.push e.born) clock)).heap[r]? = some (.mapIter (some b) since (seen.push e.born) clock) := seg_set hr1
    have hg : w.grownBy (setBlock w1 r (.mapIter (some b) since (seen.push e.born) clock)) (some r) := by
      have := seg_set_grown w1 r (.mapIter (some b) since (seen.push e.born) clock)
      rcases hal with rfl | rfl
      · exact this
      · exact ⟨this.os, this.tape, this.output, this.size, this.block⟩
    have hen := run_entry_at (P := Try.prog) _ r b since seen es clock e hr2 hb2 hem hst.2.1
    refine ⟨s, i, _, by rw [hl1 e hem s k1, hes]; rfl, k4, k2, by rw [hrun, k1, k3]; rfl, ⟨es, clock, since, _, clock, hb2, hst, hE, hr2, hold, hsk, hsk, ?_, ?_⟩, hg, ?_, ?_, by rw [hen, k1, k3]; rfl⟩
    · intro x hx t hk
      rw [hl1 x hx t hk]
      by_cases hts : t = s
      · subst hts
        obtain ⟨p, hp⟩ := List.getElem?_of_mem hx
        obtain ⟨q, hq⟩ := List.getElem?_of_mem hem
        have : p = q := stamped_apart hst hp hq (by rw [hk, k1])
        subst this
        rw [hp] at hq
        injection hq with hq
        subst hq
        simp
      · have hb3 : x.born ≠ e.born := fun hbb => by
          have := born_inj hst.2.1 hx hem hbb
          subst this
          exact hts (keyE_inj (by rw [← hk, k1]))
        simp [hts, hb3]
    · intro t ht
      simp only [Bool.and_eq_true] at ht
      exact hl2 t ht.1
    · rcases hal with rfl | rfl <;> simp [setBlock]
    · unfold toCome World.rangeLeft
      rw [hb2, hr2, hb, hr]
      exact left_shrinks es seen e he
set_option maxRecDepth 100000 in
/-- 'delete(m, n)' of the round's own key. -/
theorem it_del {w : World} {b r : Nat} {f : Int → Option Ent} {left : Int → Bool} (h : IterE w b r f left) (s : Int) (hs : (Lit.int .i64 s).wf = true) (hl : left s = false) (ty : TypeId) :
    ∃ w', (Builtin.delete_ #[57, 63] ty #[.map (some b), .agg #[.int .i64 s]]).run Try.prog w = .ok (.tuple #[]) w' ∧ IterE w' b r (delE f s) left ∧ w.grownBy w' (some b) ∧ w'.heap.size = w.heap.size ∧ toCome w' b r ≤ toCome w b r := by
  have hne := h.ne
  obtain ⟨es, clock, since, seen, c0, hb, hst, hE, hr, hold, hsc, hsk, hl1, hl2⟩ := h.all
  obtain ⟨lk, hlk⟩ := name_key s hs
  have ht : Try.prog.underlying 57 = some (.map 63 61) := Try.underlying57
  have hr2 : ∀ o, (setBlock w b o).heap[r]? = some (.mapIter (some b) since seen c0) := fun o => by
    rw [(seg_set_grown w b o).block r (Array.getElem?_eq_some_iff.1 hr).1 (fun q => hne (by injection q with q))]
    exact hr
  have hl3 : ∀ t, left t = true → delE f s t ≠ none := fun t h1 => by
    have h2 : t ≠ s := fun e => by rw [e, hl] at h1; cases h1
    unfold delE
    rw [if_neg h2]
    exact hl2 t h1
  rcases nameK.find w hlk es.toList (ents_keys hE) with ⟨h1, h2⟩ | ⟨j, e0, h1, h2, h3⟩
  · refine ⟨setBlock w b (.map es clock), by simp [Builtin.delete_, run_underlying ht, MapKept.run_getObj_map hb, nameK.check w _ hlk, h1, MapKept.run_setObj_map _ hb, Result.andThen, setBlock],
      ⟨es, clock, since, seen, c0, seg_set hb, hst, ⟨fun e he => ?_, fun t hn => ?_⟩, hr2 _, hold, hsc, hsk, hl1, hl3⟩, seg_set_grown _ _ _, by simp [setBlock], ?_⟩
    · obtain ⟨t, i, k1, k2, k3, k4⟩ := hE.1 e he
      have hts : t ≠ s := fun q => h2 e he (by rw [k1, q]; rfl)
      exact ⟨t, i, k1, k2, k3, by unfold delE; rw [if_neg hts]; exact k4⟩
    · unfold delE
      by_cases hts : t = s
      · rw [if_pos hts]
      · rw [if_neg hts]
        exact hE.2 t hn
    · exact Nat.le_of_eq (toCome_at (by rw [seg_set hb, hb]) (by rw [hr2, hr]))
  · have hjl : j < es.toList.length := (List.getElem?_eq_some_iff.1 h2).1
    have hjs : j < es.size := by simpa using hjl
    have hsub : (es.eraseIdxIfInBounds j).toList = es.toList.eraseIdx j := by
      unfold Array.eraseIdxIfInBounds
      rw [dif_pos hjs]
      simp
    have hin : ∀ x ∈ (es.eraseIdxIfInBounds j).toList, x ∈ es.toList := fun x hx => by rw [hsub] at hx; exact (List.eraseIdx_sublist _ _).subset hx
    have hmem : ∀ x, x ∈ (es.eraseIdxIfInBounds j).toList ↔ (x ∈ es.toList ∧ x.key ≠ keyE s) := fun x => by
      rw [hsub, List.mem_eraseIdx_iff_getElem?]
      constructor
      · rintro ⟨i, hni, hi⟩
        exact ⟨List.mem_of_getElem? hi, fun q => hni (stamped_apart hst hi h2 (by rw [q, h3]; rfl))⟩
      · rintro ⟨hx, hnx⟩
        obtain ⟨i, hi⟩ := List.getElem?_of_mem hx
        refine ⟨i, fun e1 => hnx ?_, hi⟩
        rw [e1, h2] at hi
        injection hi with hi
        rw [← hi, h3]
        rfl
    refine ⟨setBlock w b (.map (es.eraseIdxIfInBounds j) clock), by simp [Builtin.delete_, run_underlying ht, MapKept.run_getObj_map hb, nameK.check w _ hlk, h1, MapKept.run_setObj_map _ hb, Result.andThen, setBlock],
      ⟨_, clock, since, seen, c0, seg_set hb, MapKept.stamped_erase hst j, ⟨fun e he => ?_, fun t hn => ?_⟩, hr2 _, fun x hx => hold x (hin x hx), hsc, hsk, fun e he => hl1 e (hin e he), hl3⟩, seg_set_grown _ _ _, by simp [setBlock], ?_⟩
    · obtain ⟨he1, he2⟩ := (hmem e).1 he
      obtain ⟨t, i, k1, k2, k3, k4⟩ := hE.1 e he1
      have hts : t ≠ s := fun q => he2 (by rw [k1, q])
      exact ⟨t, i, k1, k2, k3, by unfold delE; rw [if_neg hts]; exact k4⟩
    · unfold delE
      by_cases hts : t = s
      · rw [if_pos hts]
      · rw [if_neg hts]
        refine hE.2 t fun e he hk => hn e ((hmem e).2 ⟨he, fun q => hts (keyE_inj (by rw [← hk, q]))⟩) hk
    · unfold toCome World.rangeLeft
      rw [seg_set hb, hr2, hb, hr]
      have e1 : ∀ a : Array MapEntry, (leftOf a seen).size = (a.toList.filter fun e => !seen.contains e.born).length := fun a => by
        unfold leftOf
        rw [← Array.toList_filter, Array.length_toList]
      show (leftOf _ seen).size ≤ (leftOf es seen).size
      rw [e1, e1, hsub]
      exact ((List.eraseIdx_sublist _ _).filter _).length_le
end Go.Proofs.Ythikpggndjfeaaa
