/- A map of places: what it tells, laid, cleared. -/
import Derived.Test.YtpgncmoagmkcmaaProg
import Derived.Maps.Keyed
import Derived.DeepKeys4
import Derived.ProofKit
import Derived.WalkKit
namespace Go.Proofs.Ytpgncmoagmkcmaa
open Go.RowKit
theorem dk_laidOut : laidOutB Try.prog = true := by kernel_rfl
theorem dk_row : (73 : TypeId) < Try.prog.types.size := of_decide_eq_true (by kernel_rfl)
theorem dk_wide : (match Try.prog.underlying 73 with | some (.array _ _) | some (.struct _) => true | _ => false) = true := by kernel_rfl
theorem placeK : Maps.Keyed Try.prog 73 := Maps.Keyed.of_law (deep_law_laid dk_laidOut (m := 2) (by omega) dk_row (by kernel_rfl) dk_wide)
theorem place_key (s : Int) (h : (Lit.int .i64 s).wf = true) : ∃ l, keyOf Try.prog 73 (.agg #[.int .i64 s]) = some l := by
  unfold keyOf
  rw [Try.underlying73]
  have h1 : Try.prog.keyType 73 = true := by kernel_rfl
  have h2 : (Value.agg #[.int .i64 s]).formed Try.prog 73 = true := by kernel_rfl
  simp only [h1, h2]
  have h3 : Try.prog.types.size + 1 = (Try.prog.types.size - 1) + 1 + 1 := by kernel_rfl
  have h4 : Try.prog.cellsOf 73 = 1 := by kernel_rfl
  have h5 : Try.prog.cellsOf 3 = 1 := by kernel_rfl
  rw [h3]
  generalize Try.prog.types.size - 1 = N
  have h6 : Try.prog.keyLits (N + 1) 3 [.int .i64 s] = some [.int .i64 s] := by
    unfold Program.keyLits
    rw [Try.underlying3]
    simp [h]
  unfold Program.keyLits
  rw [Try.underlying73]
  simp [Value.cells, h4, h5, h6]
theorem look_zero (w : World) : (zeroValue 3).run Try.prog w = .ok (.int .i64 0) w := by kernel_rfl
/-- A map of places in block b: what it tells of each. -/
def keyS (s : Int) : Value := .agg #[.int .i64 s]
structure MapAt (w : World) (b : Nat) (f : Int → Option Int) : Prop where
  all : ∃ es clock, w.heap[b]? = some (.map es clock) ∧ (∀ e ∈ es.toList, ∃ s i, e.key = keyS s ∧ (Lit.int .i64 s).wf = true ∧ e.val = .int .i64 i ∧ f s = some i) ∧
    (∀ s, (∀ e ∈ es.toList, e.key ≠ keyS s) → f s = none) ∧ (∀ (i j : Nat) (e1 e2 : MapEntry), es[i]? = some e1 → es[j]? = some e2 → e1.key = e2.key → i = j)
theorem keyS_inj {s t : Int} (h : keyS s = keyS t) : s = t := by
  unfold keyS at h
  simpa using h
theorem map_keys {es : Array MapEntry} {f : Int → Option Int} (h : ∀ e ∈ es.toList, ∃ s i, e.key = keyS s ∧ (Lit.int .i64 s).wf = true ∧ e.val = .int .i64 i ∧ f s = some i) : ∀ e ∈ es.toList, ∃ l, keyOf Try.prog 73 e.key = some l := by
  intro e he
  obtain ⟨s, i, h1, h2, _⟩ := h e he
  rw [h1]
  exact place_key s h2
theorem map_made (w : World) : MapAt (w.alloc (.map #[] 0)) w.heap.size (fun _ => none) :=
  ⟨#[], 0, heap_alloc_new _ _, by simp, fun _ _ => rfl, by simp⟩
theorem map_look {w : World} {b : Nat} {f : Int → Option Int} (h : MapAt w b f) (s : Int) (hs : (Lit.int .i64 s).wf = true) :
    (Instr.lookup 35 (.map (some b)) (.agg #[.int .i64 s]) true).run Try.prog w = .ok (.tuple #[.int .i64 ((f s).getD 0), .bool (f s).isSome]) w := by
  obtain ⟨es, clock, hb, hall, hno, _⟩ := h.all
  obtain ⟨lk, hlk⟩ := place_key s hs
  have hchk := placeK.check w es.isEmpty hlk
  have hz := look_zero w
  have ht : Try.prog.underlying 35 = some (.map 73 3) := Try.underlying35
  rcases placeK.find w hlk es.toList (map_keys hall) with ⟨hf, hne⟩ | ⟨j, e, hf, hj, hk⟩
  · have h0 : f s = none := hno s hne
    rw [h0]
    simp [Instr.lookup, run_underlying ht, MapKept.run_getObj_map hb, hchk, hf, hz, Result.andThen]
  · obtain ⟨s', i, k1, _, k2, k3⟩ := hall e (List.mem_of_getElem? hj)
    have : s' = s := keyS_inj (by rw [← k1, hk]; rfl)
    subst this
    rw [k3]
    simp [Instr.lookup, run_underlying ht, MapKept.run_getObj_map hb, hchk, hf, k2, Result.andThen]
theorem set_block {w : World} {b : Nat} {o o' : Obj} (hb : w.heap[b]? = some o) : ({ w with heap := w.heap.setIfInBounds b o' } : World).heap[b]? = some o' := by
  show (w.heap.setIfInBounds b o')[b]? = some o'
  rw [Array.getElem?_setIfInBounds_self, if_pos (Array.getElem?_eq_some_iff.1 hb).1]
theorem set_block_grown (w : World) (b : Nat) (o' : Obj) : w.grownBy { w with heap := w.heap.setIfInBounds b o' } (some b) :=
  ⟨rfl, rfl, rfl, by simp, fun k _ hk => by
    show (w.heap.setIfInBounds b o')[k]? = w.heap[k]?
    rw [Array.getElem?_setIfInBounds_ne (fun e => hk (by rw [e]))]⟩
theorem map_put {w : World} {b : Nat} {f : Int → Option Int} (h : MapAt w b f) (s v : Int) (hs : (Lit.int .i64 s).wf = true) :
    ∃ w', (Instr.mapUpdate 35 (.map (some b)) (.agg #[.int .i64 s]) (.int .i64 v)).run Try.prog w = .ok () w' ∧ MapAt w' b (fun t => if t = s then some v else f t) ∧ w.grownBy w' (some b) := by
  obtain ⟨es, clock, hb, hall, hno, huniq⟩ := h.all
  obtain ⟨lk, hlk⟩ := place_key s hs
  have ht : Try.prog.underlying 35 = some (.map 73 3) := Try.underlying35
  rcases placeK.find w hlk es.toList (map_keys hall) with ⟨h1, h2⟩ | ⟨j, e0, h1, h2, h3⟩
  · refine ⟨_, by simp [Instr.mapUpdate, run_underlying ht, MapKept.run_getObj_map hb, placeK.check w false hlk, h1, MapKept.run_setObj_map _ hb, Result.andThen], ⟨es.push ⟨.agg #[.int .i64 s], .int .i64 v, clock⟩, clock + 1, set_block hb, ?_, ?_, ?_⟩, set_block_grown _ _ _⟩
    · intro e he
      simp only [Array.toList_push, List.mem_append, List.mem_singleton] at he
      rcases he with he | rfl
      · obtain ⟨t, i, k1, k2, k3, k4⟩ := hall e he
        have hne : t ≠ s := fun e1 => h2 e he (by rw [k1, e1]; rfl)
        exact ⟨t, i, k1, k2, k3, by rw [if_neg hne]; exact k4⟩
      · exact ⟨s, v, rfl, hs, rfl, if_pos rfl⟩
    · intro t hne
      have h0 : t ≠ s := fun e1 => hne ⟨.agg #[.int .i64 s], .int .i64 v, clock⟩ (by simp) (by rw [e1]; rfl)
      rw [if_neg h0]
      exact hno t (fun e he => hne e (by simp [he]))
    · intro i j e1 e2 hi hj he
      rw [Array.getElem?_push] at hi hj
      by_cases ci : i = es.size
      · by_cases cj : j = es.size
        · omega
        · rw [if_pos ci] at hi
          rw [if_neg cj] at hj
          injection hi with hi
          exact absurd (by rw [← he, ← hi]) (h2 e2 (Array.mem_toList_iff.2 (Array.mem_of_getElem? hj)))
      · rw [if_neg ci] at hi
        by_cases cj : j = es.size
        · rw [if_pos cj] at hj
          injection hj with hj
          exact absurd (by rw [he, ← hj]) (h2 e1 (Array.mem_toList_iff.2 (Array.mem_of_getElem? hi)))
        · rw [if_neg cj] at hj
          exact huniq i j e1 e2 hi hj he
  · have hj : es[j]? = some e0 := by simpa using h2
    refine ⟨_, by simp [Instr.mapUpdate, run_underlying ht, MapKept.run_getObj_map hb, placeK.check w false hlk, h1, hj, h3, placeK.stays w hlk, MapKept.run_setObj_map _ hb, Result.andThen], ⟨es.modify j (fun e' => { e' with key := .agg #[.int .i64 s], val := .int .i64 v }), clock, set_block hb, ?_, ?_, ?_⟩, set_block_grown _ _ _⟩
    all_goals
      have horig : ∀ (i : Nat) (e1 : MapEntry), (es.modify j (fun e' => { e' with key := .agg #[.int .i64 s], val := .int .i64 v }))[i]? = some e1 →
          (i = j ∧ e1.key = .agg #[.int .i64 s] ∧ e1.val = .int .i64 v) ∨ (i ≠ j ∧ es[i]? = some e1) := by
        intro i e1 h
        rw [Array.getElem?_modify] at h
        by_cases hij : j = i
        · subst hij
          rw [if_pos rfl, hj] at h
          simp only [Option.map_some] at h
          injection h with h
          exact .inl ⟨rfl, by rw [← h], by rw [← h]⟩
        · rw [if_neg hij] at h
          exact .inr ⟨fun e => hij e.symm, h⟩
    · intro e he
      obtain ⟨i, hi, hie⟩ := List.getElem_of_mem he
      have hi' : (es.modify j (fun e' => { e' with key := .agg #[.int .i64 s], val := .int .i64 v }))[i]? = some e := by
        rw [← Array.getElem?_toList, List.getElem?_eq_getElem hi, hie]
      rcases horig i e hi' with ⟨_, k1, k2⟩ | ⟨hne, h5⟩
      · exact ⟨s, v, k1, hs, k2, if_pos rfl⟩
      · obtain ⟨t, x, k1, k2, k3, k4⟩ := hall e (Array.mem_toList_iff.2 (Array.mem_of_getElem? h5))
        have hts : t ≠ s := fun e1 => hne (huniq i j e e0 h5 hj (by rw [k1, h3, e1]; rfl))
        exact ⟨t, x, k1, k2, k3, by rw [if_neg hts]; exact k4⟩
    · intro t hne
      have hts : t ≠ s := by
        intro e1
        have hm : ({ e0 with key := .agg #[.int .i64 s], val := .int .i64 v } : MapEntry) ∈ (es.modify j (fun e' => { e' with key := .agg #[.int .i64 s], val := .int .i64 v })).toList := by
          refine Array.mem_toList_iff.2 (Array.mem_of_getElem? (i := j) ?_)
          rw [Array.getElem?_modify, if_pos rfl, hj]
          rfl
        exact hne _ hm (by rw [e1]; rfl)
      rw [if_neg hts]
      refine hno t fun e he e1 => ?_
      obtain ⟨i, hi, hie⟩ := List.getElem_of_mem he
      have hi' : es[i]? = some e := by rw [← Array.getElem?_toList, List.getElem?_eq_getElem hi, hie]
      by_cases hij : i = j
      · subst hij
        rw [hj] at hi'
        injection hi' with hi'
        rw [← hi', h3] at e1
        exact hts (keyS_inj e1).symm
      · refine hne e (Array.mem_toList_iff.2 (Array.mem_of_getElem? (i := i) ?_)) e1
        rw [Array.getElem?_modify, if_neg (fun h => hij h.symm)]
        exact hi'
    · intro i1 i2 e1 e2 hi1 hi2 he
      rcases horig i1 e1 hi1 with ⟨a1, k1, _⟩ | ⟨a1, k1⟩
      · rcases horig i2 e2 hi2 with ⟨a2, k2, _⟩ | ⟨a2, k2⟩
        · omega
        · exact absurd (huniq i2 j e2 e0 k2 hj (by rw [← he, k1, h3])) a2
      · rcases horig i2 e2 hi2 with ⟨a2, k2, _⟩ | ⟨a2, k2⟩
        · exact absurd (huniq i1 j e1 e0 k1 hj (by rw [he, k2, h3])) a1
        · exact huniq i1 i2 e1 e2 k1 k2 he
theorem map_clear {w : World} {b : Nat} {f : Int → Option Int} (h : MapAt w b f) (ty : TypeId) :
    ∃ v w', (Builtin.clear_ #[35] ty #[.map (some b)]).run Try.prog w = .ok v w' ∧ MapAt w' b (fun _ => none) ∧ w.grownBy w' (some b) := by
  obtain ⟨es, clock, hb, _⟩ := h.all
  have ht : Try.prog.underlying 35 = some (.map 73 3) := Try.underlying35
  refine ⟨.tuple #[], _, by simp [Builtin.clear_, run_underlying ht, MapKept.run_getObj_map hb, MapKept.run_setObj_map _ hb, Result.andThen], ⟨#[], clock, set_block hb, by simp, fun _ _ => rfl, by simp⟩, set_block_grown _ _ _⟩
theorem MapAt.grown {w w' : World} {b : Nat} {f : Int → Option Int} {row : Option Nat} (h : MapAt w b f) (hg : w.grownBy w' row) (hne : row ≠ some b) : MapAt w' b f := by
  obtain ⟨es, clock, hb, r⟩ := h.all
  exact ⟨es, clock, by rw [hg.block b (Array.getElem?_eq_some_iff.1 hb).1 (fun e => hne e.symm)]; exact hb, r⟩
theorem MapAt.lt {w : World} {b : Nat} {f : Int → Option Int} (h : MapAt w b f) : b < w.heap.size := by
  obtain ⟨es, clock, hb, _⟩ := h.all
  exact (Array.getElem?_eq_some_iff.1 hb).1
theorem MapAt.at {w w' : World} {b : Nat} {f : Int → Option Int} (h : MapAt w b f) (hb : w'.heap[b]? = w.heap[b]?) : MapAt w' b f := by
  obtain ⟨es, clock, h0, r⟩ := h.all
  exact ⟨es, clock, by rw [hb]; exact h0, r⟩
theorem MapAt.congr {w : World} {b : Nat} {f g : Int → Option Int} (h : MapAt w b f) (e : ∀ s, f s = g s) : MapAt w b g := by
  rw [← show f = g from funext e]; exact h
end Go.Proofs.Ytpgncmoagmkcmaa
