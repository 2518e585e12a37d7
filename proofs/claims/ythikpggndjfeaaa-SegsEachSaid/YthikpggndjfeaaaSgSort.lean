/- segs: slices.Sort of numbers that the call owns; what Release lets go. -/
import Derived.Test.YthikpggndjfeaaaSgMem
import Derived.Test.YthikpggndjfeaaaApp
import Derived.Test.YthikpggndjfeaaaSortI
import Derived.Sort.OwnSortedInts
namespace Go.Proofs.Ythikpggndjfeaaa
open Go.RowKit Go.Shelf Go.Sort Go.Proofs
set_option maxRecDepth 100000 in
theorem sortI_any (base : Nat) (v : Value) (L : List Int) (w : World) (h : Owns .i64 3 w base v L) (hn : L.length ≤ 1000000) :
    Calls Try.prog 30 #[v] w fun e w' => e = .returned (.tuple #[]) ∧ Owns .i64 3 w' base v (L.mergeSort fun x y => decide (x ≤ y)) ∧ ∃ row, w.grownBy w' row ∧ ∀ g, row = some g → base ≤ g := by
  cases hL : L with
  | nil =>
    subst hL
    obtain ⟨a, c, rfl⟩ := h.shape
    have hcon := Any.slices_Sort_int_none sortI a c w
    change Calls Try.prog 30 _ _ _ at hcon
    refine hcon.mono ?_
    rintro e w' ⟨rfl, rfl⟩
    exact ⟨rfl, by simpa using h, none, World.grownBy.refl _ _, fun g e => by cases e⟩
  | cons x r =>
    rw [← hL]
    have hpos : 0 < L.length := by rw [hL]; simp
    obtain ⟨hw, h2⟩ := h
    rcases h2 with ⟨h0, _⟩ | h2
    · rw [h0] at hpos; simp at hpos
    rcases h2.2 with ⟨_, h0⟩ | ⟨g, cap, cur, rfl, hg, hh, hnc, hcm, hcs, ht⟩
    · omega
    have hH : Holds (Value.int .i64) w g 0 L.toArray := holds_of_blockI hh (by rw [Nat.mul_one] at ht; exact ht)
    have hcon := Any.slices_Sort_int sortI g 0 cap L w hH (Array.getElem?_eq_some_iff.1 hh).1 (by omega)
    change Calls Try.prog 30 _ _ _ at hcon
    refine hcon.mono ?_
    rintro e w' ⟨rfl, n, os, rfl⟩
    refine ⟨rfl, ⟨fun y hy => hw y ((List.mergeSort_perm L _).mem_iff.1 hy), .inr ?_⟩, some g, grownBy_sortedI _, fun q e => by injection e with e; omega⟩
    have hl := (List.mergeSort_perm L fun x y => decide (x ≤ y)).length_eq
    rw [hl]
    exact ownsRow_sortedI hl hg hh hnc hcm hcs
/-- Numbers without doubles are, sorted, what Release tells, if they are the same numbers. -/
theorem rel_sorted {L : List Ent} {p : Int} {ks : List Int} (hd : ks.Nodup) (hm : ∀ k, k ∈ ks ↔ goes p (getE L k) = true) : (ks.mergeSort fun x y => decide (x ≤ y)) = relL L p := by
  have h1 : (relL L p).Pairwise (fun a b => a < b) := by
    unfold relL
    rw [List.pairwise_map]
    refine List.Pairwise.imp (fun {a b} h => ?_) (List.pairwise_lt_range.filter _)
    exact Int.ofNat_lt.2 h
  have hmem : ∀ k, k ∈ relL L p ↔ goes p (getE L k) = true := fun k => by
    unfold relL
    rw [List.mem_map]
    constructor
    · rintro ⟨a, ha, rfl⟩
      exact (List.mem_filter.1 ha).2
    · intro hk
      have hin : inE L k = true := by
        cases hi : inE L k with
        | true => rfl
        | false =>
          rw [getE_out hi] at hk
          exact absurd hk (by unfold goes ent0; simp)
      obtain ⟨i1, i2⟩ := inE_yes hin
      obtain ⟨m, rfl⟩ := Int.eq_ofNat_of_zero_le i1
      exact ⟨m, List.mem_filter.2 ⟨List.mem_range.2 (by omega), hk⟩, rfl⟩
  have hp : ks.Perm (relL L p) := (List.perm_ext_iff_of_nodup hd (h1.imp (fun h => by omega))).2 (fun k => by rw [hm, hmem])
  refine List.Perm.eq_of_pairwise (le := fun a b => a ≤ b) (fun a b _ _ x y => by omega) ?_ (h1.imp (fun h => by omega)) ((List.mergeSort_perm ks _).trans hp)
  have := List.pairwise_mergeSort (le := fun x y : Int => decide (x ≤ y)) (fun a b c x y => by simp at *; omega) (fun a b => by simp; omega) ks
  exact this.imp (fun h => by simpa using h)
/-- The map when all that are no longer to come have been looked at. -/
def rem (L : List Ent) (p : Int) (left : Int → Bool) : Int → Option Ent := fun k => if (!left k && goes p (getE L k)) = true then none else fL L k
theorem getE_rel (L : List Ent) (p k : Int) : getE (relS L p) k = if goes p (getE L k) = true then ent0 else getE L k := by
  unfold getE relS
  split
  · rw [List.getElem?_map]
    cases L[k.toNat]? with
    | none => simp
    | some e => rfl
  · simp
theorem rem_end {L : List Ent} {p : Int} {left : Int → Bool} (h : ∀ s, left s = false) (k : Int) : rem L p left k = fL (relS L p) k := by
  unfold rem
  rw [h k]
  by_cases hg : goes p (getE L k) = true
  · rw [if_pos (by rw [hg]; rfl)]
    unfold fL
    rw [getE_rel, if_pos hg, if_pos (show ent0.st = 0 from rfl)]
  · rw [if_neg (by simpa using hg)]
    unfold fL
    rw [getE_rel, if_neg hg]
theorem goes_in {L : List Ent} {p k : Int} (h : goes p (getE L k) = true) : inE L k = true ∧ (fL L k).isSome = true := by
  have h3 : (getE L k).st = 3 := by unfold goes at h; simp at h; exact h.1
  refine ⟨?_, by unfold fL; rw [if_neg (by omega)]; rfl⟩
  cases hi : inE L k with
  | true => rfl
  | false => rw [getE_out hi] at h3; exact absurd h3 (by decide)
theorem rem_start (L : List Ent) (p : Int) (k : Int) : fL L k = rem L p (fun s => (fL L s).isSome) k := by
  show fL L k = if (!(fL L k).isSome && goes p (getE L k)) = true then none else fL L k
  by_cases hg : goes p (getE L k) = true
  · rw [(goes_in hg).2, if_neg (by simp)]
  · rw [if_neg (by simp [hg])]
/-- What Release's loop carries. -/
structure RelSt (w : World) (d mb r : Nat) (L : List Ent) (p : Int) (wr : World) (v : Value) (left : Int → Bool) (ks : List Int) : Prop where
  it : IterE wr mb r (rem L p left) left
  row : wr.heap[d]? = some (.cells #[.int .i64 L.length, .map (some mb)] 59 (0, 0))
  own : Owns .i64 3 wr (w.heap.size + 1) v ks
  dis : ks.Nodup
  mem : ∀ k, k ∈ ks ↔ (left k = false ∧ goes p (getE L k) = true)
  grown : w.grownBy wr (some mb)
  inm : ∀ k, left k = true → fL L k ≠ none
/-- One entry has been looked at. -/
def less (left : Int → Bool) (s : Int) : Int → Bool := fun t => left t && !decide (t = s)
theorem rem_goes {L : List Ent} {p : Int} {left : Int → Bool} {s : Int} (hg : goes p (getE L s) = true) (t : Int) : delE (rem L p left) s t = rem L p (less left s) t := by
  unfold delE rem less
  by_cases h : t = s
  · subst h
    rw [if_pos rfl, if_pos (by rw [hg]; simp)]
  · rw [if_neg h]
    simp [h]
theorem rem_stays {L : List Ent} {p : Int} {left : Int → Bool} {s : Int} (hl : left s = true) (hg : goes p (getE L s) = false) (t : Int) : rem L p left t = rem L p (less left s) t := by
  unfold rem less
  by_cases h : t = s
  · subst h
    rw [hg, hl]
    simp
  · simp [h]
theorem IterE.congr {w : World} {b r : Nat} {f g : Int → Option Ent} {left : Int → Bool} (h : IterE w b r f left) (e : ∀ s, f s = g s) : IterE w b r g left := by
  have : f = g := funext e
  rw [← this]
  exact h
theorem IterE.below {w w' : World} {b r : Nat} {f : Int → Option Ent} {left : Int → Bool} (h : IterE w b r f left) (hb : Below w.heap.size w w') : IterE w' b r f left := by
  have l1 := h.map.lt
  have l2 := h.lt
  obtain ⟨es, clock, since, seen, c0, h1, h2, h3, h4, h5⟩ := h.all
  exact ⟨es, clock, since, seen, c0, (hb.block b l1).trans h1, h2, h3, (hb.block r l2).trans h4, h5⟩
theorem RelSt.few {w : World} {d mb r : Nat} {L : List Ent} {p : Int} {wr : World} {v : Value} {left : Int → Bool} {ks : List Int} (h : RelSt w d mb r L p wr v left ks) : ks.length ≤ L.length := by
  have hsub : ks ⊆ (List.range L.length).map Int.ofNat := fun k hk => by
    obtain ⟨i1, i2⟩ := inE_yes (goes_in ((h.mem k).1 hk).2).1
    obtain ⟨m, rfl⟩ := Int.eq_ofNat_of_zero_le i1
    exact List.mem_map.2 ⟨m, List.mem_range.2 (by omega), rfl⟩
  have := h.dis.length_le_of_subset hsub
  simpa using this
set_option maxRecDepth 100000 in
theorem i64Is : elemInfo Try.prog 3 .i64 8 := by unfold elemInfo; kernel_rfl
set_option maxRecDepth 100000 in
theorem i64Ts : Try.prog.underlying 34 = some (.slice 3) := Try.underlying34
section
variable {w wr w1 : World} {d mb r : Nat} {L : List Ent} {p : Int} {v v1 : Value} {left : Int → Bool} {ks : List Int} {s : Int}
theorem RelSt.stay (h : RelSt w d mb w.heap.size L p wr v left ks) (hl : left s = true) (hg : goes p (getE L s) = false) (hit : IterE w1 mb w.heap.size (rem L p left) (less left s)) (hgr : wr.grownBy w1 (some w.heap.size)) (hd : d < w.heap.size) :
    RelSt w d mb w.heap.size L p w1 v (less left s) ks := by
  have hl1 := h.it.lt
  refine ⟨hit.congr (rem_stays hl hg), (hgr.block d (by omega) (fun e => by injection e with e; omega)).trans h.row, h.own.grown hgr (fun g hg' e => by have := (h.own.at_base g hg').1; injection e with e; omega), h.dis, fun k => ?_, h.grown.andThen hgr (fun j e => .inl (by injection e with e; omega)), fun k hk => h.inm k ?_⟩
  · rw [h.mem k]
    unfold less
    by_cases hk : k = s
    · subst hk
      rw [hl, hg]
      simp
    · simp [hk]
  · unfold less at hk
    simp at hk
    exact hk.1
theorem RelSt.more (h : RelSt w d mb w.heap.size L p wr v left ks) (hl : left s = true) (hg : goes p (getE L s) = true) (hit : IterE w1 mb w.heap.size (delE (rem L p left) s) (less left s)) (hrow : w1.heap[d]? = some (.cells #[.int .i64 L.length, .map (some mb)] 59 (0, 0)))
    (hown : Owns .i64 3 w1 (w.heap.size + 1) v1 (ks ++ [s])) (hgr : w.grownBy w1 (some mb)) : RelSt w d mb w.heap.size L p w1 v1 (less left s) (ks ++ [s]) := by
  refine ⟨hit.congr (rem_goes hg), hrow, hown, ?_, fun k => ?_, hgr, fun k hk => h.inm k ?_⟩
  · refine List.nodup_append.2 ⟨h.dis, by simp, fun a ha b hb e => ?_⟩
    simp only [List.mem_singleton] at hb
    subst hb
    subst e
    have := ((h.mem a).1 ha).1
    rw [hl] at this
    cases this
  · rw [List.mem_append, h.mem k, List.mem_singleton]
    unfold less
    by_cases hk : k = s
    · subst hk
      simp [hg]
    · simp [hk]
  · unfold less at hk
    simp at hk
    exact hk.1
end
end Go.Proofs.Ythikpggndjfeaaa
