/- lz: the noted places: a map of slices; note's contract. -/
import Derived.Test.YtfoabnoolmeoiaaLzHalf
import Derived.Test.YtfoabnoolmeoiaaOrder
import Derived.Maps.GroupsBeside
import Derived.Maps.Keyed
namespace Go.Proofs.Ytfoabnoolmeoiaa
open Go.RowKit Go.ChangeShapes
set_option maxRecDepth 100000 in
theorem u32K : Maps.Keyed Try.prog 47 := Maps.int_keyed Try.underlying47
set_option maxRecDepth 100000 in
theorem u32_key {k : Int} (h : (Lit.int .u32 k).wf = true) : keyOf Try.prog 47 (.int .u32 k) = some (.int .u32 k) := Maps.keyOf_int_mk Try.underlying47 h
set_option maxRecDepth 100000 in
theorem zeroRow (w : World) : (zeroValue 49).run Try.prog w = .ok (.slice none 0 0) w := by kernel_rfl
/-- A list as the map's datum tells it. -/
def rowOf (l : List Int) : DataW Unit := if l = [] then .nil else .slice (lits .i64 l) []
/-- Block b is the map of the noted places: each key's places in a row of its own from block base on; of none of these rows' blocks does No hold. -/
structure Gr (w : World) (base b n : Nat) (No : Nat → Prop) (S : Int → List Int) : Prop where
  own : ∃ D : DataW Unit, w.ownsGroups Try.prog 47 base 3 .i64 b n D ∧ Maps.IsMap D ∧ ∀ k, (Lit.int .u32 k).wf = true → D.atKey (.int .u32 k) .nil = rowOf (S k)
  shuns : w.Shuns b No
theorem Gr.size {w : World} {base b n : Nat} {No : Nat → Prop} {S : Int → List Int} (h : Gr w base b n No S) : b < w.heap.size ∧ b < base := by
  obtain ⟨D, ⟨es, clock, hb, _, _, _, hbb, _⟩, _⟩ := h.own
  exact ⟨(Array.getElem?_eq_some_iff.1 hb).1, hbb⟩
theorem Gr.made (w : World) (b base : Nat) (hb : w.heap[b]? = some (.map #[] 0)) (hbb : b < base) (No : Nat → Prop) : Gr w base b 0 No (fun _ => []) := by
  refine ⟨⟨.map [], ⟨#[], 0, hb, ⟨by simp, MapKept.stamped_empty 0, by simp⟩, Nat.le_refl _, rfl, hbb, by simp, by simp⟩, Maps.isMap_empty, fun k _ => ?_⟩, fun es clock h x hx => ?_⟩
  · rfl
  · rw [hb] at h
    injection h with h
    injection h with h1 h2
    subst h1
    simp at hx
/-- What else turns leaves it. -/
theorem Gr.kept {w w' : World} {base b n : Nat} {No : Nat → Prop} {S : Int → List Int} (h : Gr w base b n No S) {row : Option Nat} (hg : w.grownBy w' row) (hr : ∀ j, row = some j → (j < base ∧ j ≠ b) ∨ No j) (hb : some b ≠ row) : Gr w' base b n No S := by
  obtain ⟨D, ho, hm, hS⟩ := h.own
  have hrow : ∀ es clock, w.heap[b]? = some (.map es clock) → ∀ x ∈ es.toList, x.val.ownBlock = none ∨ x.val.ownBlock ≠ row := by
    intro es clock hes x hx
    cases row with
    | none => cases x.val.ownBlock <;> simp
    | some j =>
      rcases hr j rfl with h1 | h1
      · exact ho.rowsAbove (row := some j) (fun i e => by injection e with e; omega) es clock hes x hx
      · exact h.shuns.rowsOff (row := some j) (fun i e => by injection e with e; rw [← e]; exact h1) es clock hes x hx
  exact ⟨⟨D, ho.kept hg hb hrow, hm, hS⟩, h.shuns.kept hg h.size.1 hb⟩
theorem Gr.below {w w' : World} {base b n : Nat} {No : Nat → Prop} {S : Int → List Int} (h : Gr w base b n No S) (hb : Below w.heap.size w w') : Gr w' base b n No S :=
  h.kept (row := none) ⟨hb.os, hb.tape, hb.output, hb.size, fun j hj _ => hb.block j hj⟩ (fun j e => by cases e) (fun e => by cases e)
/-- Other blocks are shunned: those shunned before, and new ones. -/
theorem Gr.reno {w : World} {base b n : Nat} {No No' : Nat → Prop} {S : Int → List Int} (h : Gr w base b n No S) (hn : ∀ g, No' g → No g ∨ w.heap.size ≤ g) : Gr w base b n No' S := by
  obtain ⟨D, ho, hm, hS⟩ := h.own
  exact ⟨⟨D, ho, hm, hS⟩, h.shuns.reno ho hn⟩
theorem rowOf_inj {v : Value} {zs l : List Int} {w : World} {base : Nat} (ho : w.ownsInts base 3 .i64 v zs) (h : rowOf l = rowDatum .i64 v zs) : zs = l := by
  unfold rowOf at h
  rcases ho.datum (H := Unit) with ⟨h1, h2⟩ | h1
  · rw [h1] at h
    split at h
    · rename_i hl; rw [h2, hl]
    · cases h
  · rw [h1] at h
    split at h
    · cases h
    · injection h with h
      unfold lits at h
      have := (List.map_inj_right (fun a b hab => by injection hab with hab; injection hab)).1 h
      exact this.symm
set_option maxRecDepth 100000 in
/-- The look-up: the places, and the way back. -/
theorem Gr.look {w : World} {base b n : Nat} {No : Nat → Prop} {S : Int → List Int} (h : Gr w base b n No S) (hn : n < 1000000) (k : Int) (hk : (Lit.int .u32 k).wf = true) :
    ∃ v, (Instr.lookup 46 (.map (some b)) (.int .u32 k) false).run Try.prog w = .ok v w ∧ w.ownsInts base 3 .i64 v (S k) ∧ (S k).length ≤ n ∧ (∀ g, v.ownBlock = some g → ¬ No g) ∧
      ∀ (w1 : World) (v' : Value) (x : Int), w.grownBy w1 v.ownBlock → w1.ownsInts base 3 .i64 v' (S k ++ [x]) → (v'.ownBlock = v.ownBlock ∨ ∃ g, v'.ownBlock = some g ∧ w.heap.size ≤ g) → (∀ g, No g → g < w.heap.size) →
        ∃ w2, (Instr.mapUpdate 46 (.map (some b)) (.int .u32 k) v').run Try.prog w1 = .ok () w2 ∧ Gr w2 base b (n + 1) No (fun j => if j = k then S j ++ [x] else S j) ∧ w1.grownBy w2 (some b) := by
  obtain ⟨D, ho, hm, hS⟩ := h.own
  obtain ⟨v, zs, hrun, hat, hoi, hzl, hback⟩ := ho.at u32K Try.underlying46 (zeroRow w) (by unfold maxLen; omega) (u32_key hk)
  obtain rfl : zs = S k := rowOf_inj hoi (by rw [← hS k hk, hat])
  have hsh : ∀ g, v.ownBlock = some g → ¬ No g := by
    intro g hg
    obtain ⟨es, clock, hb, F, _⟩ := ho
    rcases Maps.fit_look false u32K Try.underlying46 (zeroRow w) hb F (u32_key hk) with ⟨hrun', _, _⟩ | ⟨e0, y, hm0, _, hrun', _, _, _⟩
    · rw [hrun] at hrun'
      obtain rfl : v = .slice none 0 0 := by simpa using hrun'
      cases hg
    · rw [hrun] at hrun'
      obtain rfl : v = e0.val := by simpa using hrun'
      exact h.shuns es clock hb e0 hm0 g hg
  refine ⟨v, hrun, hoi, hzl, hsh, fun w1 v' x hg hoi' hloc hNo => ?_⟩
  obtain ⟨w2, hrun2, r1, r2⟩ := hback w1 v' (S k ++ [x]) hg hoi' (by rw [List.length_append]; simp; omega) hloc
  refine ⟨w2, hrun2, ⟨⟨_, r1, hm.put _ _, fun j hj => ?_⟩, ?_⟩, r2⟩
  · by_cases hjk : j = k
    · subst hjk
      rw [Maps.atKey_put_same hm (show WideAt.IsKeyLit (.int .u32 j) from trivial)]
      unfold rowOf
      rw [if_pos rfl, if_neg (by simp)]
      exact hoi'.datum_pos (by simp)
    · rw [Maps.atKey_put_other (fun e => hjk (by injection e)), if_neg hjk]
      exact hS j hj
  · obtain ⟨es, clock, hb, F, hs, _, hbb, _⟩ := ho
    have hblt : b < w.heap.size := (Array.getElem?_eq_some_iff.1 hb).1
    have hb1 : w1.heap[b]? = some (.map es clock) := (hg.block b hblt (fun e1 => by have := (hoi.1.lt b e1.symm).1; omega)).trans hb
    obtain ⟨es', clock', hb2, hwho⟩ := stored_who u32K Try.underlying46 hb1 F (by unfold maxLen; omega) (u32_key hk) hrun2
    intro es2 clock2 hb2' y hy g hyg
    obtain ⟨rfl, rfl⟩ : es' = es2 ∧ clock' = clock2 := by rw [hb2] at hb2'; simpa using hb2'
    rcases hwho y hy with ⟨hy0, _⟩ | ⟨_, hval⟩
    · exact h.shuns es clock hb y hy0 g hyg
    · rw [hval] at hyg
      rcases hloc with h1 | ⟨g', h1, h2⟩
      · exact hsh g (by rw [← h1]; exact hyg)
      · rw [h1] at hyg
        injection hyg with hyg
        intro hN
        have := hNo g hN
        omega
end Go.Proofs.Ytfoabnoolmeoiaa
