/- The plain law of RegionPieces. -/
import Derived.Test.YtoampbdipmecmaaRgUndo
namespace Go.Proofs.Ytoampbdipmecmaa
open Go.RowKit
theorem findB_cons (s : Rg) (C : List Rg) (x : Int) : findB (s :: C) x = (s.has x || findB C x) := by
  unfold findB
  rw [List.find?_cons]
  cases s.has x <;> simp
theorem findB_none {C : List Rg} {x : Int} (h : ∀ s ∈ C, ¬ (s.lo ≤ x ∧ x < s.hi)) : findB C x = false := by
  induction C with
  | nil => rfl
  | cons s C ih =>
    rw [findB_cons, ih (fun q hq => h q (List.mem_cons_of_mem _ hq)), Rg.has_no.2 (h s (List.mem_cons_self ..))]
    rfl
/-- Of parted regions the one that has a page is found. -/
theorem find_it : ∀ {C : List Rg} {s : Rg} {x : Int}, Parted C → s ∈ C → (s.lo ≤ x ∧ x < s.hi) → findR C x = s ∧ findB C x = true
  | [], _, _, _, h, _ => by cases h
  | q :: C, s, x, hp, h, hx => by
    rcases List.mem_cons.1 h with rfl | h
    · unfold findR findB
      rw [List.find?_cons_of_pos (by exact Rg.has_iff.2 hx)]
      exact ⟨rfl, rfl⟩
    · have h1 := (List.pairwise_cons.1 hp).1 s h
      have h3 := find_it (List.pairwise_cons.1 hp).2 h hx
      unfold findR findB at h3 ⊢
      rw [List.find?_cons_of_neg (by intro e; have := Rg.has_iff.1 e; unfold Apart at h1; omega)]
      exact h3
/-- Where the pieces have come to; none: one is not where it should be. -/
def goA (C : List Rg) : Int → List Rg → Option Int
  | at_, [] => some at_
  | at_, r :: l => if r.lo < at_ ∨ (at_ < r.lo ∧ findB C at_ = true) then none else goA C r.hi l
theorem goA_append (C : List Rg) : ∀ (l m : List Rg) (at_ : Int), goA C at_ (l ++ m) = (goA C at_ l).bind fun x => goA C x m
  | [], _, _ => rfl
  | r :: l, m, at_ => by
    rw [List.cons_append, goA, goA]
    split
    · rfl
    · exact goA_append C l m r.hi
theorem goA_pieces (D : List Rg) (lo hi : Int) : ∀ (C : List Rg) (b at_ : Int), Rising b C → lo ≤ at_ → at_ ≤ max lo b → (∀ x, at_ ≤ x → x < hi → findB D x = findB C x) → goA D at_ (piecesL C lo hi) ≠ none
  | [], b, at_, _, _, _, _ => by show some at_ ≠ none; simp
  | s :: C, b, at_, ⟨h1, h2, h3, h4⟩, hlo, hat, hf => by
    rw [piecesL_cons]
    by_cases hc : max s.lo lo < min s.hi hi
    · rw [if_pos hc, goA]
      have e1 : ¬ ((clipR lo hi s).lo < at_ ∨ (at_ < (clipR lo hi s).lo ∧ findB D at_ = true)) := by
        unfold clipR
        simp only
        rintro (e | ⟨e, e2⟩)
        · omega
        · rw [hf at_ (Int.le_refl _) (by omega), findB_none] at e2
          · cases e2
          · intro q hq hx
            rcases List.mem_cons.1 hq with rfl | hq
            · omega
            · have := h4.mem q hq
              omega
      rw [if_neg e1]
      refine goA_pieces D lo hi C s.hi _ h4 ?_ ?_ (fun x hx hx2 => ?_)
      · unfold clipR; simp only; omega
      · unfold clipR; simp only; omega
      · unfold clipR at hx
        simp only at hx
        rw [hf x (by omega) hx2, findB_cons, Rg.has_no.2 (by omega)]
        rfl
    · rw [if_neg hc]
      refine goA_pieces D lo hi C s.hi at_ h4 hlo (by omega) (fun x hx hx2 => ?_)
      rw [hf x hx hx2, findB_cons, Rg.has_no.2 (by omega)]
      rfl
theorem pieces_rising (lo hi : Int) : ∀ (C : List Rg) (b at_ : Int), Rising b C → at_ ≤ max lo b → Rising at_ (piecesL C lo hi)
  | [], _, _, _, _ => trivial
  | s :: C, b, at_, ⟨h1, h2, h3, h4⟩, hat => by
    rw [piecesL_cons]
    by_cases hc : max s.lo lo < min s.hi hi
    · rw [if_pos hc]
      refine ⟨by unfold clipR; simp only; omega, hc, h3, pieces_rising lo hi C s.hi _ h4 (by unfold clipR; simp only; omega)⟩
    · rw [if_neg hc]
      exact pieces_rising lo hi C s.hi at_ h4 (by omega)
theorem pieces_below (C : List Rg) (lo hi : Int) : ∀ r ∈ piecesL C lo hi, r.hi ≤ hi := fun r hr => by
  obtain ⟨s, _, e, _⟩ := piece_iff.1 hr
  subst e
  unfold clipR
  simp only
  omega
theorem all_pages {ok : Int → Bool} {hi : Int} : ∀ (P : List Rg) (at_ : Int), Rising at_ P → at_ ≤ hi → (∀ r ∈ P, r.hi ≤ hi ∧ ok r.p = true) → pagesN P ≤ hi - at_ ∧ (allGo ok hi at_ P = decide (pagesN P = hi - at_))
  | [], at_, _, h0, _ => by
    refine ⟨by simp [pagesN]; omega, ?_⟩
    show decide (at_ = hi) = _
    have e : pagesN [] = 0 := rfl
    rw [e]
    by_cases h : at_ = hi
    · rw [decide_eq_true h, decide_eq_true (by omega)]
    · rw [decide_eq_false h, decide_eq_false (by omega)]
  | r :: P, at_, ⟨h1, h2, h3, h4⟩, h0, hb => by
    have hr := hb r (List.mem_cons_self ..)
    obtain ⟨i1, i2⟩ := all_pages P r.hi h4 hr.1 (fun q hq => hb q (List.mem_cons_of_mem _ hq))
    rw [pagesN_cons, allGo, i2]
    refine ⟨by omega, ?_⟩
    by_cases e : r.lo = at_
    · rw [if_neg (by rw [hr.2]; simp [e])]
      by_cases e2 : pagesN P = hi - r.hi
      · rw [decide_eq_true e2, decide_eq_true (by omega)]
      · rw [decide_eq_false e2, decide_eq_false (by omega)]
    · rw [if_pos (.inl e), decide_eq_false (by omega)]
theorem cut_pages {lo hi : Int} (h : lo ≤ hi) : ∀ (C : List Rg), (∀ r ∈ C, r.lo < r.hi) → pagesN C = pagesN (cutL C lo hi) + pagesN (piecesL C lo hi)
  | [], _ => by rw [cutL_nil]; rfl
  | s :: C, hn => by
    have hs := hn s (List.mem_cons_self ..)
    have ih := cut_pages h C (fun q hq => hn q (List.mem_cons_of_mem _ hq))
    by_cases h0 : hi ≤ lo
    · have hc : ∀ D : List Rg, cutL D lo hi = D := fun D => by unfold cutL; rw [if_pos h0]
      rw [hc] at ih ⊢
      rw [piecesL_cons, if_neg (by omega), pagesN_cons]
      omega
    · rw [cutL_cons (by omega), pagesN_append, piecesL_cons, pagesN_cons]
      have e1 : pagesN (cutOne lo hi s) = (if s.lo < min s.hi lo then min s.hi lo - s.lo else 0) + (if max s.lo hi < s.hi then s.hi - max s.lo hi else 0) := by
        unfold cutOne
        rw [pagesN_append]
        split <;> split <;> simp [pagesN]
      rw [e1]
      by_cases hc : max s.lo lo < min s.hi hi
      · rw [if_pos hc, pagesN_cons]
        unfold clipR
        simp only
        split <;> split <;> omega
      · rw [if_neg hc]
        split <;> split <;> omega
end Go.Proofs.Ytoampbdipmecmaa
