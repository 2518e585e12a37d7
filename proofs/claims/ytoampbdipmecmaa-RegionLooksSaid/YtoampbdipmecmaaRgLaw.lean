/- The plain law of regions: rows of stretches, canonical rows, what they say page by page. No walk in sight. -/
import Derived.WalkKit
namespace Go.Proofs.Ytoampbdipmecmaa
/-- A region: pages from lo on, below hi, and in which ways they may be used. -/
structure Rg where
  lo : Int
  hi : Int
  p : Int
theorem Rg.ext' {a b : Rg} (h1 : a.lo = b.lo) (h2 : a.hi = b.hi) (h3 : a.p = b.p) : a = b := by
  cases a; cases b; simp_all
def Rg.has (r : Rg) (x : Int) : Bool := decide (r.lo ≤ x) && decide (x < r.hi)
theorem Rg.has_iff {r : Rg} {x : Int} : r.has x = true ↔ r.lo ≤ x ∧ x < r.hi := by
  unfold Rg.has; simp
theorem Rg.has_no {r : Rg} {x : Int} : r.has x = false ↔ ¬ (r.lo ≤ x ∧ x < r.hi) := by
  rw [← Rg.has_iff, Bool.not_eq_true]
/-- What a row says of a page; -1: nothing. -/
def pf : List Rg → Int → Int
  | [], _ => -1
  | r :: l, x => if r.has x = true then r.p else pf l x
theorem pf_yes {r : Rg} {l : List Rg} {x : Int} (h : r.lo ≤ x ∧ x < r.hi) : pf (r :: l) x = r.p := if_pos (Rg.has_iff.2 h)
theorem pf_no {r : Rg} {l : List Rg} {x : Int} (h : ¬ (r.lo ≤ x ∧ x < r.hi)) : pf (r :: l) x = pf l x := if_neg (fun e => h (Rg.has_iff.1 e))
/-- Rising: each is not empty, and begins where the one ahead ends, or behind it. -/
def Rising : Int → List Rg → Prop
  | _, [] => True
  | b, r :: l => b ≤ r.lo ∧ r.lo < r.hi ∧ 0 ≤ r.p ∧ Rising r.hi l
/-- Canonical: rising, and two that touch are not alike. -/
def Canon : Int → Int → List Rg → Prop
  | _, _, [] => True
  | b, q, r :: l => b ≤ r.lo ∧ r.lo < r.hi ∧ 0 ≤ r.p ∧ (r.lo = b → r.p ≠ q) ∧ Canon r.hi r.p l
theorem Canon.rising : ∀ {l : List Rg} {b q : Int}, Canon b q l → Rising b l
  | [], _, _, _ => trivial
  | _ :: _, _, _, ⟨h1, h2, h3, _, h5⟩ => ⟨h1, h2, h3, h5.rising⟩
theorem Rising.weak : ∀ {l : List Rg} {b b' : Int}, Rising b l → b' ≤ b → Rising b' l
  | [], _, _, _, _ => trivial
  | _ :: _, _, _, ⟨h1, h2, h3, h4⟩, h => ⟨by omega, h2, h3, h4⟩
theorem Canon.weak : ∀ {l : List Rg} {b q b' q' : Int}, Canon b q l → b' < b → Canon b' q' l
  | [], _, _, _, _, _, _ => trivial
  | _ :: _, _, _, _, _, ⟨h1, h2, h3, _, h5⟩, h => ⟨by omega, h2, h3, fun e => by omega, h5⟩
theorem Canon.none : ∀ {l : List Rg} {b q : Int}, Canon b q l → Canon b (-1) l
  | [], _, _, _ => trivial
  | _ :: _, _, _, ⟨h1, h2, h3, _, h5⟩ => ⟨h1, h2, h3, fun _ => by omega, h5⟩
theorem Rising.mem : ∀ {l : List Rg} {b : Int}, Rising b l → ∀ r ∈ l, b ≤ r.lo ∧ r.lo < r.hi ∧ 0 ≤ r.p
  | [], _, _, _, h => by cases h
  | s :: l, b, ⟨h1, h2, h3, h4⟩, r, h => by
    rcases List.mem_cons.1 h with rfl | h
    · exact ⟨h1, h2, h3⟩
    · have := h4.mem r h
      exact ⟨by omega, this.2⟩
theorem pf_below : ∀ {l : List Rg} {b x : Int}, Rising b l → x < b → pf l x = -1
  | [], _, _, _, _ => rfl
  | r :: l, b, x, ⟨h1, h2, _, h4⟩, h => by rw [pf_no (by omega), pf_below h4 (by omega)]
theorem pf_none : ∀ {l : List Rg} {x : Int}, (∀ r ∈ l, ¬ (r.lo ≤ x ∧ x < r.hi)) → pf l x = -1
  | [], _, _ => rfl
  | r :: l, x, h => by rw [pf_no (h r (List.mem_cons_self ..)), pf_none (fun s hs => h s (List.mem_cons_of_mem _ hs))]
theorem pf_some : ∀ {l : List Rg} {x : Int}, pf l x ≠ -1 → ∃ r ∈ l, (r.lo ≤ x ∧ x < r.hi) ∧ pf l x = r.p
  | [], _, h => absurd rfl h
  | r :: l, x, h => by
    by_cases hx : r.lo ≤ x ∧ x < r.hi
    · exact ⟨r, List.mem_cons_self .., hx, pf_yes hx⟩
    · rw [pf_no hx] at h ⊢
      obtain ⟨s, hs, h1, h2⟩ := pf_some h
      exact ⟨s, List.mem_cons_of_mem _ hs, h1, h2⟩
theorem canon_at : ∀ {l : List Rg} {b q : Int}, Canon b q l → 0 ≤ q → pf l b ≠ q
  | [], _, _, _, hq => by show (-1 : Int) ≠ _; omega
  | r :: l, b, q, ⟨h1, h2, h3, h4, h5⟩, hq => by
    by_cases h : r.lo = b
    · rw [pf_yes (by omega)]; exact h4 h
    · rw [pf_no (by omega), pf_below h5.rising (by omega)]; omega
/-- A canonical row is told by what it says page by page. -/
theorem canon_eq : ∀ {l m : List Rg} {b q : Int}, Canon b q l → Canon b q m → (∀ x, b ≤ x → pf l x = pf m x) → l = m
  | [], [], _, _, _, _, _ => rfl
  | [], s :: m, b, q, _, ⟨h1, h2, h3, _, _⟩, h => by
    have := h s.lo h1
    rw [pf_yes (l := m) (by omega)] at this
    have e : pf [] s.lo = -1 := rfl
    omega
  | r :: l, [], b, q, ⟨h1, h2, h3, _, _⟩, _, h => by
    have := h r.lo h1
    rw [pf_yes (l := l) (by omega)] at this
    have e : pf [] r.lo = -1 := rfl
    omega
  | r :: l, s :: m, b, q, ⟨a1, a2, a3, _, a5⟩, ⟨b1, b2, b3, _, b5⟩, h => by
    have hlo : r.lo = s.lo := by
      by_cases hlt : r.lo < s.lo
      · have := h r.lo a1
        rw [pf_yes (l := l) (by omega), pf_no (l := m) (by omega), pf_below b5.rising (by omega)] at this
        omega
      · by_cases hgt : s.lo < r.lo
        · have := h s.lo b1
          rw [pf_yes (r := s) (l := m) (by omega), pf_no (l := l) (by omega), pf_below a5.rising (by omega)] at this
          omega
        · omega
    have hp : r.p = s.p := by
      have := h r.lo a1
      rwa [pf_yes (l := l) (by omega), pf_yes (r := s) (l := m) (by omega)] at this
    have hhi : r.hi = s.hi := by
      by_cases hlt : r.hi < s.hi
      · have := h r.hi (by omega)
        rw [pf_no (l := l) (by omega), pf_yes (r := s) (l := m) (by omega), ← hp] at this
        exact absurd this (canon_at a5 a3)
      · by_cases hgt : s.hi < r.hi
        · have := h s.hi (by omega)
          rw [pf_no (r := s) (l := m) (by omega), pf_yes (l := l) (by omega), hp] at this
          exact absurd this.symm (canon_at b5 b3)
        · omega
    obtain rfl : r = s := Rg.ext' hlo hhi hp
    rw [canon_eq a5 b5 (fun x hx => by
      have := h x (by omega)
      rwa [pf_no (l := l) (by omega), pf_no (l := m) (by omega)] at this)]
/-- One is laid behind a row: it is joined to the last one if it touches it and is alike. -/
def joinStep (out : List Rg) (r : Rg) : List Rg :=
  match out.getLast? with
  | some z => if z.hi = r.lo ∧ z.p = r.p then out.dropLast ++ [⟨z.lo, r.hi, z.p⟩] else out ++ [r]
  | none => out ++ [r]
def joinR : Rg → List Rg → List Rg
  | z, [] => [z]
  | z, r :: l => if z.hi = r.lo ∧ z.p = r.p then joinR ⟨z.lo, r.hi, z.p⟩ l else z :: joinR r l
theorem fold_join : ∀ (l : List Rg) (out : List Rg) (z : Rg), l.foldl joinStep (out ++ [z]) = out ++ joinR z l
  | [], out, z => rfl
  | r :: l, out, z => by
    rw [List.foldl_cons, joinR]
    by_cases h : z.hi = r.lo ∧ z.p = r.p
    · rw [if_pos h]
      have e : joinStep (out ++ [z]) r = out ++ [⟨z.lo, r.hi, z.p⟩] := by
        unfold joinStep
        rw [List.getLast?_concat]
        simp only [if_pos h, List.dropLast_concat]
      rw [e]
      exact fold_join l out ⟨z.lo, r.hi, z.p⟩
    · rw [if_neg h]
      have e : joinStep (out ++ [z]) r = (out ++ [z]) ++ [r] := by
        unfold joinStep
        rw [List.getLast?_concat]
        simp only [if_neg h]
      rw [e, fold_join l (out ++ [z]) r, List.append_assoc]
      rfl
/-- A rising row, made canonical. -/
def joinedS (l : List Rg) : List Rg := l.foldl joinStep []
theorem joinedS_nil : joinedS [] = [] := rfl
theorem joinedS_cons (z : Rg) (l : List Rg) : joinedS (z :: l) = joinR z l := by
  unfold joinedS
  rw [List.foldl_cons]
  exact fold_join l [] z
theorem joinR_canon : ∀ {l : List Rg} {z : Rg} {b q : Int}, Rising z.hi l → b ≤ z.lo → z.lo < z.hi → 0 ≤ z.p → (z.lo = b → z.p ≠ q) → Canon b q (joinR z l)
  | [], z, b, q, _, h1, h2, h3, h4 => ⟨h1, h2, h3, h4, trivial⟩
  | r :: l, z, b, q, ⟨r1, r2, r3, r4⟩, h1, h2, h3, h4 => by
    rw [joinR]
    split
    · rename_i h
      exact joinR_canon (z := ⟨z.lo, r.hi, z.p⟩) r4 h1 (show z.lo < r.hi by omega) h3 h4
    · rename_i h
      exact ⟨h1, h2, h3, h4, joinR_canon r4 r1 r2 r3 (fun e e2 => h ⟨e.symm, e2.symm⟩)⟩
theorem joinR_pf : ∀ {l : List Rg} {z : Rg} (x : Int), Rising z.hi l → z.lo < z.hi → pf (joinR z l) x = pf (z :: l) x
  | [], z, x, _, _ => rfl
  | r :: l, z, x, ⟨r1, r2, r3, r4⟩, h2 => by
    rw [joinR]
    split
    · rename_i h
      rw [joinR_pf (z := ⟨z.lo, r.hi, z.p⟩) x r4 (show z.lo < r.hi by omega)]
      by_cases hx : z.lo ≤ x ∧ x < r.hi
      · rw [pf_yes (r := ⟨z.lo, r.hi, z.p⟩) hx]
        by_cases hz : z.lo ≤ x ∧ x < z.hi
        · rw [pf_yes hz]
        · rw [pf_no hz, pf_yes (r := r) (by omega)]; exact h.2
      · rw [pf_no (r := ⟨z.lo, r.hi, z.p⟩) hx, pf_no (r := z) (by omega), pf_no (r := r) (by omega)]
    · by_cases hz : z.lo ≤ x ∧ x < z.hi
      · rw [pf_yes hz, pf_yes hz]
      · rw [pf_no hz, pf_no hz, joinR_pf x r4 r2]
theorem joinedS_canon {l : List Rg} {b : Int} (h : Rising b l) : Canon b (-1) (joinedS l) := by
  cases l with
  | nil => exact trivial
  | cons z l =>
    obtain ⟨h1, h2, h3, h4⟩ := h
    rw [joinedS_cons]
    exact joinR_canon h4 h1 h2 h3 (fun _ => by omega)
theorem joinedS_pf {l : List Rg} {b : Int} (h : Rising b l) (x : Int) : pf (joinedS l) x = pf l x := by
  cases l with
  | nil => rfl
  | cons z l =>
    obtain ⟨h1, h2, h3, h4⟩ := h
    rw [joinedS_cons]
    exact joinR_pf x h4 h2
/-- How many pages. -/
def pagesN (l : List Rg) : Int := (l.map fun r => r.hi - r.lo).sum
theorem pagesN_cons (r : Rg) (l : List Rg) : pagesN (r :: l) = (r.hi - r.lo) + pagesN l := by simp [pagesN]
theorem pagesN_append (l m : List Rg) : pagesN (l ++ m) = pagesN l + pagesN m := by simp [pagesN]
theorem joinR_pages : ∀ {l : List Rg} {z : Rg}, pagesN (joinR z l) = pagesN (z :: l)
  | [], z => rfl
  | r :: l, z => by
    rw [joinR]
    split
    · rename_i h
      rw [joinR_pages, pagesN_cons, pagesN_cons, pagesN_cons]
      show r.hi - z.lo + _ = _
      omega
    · rw [pagesN_cons, pagesN_cons, joinR_pages]
theorem joinedS_pages (l : List Rg) : pagesN (joinedS l) = pagesN l := by
  cases l with
  | nil => rfl
  | cons z l => rw [joinedS_cons, joinR_pages]
/-- A row without the pages from lo on, below hi. -/
def cutOne (lo hi : Int) (r : Rg) : List Rg :=
  (if r.lo < min r.hi lo then [⟨r.lo, min r.hi lo, r.p⟩] else []) ++ (if max r.lo hi < r.hi then [⟨max r.lo hi, r.hi, r.p⟩] else [])
def cutL (l : List Rg) (lo hi : Int) : List Rg := if hi ≤ lo then l else l.flatMap (cutOne lo hi)
theorem cutL_cons {r : Rg} {l : List Rg} {lo hi : Int} (h : lo < hi) : cutL (r :: l) lo hi = cutOne lo hi r ++ cutL l lo hi := by
  unfold cutL
  rw [if_neg (by omega), if_neg (by omega), List.flatMap_cons]
theorem cutL_nil {lo hi : Int} : cutL [] lo hi = [] := by unfold cutL; split <;> rfl
theorem cutOne_mem {lo hi : Int} {r s : Rg} (h : s ∈ cutOne lo hi r) : r.lo ≤ s.lo ∧ s.hi ≤ r.hi ∧ s.lo < s.hi ∧ s.p = r.p ∧ (s.hi ≤ lo ∨ hi ≤ s.lo) := by
  unfold cutOne at h
  rcases List.mem_append.1 h with h | h
  · split at h
    · rename_i hh
      obtain rfl := List.mem_singleton.1 h
      exact ⟨Int.le_refl _, by show min _ _ ≤ _; omega, hh, rfl, .inl (by show min _ _ ≤ _; omega)⟩
    · cases h
  · split at h
    · rename_i hh
      obtain rfl := List.mem_singleton.1 h
      exact ⟨by show _ ≤ max _ _; omega, Int.le_refl _, hh, rfl, .inr (by show _ ≤ max _ _; omega)⟩
    · cases h
theorem cutL_mem {lo hi : Int} {s : Rg} {l : List Rg} (h0 : lo < hi) (h : s ∈ cutL l lo hi) : ∃ r ∈ l, r.lo ≤ s.lo ∧ s.hi ≤ r.hi ∧ s.lo < s.hi ∧ s.p = r.p ∧ (s.hi ≤ lo ∨ hi ≤ s.lo) := by
  unfold cutL at h
  rw [if_neg (by omega)] at h
  obtain ⟨r, hr, hs⟩ := List.mem_flatMap.1 h
  exact ⟨r, hr, cutOne_mem hs⟩
theorem pf_cutOne {lo hi x : Int} {r : Rg} {m : List Rg} (h : lo < hi) : pf (cutOne lo hi r ++ m) x = if (r.lo ≤ x ∧ x < r.hi) ∧ ¬ (lo ≤ x ∧ x < hi) then r.p else pf m x := by
  unfold cutOne
  by_cases h1 : r.lo < min r.hi lo
  · rw [if_pos h1]
    by_cases h2 : max r.lo hi < r.hi
    · rw [if_pos h2]
      show pf (⟨r.lo, min r.hi lo, r.p⟩ :: ⟨max r.lo hi, r.hi, r.p⟩ :: m) x = _
      by_cases hx : (r.lo ≤ x ∧ x < r.hi) ∧ ¬ (lo ≤ x ∧ x < hi)
      · rw [if_pos hx]
        by_cases hx2 : x < min r.hi lo
        · rw [pf_yes (show r.lo ≤ x ∧ x < min r.hi lo by omega)]
        · rw [pf_no (show ¬ (r.lo ≤ x ∧ x < min r.hi lo) by omega), pf_yes (show max r.lo hi ≤ x ∧ x < r.hi by omega)]
      · rw [if_neg hx, pf_no (show ¬ (r.lo ≤ x ∧ x < min r.hi lo) by omega), pf_no (show ¬ (max r.lo hi ≤ x ∧ x < r.hi) by omega)]
    · rw [if_neg h2]
      show pf (⟨r.lo, min r.hi lo, r.p⟩ :: m) x = _
      by_cases hx : (r.lo ≤ x ∧ x < r.hi) ∧ ¬ (lo ≤ x ∧ x < hi)
      · rw [if_pos hx, pf_yes (show r.lo ≤ x ∧ x < min r.hi lo by omega)]
      · rw [if_neg hx, pf_no (show ¬ (r.lo ≤ x ∧ x < min r.hi lo) by omega)]
  · rw [if_neg h1]
    by_cases h2 : max r.lo hi < r.hi
    · rw [if_pos h2]
      show pf (⟨max r.lo hi, r.hi, r.p⟩ :: m) x = _
      by_cases hx : (r.lo ≤ x ∧ x < r.hi) ∧ ¬ (lo ≤ x ∧ x < hi)
      · rw [if_pos hx, pf_yes (show max r.lo hi ≤ x ∧ x < r.hi by omega)]
      · rw [if_neg hx, pf_no (show ¬ (max r.lo hi ≤ x ∧ x < r.hi) by omega)]
    · rw [if_neg h2]
      show pf m x = _
      rw [if_neg (by omega)]
theorem pf_cutL : ∀ {l : List Rg} {lo hi x : Int}, lo < hi → pf (cutL l lo hi) x = if lo ≤ x ∧ x < hi then -1 else pf l x
  | [], lo, hi, x, h => by rw [cutL_nil]; split <;> rfl
  | r :: l, lo, hi, x, h => by
    rw [cutL_cons h, pf_cutOne h, pf_cutL h]
    by_cases hx : lo ≤ x ∧ x < hi
    · rw [if_neg (by omega), if_pos hx, if_pos hx]
    · by_cases hr : r.lo ≤ x ∧ x < r.hi
      · rw [if_pos (by omega), if_neg hx, pf_yes hr]
      · rw [if_neg (by omega), if_neg hx, if_neg hx, pf_no hr]
theorem cutL_rising : ∀ {l : List Rg} {b lo hi : Int}, Rising b l → lo < hi → Rising b (cutL l lo hi)
  | [], b, lo, hi, _, _ => by rw [cutL_nil]; exact trivial
  | r :: l, b, lo, hi, ⟨h1, h2, h3, h4⟩, h => by
    rw [cutL_cons h]
    have ih := cutL_rising (b := r.hi) h4 h
    unfold cutOne
    by_cases a1 : r.lo < min r.hi lo
    · rw [if_pos a1]
      by_cases a2 : max r.lo hi < r.hi
      · rw [if_pos a2]
        exact ⟨h1, a1, h3, by show min r.hi lo ≤ max r.lo hi; omega, a2, h3, ih⟩
      · rw [if_neg a2]
        exact ⟨h1, a1, h3, ih.weak (by show min r.hi lo ≤ _; omega)⟩
    · rw [if_neg a1]
      by_cases a2 : max r.lo hi < r.hi
      · rw [if_pos a2]
        exact ⟨by show _ ≤ max r.lo hi; omega, a2, h3, ih⟩
      · rw [if_neg a2]
        exact ih.weak (by omega)
theorem cutL_canon : ∀ {l : List Rg} {b q lo hi : Int}, Canon b q l → lo < hi → Canon b q (cutL l lo hi)
  | [], b, q, lo, hi, _, _ => by rw [cutL_nil]; exact trivial
  | r :: l, b, q, lo, hi, ⟨h1, h2, h3, h4, h5⟩, h => by
    rw [cutL_cons h]
    have ih := cutL_canon (b := r.hi) (q := r.p) h5 h
    unfold cutOne
    by_cases a1 : r.lo < min r.hi lo
    · rw [if_pos a1]
      by_cases a2 : max r.lo hi < r.hi
      · rw [if_pos a2]
        exact ⟨h1, a1, h3, h4, by show min r.hi lo ≤ max r.lo hi; omega, a2, h3, fun e => by have e2 : max r.lo hi = min r.hi lo := e; omega, ih⟩
      · rw [if_neg a2]
        refine ⟨h1, a1, h3, h4, ?_⟩
        by_cases e : r.hi ≤ lo
        · rw [show min r.hi lo = r.hi by omega]; exact ih
        · exact ih.weak (by show min r.hi lo < _; omega)
    · rw [if_neg a1]
      by_cases a2 : max r.lo hi < r.hi
      · rw [if_pos a2]
        refine ⟨by show _ ≤ max r.lo hi; omega, a2, h3, fun e => ?_, ih⟩
        have e2 : max r.lo hi = b := e
        exact h4 (by omega)
      · rw [if_neg a2]
        exact ih.weak (by omega)
/-- What of a row lies from lo on, below hi. -/
def clipR (lo hi : Int) (r : Rg) : Rg := ⟨max r.lo lo, min r.hi hi, r.p⟩
def piecesL (l : List Rg) (lo hi : Int) : List Rg := (l.map (clipR lo hi)).filter fun x => decide (x.lo < x.hi)
theorem piecesL_cons (r : Rg) (l : List Rg) (lo hi : Int) : piecesL (r :: l) lo hi = if max r.lo lo < min r.hi hi then clipR lo hi r :: piecesL l lo hi else piecesL l lo hi := by
  unfold piecesL
  rw [List.map_cons]
  by_cases h : max r.lo lo < min r.hi hi
  · rw [if_pos h, List.filter_cons_of_pos (by simpa using show (clipR lo hi r).lo < (clipR lo hi r).hi from h)]
  · rw [if_neg h, List.filter_cons_of_neg (by simpa using show ¬ (clipR lo hi r).lo < (clipR lo hi r).hi from h)]
/-- Do the pieces, one behind the other, make up all from at to hi, each in some way? -/
def allGo (ok : Int → Bool) (hi : Int) : Int → List Rg → Bool
  | at_, [] => decide (at_ = hi)
  | at_, r :: l => if r.lo ≠ at_ ∨ ok r.p = false then false else allGo ok hi r.hi l
def allL (l : List Rg) (lo hi : Int) (ok : Int → Bool) : Bool := if hi ≤ lo then true else allGo ok hi lo (piecesL l lo hi)
theorem allGo_iff (ok : Int → Bool) (lo hi : Int) : ∀ (l : List Rg) (at_ : Int), Rising at_ l ∨ (∃ b, Rising b l ∧ b ≤ at_ ∧ at_ = lo) → lo ≤ at_ → at_ ≤ hi → (allGo ok hi at_ (piecesL l lo hi) = true ↔ ∀ x, at_ ≤ x → x < hi → pf l x ≠ -1 ∧ ok (pf l x) = true)
  | [], at_, _, _, h2 => by
    show decide (at_ = hi) = true ↔ _
    rw [decide_eq_true_iff]
    refine ⟨fun e x h3 h4 => by omega, fun h => ?_⟩
    by_cases e : at_ = hi
    · exact e
    · exact absurd rfl (h at_ (Int.le_refl _) (by omega)).1
  | r :: l, at_, hr, h1, h2 => by
    obtain ⟨r1, r2, r3, r4⟩ : (r.lo < at_ → at_ = lo) ∧ r.lo < r.hi ∧ 0 ≤ r.p ∧ Rising r.hi l := by
      rcases hr with ⟨a1, a2, a3, a4⟩ | ⟨b, ⟨a1, a2, a3, a4⟩, hb, he⟩
      · exact ⟨fun h => by omega, a2, a3, a4⟩
      · exact ⟨fun _ => he, a2, a3, a4⟩
    rw [piecesL_cons]
    by_cases h : max r.lo lo < min r.hi hi
    · rw [if_pos h, allGo]
      by_cases hlo : max r.lo lo = at_
      · cases hok : ok r.p with
        | false =>
          rw [if_pos (.inr hok)]
          refine ⟨fun e => Bool.noConfusion e, fun hh => ?_⟩
          have := hh at_ (Int.le_refl _) (by omega)
          rw [pf_yes (by omega), hok] at this
          exact absurd this.2 (by decide)
        | true =>
          rw [if_neg (by rintro (e | e); exact e hlo; exact absurd (show ok r.p = false from e) (by rw [hok]; decide))]
          show allGo ok hi (min r.hi hi) (piecesL l lo hi) = true ↔ _
          by_cases hhi : r.hi ≤ hi
          · rw [show min r.hi hi = r.hi by omega, allGo_iff ok lo hi l r.hi (.inl r4) (by omega) hhi]
            refine ⟨fun hh x h3 h4 => ?_, fun hh x h3 h4 => ?_⟩
            · by_cases hx : x < r.hi
              · rw [pf_yes (by omega)]; exact ⟨by omega, hok⟩
              · rw [pf_no (by omega)]; exact hh x (by omega) h4
            · have := hh x (by omega) h4
              rwa [pf_no (by omega)] at this
          · have e : piecesL l lo hi = [] := by
              unfold piecesL
              refine List.filter_eq_nil_iff.2 fun s hs => ?_
              obtain ⟨t, ht, rfl⟩ := List.mem_map.1 hs
              have := r4.mem t ht
              have e2 : ¬ max t.lo lo < min t.hi hi := by omega
              simpa using (show ¬ (clipR lo hi t).lo < (clipR lo hi t).hi from e2)
            rw [e, show min r.hi hi = hi by omega]
            refine ⟨fun _ x h3 h4 => ?_, fun _ => by show decide (hi = hi) = true; simp⟩
            rw [pf_yes (by omega)]
            exact ⟨by omega, hok⟩
      · rw [if_pos (.inl hlo)]
        refine ⟨fun e => Bool.noConfusion e, fun hh => ?_⟩
        have := (hh at_ (Int.le_refl _) (by omega)).1
        rw [pf_no (by omega), pf_below r4 (by omega)] at this
        exact absurd rfl this
    · rw [if_neg h]
      by_cases hb : r.hi ≤ at_
      · have hat : at_ = lo := r1 (by omega)
        rw [allGo_iff ok lo hi l at_ (.inr ⟨r.hi, r4, hb, hat⟩) h1 h2]
        refine ⟨fun hh x h3 h4 => by rw [pf_no (by omega)]; exact hh x h3 h4, fun hh x h3 h4 => by have := hh x h3 h4; rwa [pf_no (by omega)] at this⟩
      · by_cases he : at_ = hi
        · have hn : ∀ m, allGo ok hi at_ (piecesL m lo hi) = true ∨ piecesL m lo hi ≠ [] := fun m => by
            cases hm : piecesL m lo hi with
            | nil => left; show decide (at_ = hi) = true; simp [he]
            | cons => right; simp
          have e : piecesL l lo hi = [] := by
            unfold piecesL
            refine List.filter_eq_nil_iff.2 fun s hs => ?_
            obtain ⟨t, ht, rfl⟩ := List.mem_map.1 hs
            have := r4.mem t ht
            have e2 : ¬ max t.lo lo < min t.hi hi := by omega
            simpa using (show ¬ (clipR lo hi t).lo < (clipR lo hi t).hi from e2)
          rw [e]
          exact ⟨fun _ x h3 h4 => by omega, fun _ => by show decide (at_ = hi) = true; simp [he]⟩
        · have hr2 : hi ≤ r.lo := by omega
          have e : piecesL l lo hi = [] := by
            unfold piecesL
            refine List.filter_eq_nil_iff.2 fun s hs => ?_
            obtain ⟨t, ht, rfl⟩ := List.mem_map.1 hs
            have := r4.mem t ht
            have e2 : ¬ max t.lo lo < min t.hi hi := by omega
            simpa using (show ¬ (clipR lo hi t).lo < (clipR lo hi t).hi from e2)
          rw [e]
          refine ⟨fun hd => absurd (of_decide_eq_true (show decide (at_ = hi) = true from hd)) he, fun hh => ?_⟩
          have := (hh at_ (Int.le_refl _) (by omega)).1
          rw [pf_no (by omega), pf_below r4 (by omega)] at this
          exact absurd rfl this
theorem allL_iff {l : List Rg} {b lo hi : Int} {ok : Int → Bool} (hr : Rising b l) (hb : b ≤ lo) : allL l lo hi ok = true ↔ ∀ x, lo ≤ x → x < hi → pf l x ≠ -1 ∧ ok (pf l x) = true := by
  unfold allL
  split
  · exact ⟨fun _ x h1 h2 => by omega, fun _ => rfl⟩
  · exact allGo_iff ok lo hi l lo (.inr ⟨b, hr, hb, rfl⟩) (Int.le_refl _) (by omega)
end Go.Proofs.Ytoampbdipmecmaa
