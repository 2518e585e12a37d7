/- The plain law of RegionUndoes. -/
import Derived.Test.YtoampbdipmecmaaRgOrd
import Derived.Test.YtoampbdipmecmaaRgIter2
namespace Go.Proofs.Ytoampbdipmecmaa
open Go.RowKit
theorem okW_zero {v : Int} (h : 0 ≤ v ∧ v ≤ 3) : okW 0 v = true := by
  have : v = 0 ∨ v = 1 ∨ v = 2 ∨ v = 3 := by omega
  rcases this with rfl | rfl | rfl | rfl <;> decide
theorem okW_self {v : Int} (h : 0 ≤ v ∧ v ≤ 3) : okW v v = true := by
  have : v = 0 ∨ v = 1 ∨ v = 2 ∨ v = 3 := by omega
  rcases this with rfl | rfl | rfl | rfl <;> decide
theorem Cn.pf_ok {m : Nat} {C : List Rg} (h : Cn m C) {x : Int} (hx : pf C x ≠ -1) : 0 ≤ pf C x ∧ pf C x ≤ 3 := by
  obtain ⟨r, hr, _, e⟩ := pf_some hx
  rw [e]
  exact ⟨(h.nice r hr).2, (h.lo r hr).2.2⟩
/-- Every page of the stretch is in some region: Protect goes through. -/
theorem pro_yes {m : Nat} {C : List Rg} {lo hi p : Int} (h : Cn m C) (hr : rightB lo hi p = true) (hf : ∀ x, lo ≤ x → x < hi → pf C x ≠ -1) : proE C lo hi p = 0 := by
  have ha : refAll C lo hi (okW 0) = true := refAll_iff.2 (fun x h1 h2 => ⟨hf x h1 h2, okW_zero (h.pf_ok (hf x h1 h2))⟩)
  unfold proE
  rw [if_neg (by simp [hr]), if_neg (by simp [ha])]
section
variable {m : Nat} {C : List Rg} {lo hi p : Int}
theorem un_map (h : Cn m C) (hh : hi ≤ 1099511627776) (h0 : mapE C lo hi p = 0) : unL (withL C lo hi p) lo hi = C := by
  obtain ⟨⟨r1, r2, r3, r4⟩, hu, _⟩ := map_ok h0
  have hA := protect_cn h r1 r2 hh ⟨r3, r4⟩
  refine canon_eq (un_cn hA).canon h.canon (fun x _ => ?_)
  have e : unL (withL C lo hi p) lo hi = withL (withL C lo hi p) lo hi (-1) := by unfold unL; rw [if_neg (by omega)]
  rw [e, withL_pf hA r1 r2 (.inl rfl)]
  unfold withF
  rw [withL_pf h r1 r2 (.inr r3)]
  unfold withF
  by_cases hx : lo ≤ x ∧ x < hi
  · rw [if_pos hx, pf_none]
    intro r hr hxr
    have h1 : r.lo < hi := by omega
    have h2 : lo < r.hi := by omega
    have := used_iff.2 ⟨r, hr, h1, h2⟩
    rw [hu] at this
    cases this
  · rw [if_neg hx, if_neg hx]
theorem map_pages (h : Cn m C) (h0 : mapE C lo hi p = 0) : pagesN (withL C lo hi p) = pagesN C + (hi - lo) := by
  obtain ⟨⟨r1, r2, r3, r4⟩, hu, _⟩ := map_ok h0
  rw [← map_with h.canon r1 r2 r3 ((pieces_none h.nice r2).1 ((used_pieces h.nice r2).1 hu)), joinedL_pages, pagesN_append]
  simp [pagesN]
theorem map_all (h : Cn m C) (hh : hi ≤ 1099511627776) (h0 : mapE C lo hi p = 0) : allL (withL C lo hi p) lo hi (okW p) = true := by
  obtain ⟨⟨r1, r2, r3, r4⟩, _, _⟩ := map_ok h0
  have hA := protect_cn h r1 r2 hh ⟨r3, r4⟩
  refine (allL_iff hA.canon.rising r1).2 (fun x h1 h2 => ?_)
  rw [withL_pf h r1 r2 (.inr r3)]
  unfold withF
  rw [if_pos ⟨h1, h2⟩]
  exact ⟨by omega, okW_self ⟨r3, r4⟩⟩
theorem map_pro (h : Cn m C) (hh : hi ≤ 1099511627776) (h0 : mapE C lo hi p = 0) : proE (withL C lo hi p) lo hi p = 0 ∧ proL (withL C lo hi p) lo hi p = withL C lo hi p := by
  obtain ⟨⟨r1, r2, r3, r4⟩, _, _⟩ := map_ok h0
  have hA := protect_cn h r1 r2 hh ⟨r3, r4⟩
  have he : proE (withL C lo hi p) lo hi p = 0 := by
    refine pro_yes hA (rightB_yes r1 r2 r3 r4) (fun x h1 h2 => ?_)
    rw [withL_pf h r1 r2 (.inr r3)]
    unfold withF
    rw [if_pos ⟨h1, h2⟩]
    omega
  refine ⟨he, ?_⟩
  rw [(pro_ok he).2.2]
  refine canon_eq (protect_cn hA r1 r2 hh ⟨r3, r4⟩).canon hA.canon (fun x _ => ?_)
  rw [withL_pf hA r1 r2 (.inr r3)]
  unfold withF
  rw [withL_pf h r1 r2 (.inr r3)]
  unfold withF
  by_cases hx : lo ≤ x ∧ x < hi
  · rw [if_pos hx, if_pos hx]
  · rw [if_neg hx]
theorem piece_iff {r : Rg} : r ∈ piecesL C lo hi ↔ ∃ s ∈ C, clipR lo hi s = r ∧ r.lo < r.hi := by
  unfold piecesL
  rw [List.mem_filter, List.mem_map]
  constructor
  · rintro ⟨⟨s, hs, e⟩, h2⟩; exact ⟨s, hs, e, by simpa using h2⟩
  · rintro ⟨s, hs, e, h2⟩; exact ⟨⟨s, hs, e⟩, by simpa using h2⟩
/-- What a piece is. -/
theorem piece_at (h : Cn m C) {r : Rg} (hr : r ∈ piecesL C lo hi) : 0 ≤ r.lo ∧ r.lo < r.hi ∧ r.hi ≤ 1099511627776 ∧ lo ≤ r.lo ∧ r.hi ≤ hi ∧ (0 ≤ r.p ∧ r.p ≤ 3) ∧ ∀ x, r.lo ≤ x → x < r.hi → pf C x = r.p := by
  obtain ⟨s, hs, e, h2⟩ := piece_iff.1 hr
  have h3 := h.lo s hs
  have h4 := h.nice s hs
  subst e
  unfold clipR at h2 ⊢
  simp only at h2 ⊢
  refine ⟨by omega, h2, by omega, by omega, by omega, ⟨h4.2, h3.2.2⟩, fun x h5 h6 => parted_at h.parted hs (by omega)⟩
/-- What is as it was when some pieces have been protected as they were. -/
structure UndoSt (m : Nat) (C : List Rg) (lo hi : Int) (pre : List (Pc C lo hi)) (B : List Rg) : Prop where
  cn : Cn (m + 2 + 2 * pre.length) B
  full : ∀ x, lo ≤ x → x < hi → pf B x ≠ -1
  out : ∀ x, ¬ (lo ≤ x ∧ x < hi) → pf B x = pf C x
  yes : ∀ x r, r ∈ pre → (r.1.lo ≤ x ∧ x < r.1.hi) → pf B x = pf C x
theorem UndoSt.start (h : Cn m C) (hh : hi ≤ 1099511627776) (h0 : proE C lo hi p = 0) : UndoSt m C lo hi [] (withL C lo hi p) := by
  obtain ⟨⟨r1, r2, r3, r4⟩, _, _⟩ := pro_ok h0
  refine ⟨protect_cn h r1 r2 hh ⟨r3, r4⟩, fun x h1 h2 => ?_, fun x hx => ?_, fun x r hr => (List.not_mem_nil hr).elim⟩
  · rw [withL_pf h r1 r2 (.inr r3)]
    unfold withF
    rw [if_pos ⟨h1, h2⟩]
    omega
  · rw [withL_pf h r1 r2 (.inr r3)]
    unfold withF
    rw [if_neg hx]
theorem UndoSt.step {pre : List (Pc C lo hi)} {B : List Rg} (s : UndoSt m C lo hi pre B) (h : Cn m C) (r : Pc C lo hi) : proE B r.1.lo r.1.hi r.1.p = 0 ∧ UndoSt m C lo hi (pre ++ [r]) (proL B r.1.lo r.1.hi r.1.p) := by
  obtain ⟨p1, p2, p3, p4, p5, p6, p7⟩ := piece_at h r.2
  have he : proE B r.1.lo r.1.hi r.1.p = 0 := pro_yes s.cn (rightB_yes p1 p2 p6.1 p6.2) (fun x h1 h2 => s.full x (by omega) (by omega))
  refine ⟨he, ?_⟩
  rw [(pro_ok he).2.2]
  have hp : ∀ x, pf (withL B r.1.lo r.1.hi r.1.p) x = if r.1.lo ≤ x ∧ x < r.1.hi then r.1.p else pf B x := fun x => withL_pf s.cn p1 p2 (.inr p6.1) x
  refine ⟨(protect_cn s.cn p1 p2 p3 p6).more (by simp; omega), fun x h1 h2 => ?_, fun x hx => ?_, fun x q hq hx => ?_⟩
  · rw [hp]
    split
    · omega
    · exact s.full x h1 h2
  · rw [hp, if_neg (by omega)]
    exact s.out x hx
  · rw [hp]
    split
    · rename_i hin
      exact (p7 x hin.1 hin.2).symm
    · rcases List.mem_append.1 hq with hq | hq
      · exact s.yes x q hq hx
      · obtain rfl := List.mem_singleton.1 hq
        contradiction
theorem UndoSt.all {pre : List (Pc C lo hi)} {B : List Rg} (s : UndoSt m C lo hi pre B) (h : Cn m C) (hf : ∀ x, lo ≤ x → x < hi → pf C x ≠ -1) (hp : pre.map (·.1) = piecesL C lo hi) : B = C := by
  refine canon_eq s.cn.canon h.canon (fun x _ => ?_)
  by_cases hx : lo ≤ x ∧ x < hi
  · obtain ⟨r, hr, h1, h2⟩ := pf_some (hf x hx.1 hx.2)
    have hm : clipR lo hi r ∈ piecesL C lo hi := piece_iff.2 ⟨r, hr, rfl, by unfold clipR; simp only; omega⟩
    rw [← hp] at hm
    obtain ⟨q, hq, e⟩ := List.mem_map.1 hm
    refine s.yes x q hq ?_
    rw [e]
    unfold clipR
    simp only
    omega
  · exact s.out x hx
theorem pro_full (h0 : proE C lo hi p = 0) : ∀ x, lo ≤ x → x < hi → pf C x ≠ -1 := fun x h1 h2 => (refAll_iff.1 (pro_ok h0).2.1 x h1 h2).1
end
theorem ownsS_kept {α : Type} {m : α → List Value} {k : Nat} {e : TypeId} {W W' : World} {base : Nat} {v : Value} {L : List α} {row : Option Nat} (h : OwnsS m k e W base v L) (hg : W.grownBy W' row) (hr : ∀ r, row = some r → ∃ o : Obj, W.heap[r]? = some o ∧ o.isCells = false) : OwnsS m k e W' base v L := by
  refine h.grown hg (fun g hgr e => ?_)
  obtain ⟨o, ho, hc⟩ := hr g e.symm
  rcases h with ⟨_, a, hv, _⟩ | h2
  · subst hv
    unfold room at hgr
    cases a <;> simp at hgr
  · rcases h2.2 with ⟨hv, _⟩ | ⟨g2, cap, cur, hv, _, hh, _⟩
    · subst hv
      unfold room at hgr
      simp at hgr
    · subst hv
      unfold room at hgr
      simp at hgr
      obtain ⟨_, rfl⟩ := hgr
      rw [hh] at ho
      injection ho with ho
      subst ho
      cases hc
end Go.Proofs.Ytoampbdipmecmaa
