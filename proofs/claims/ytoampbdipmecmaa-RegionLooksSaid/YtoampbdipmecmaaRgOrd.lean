/- The plain law of RegionOrders: parted stretches mapped, unmapped, in any order. -/
import Derived.Test.YtoampbdipmecmaaRgOut
namespace Go.Proofs.Ytoampbdipmecmaa
open Go.RowKit
theorem withL_pf {m : Nat} {C : List Rg} {lo hi p : Int} (h : Cn m C) (h0 : 0 ≤ lo) (hl : lo < hi) (hp : p = -1 ∨ 0 ≤ p) (x : Int) : pf (withL C lo hi p) x = withF C lo hi p x :=
  (with_is (l := C) (lo := lo) (hi := hi) (how := p) (b := 0) h.nice hp hl (fun r hr => (h.canon.rising.mem r hr).1) h0).2 x
/-- Distinct regions of a right row are apart. -/
theorem parted_ne {C : List Rg} (h : Parted C) {i j : Nat} {r s : Rg} (hr : C[i]? = some r) (hs : C[j]? = some s) (hne : i ≠ j) : Apart r s := by
  obtain ⟨hi, ei⟩ := List.getElem?_eq_some_iff.1 hr
  obtain ⟨hj, ej⟩ := List.getElem?_eq_some_iff.1 hs
  have hw := List.pairwise_iff_getElem.1 h
  rcases Nat.lt_or_gt_of_ne hne with e | e
  · have := hw i j hi hj e
    rwa [ei, ej] at this
  · have := hw j i hj hi e
    rw [ei, ej] at this
    exact this.symm
/-- What is mapped when i of C's regions are, in the order σ. -/
structure MapSt (C : List Rg) (σ : Nat → Nat) (i : Nat) (B : List Rg) : Prop where
  cn : Cn (2 * i) B
  yes : ∀ x j r, j < i → C[σ j]? = some r → (r.lo ≤ x ∧ x < r.hi) → pf B x = r.p
  no : ∀ x, (∀ j r, j < i → C[σ j]? = some r → ¬ (r.lo ≤ x ∧ x < r.hi)) → pf B x = -1
theorem MapSt.start (C : List Rg) (σ : Nat → Nat) : MapSt C σ 0 [] := ⟨⟨trivial, by simp, fun r hr => (List.not_mem_nil hr).elim⟩, fun x j r h => by omega, fun x _ => rfl⟩
theorem MapSt.step {m : Nat} {C : List Rg} {σ : Nat → Nat} {i : Nat} {B : List Rg} {k : Rg} (h : MapSt C σ i B) (hc : Cn m C) (hinj : ∀ j, j < i → σ j ≠ σ i) (hk : C[σ i]? = some k) :
    mapE B k.lo k.hi k.p = 0 ∧ MapSt C σ (i + 1) (mapL B k.lo k.hi k.p) := by
  have hkm := List.mem_of_getElem? hk
  have k1 := hc.lo k hkm
  have k2 := hc.nice k hkm
  have hap : ∀ j r, j < i → C[σ j]? = some r → Apart r k := fun j r hj hr => parted_ne hc.parted hr hk (hinj j hj)
  have hr : rightB k.lo k.hi k.p = true := rightB_yes k1.1 k2.1 k2.2 k1.2.2
  have hu : usedB B k.lo k.hi = false := by
    cases e : usedB B k.lo k.hi with
    | false => rfl
    | true =>
      obtain ⟨s, hs, s1, s2⟩ := used_iff.1 e
      have hsn := h.cn.nice s hs
      have hx : s.lo ≤ max s.lo k.lo ∧ max s.lo k.lo < s.hi := by omega
      have hx2 : k.lo ≤ max s.lo k.lo ∧ max s.lo k.lo < k.hi := by omega
      have hp := parted_at h.cn.parted hs hx
      have hno := h.no (max s.lo k.lo) (fun j r hj hr hh => by
        have := hap j r hj hr
        unfold Apart at this
        omega)
      omega
  have he : mapE B k.lo k.hi k.p = 0 := by unfold mapE; rw [if_neg (by simp [hr]), if_neg (by simp [hu])]
  have hl : mapL B k.lo k.hi k.p = withL B k.lo k.hi k.p := (map_ok he).2.2
  refine ⟨he, ?_, fun x j r hj hr hx => ?_, fun x hx => ?_⟩
  · exact (map_cn h.cn k1.2.1).more (by omega)
  · rw [hl, withL_pf h.cn k1.1 k2.1 (.inr k2.2)]
    unfold withF
    by_cases hji : j = i
    · subst hji
      rw [hk] at hr
      injection hr with hr
      subst hr
      rw [if_pos hx]
    · have := hap j r (by omega) hr
      unfold Apart at this
      rw [if_neg (by omega)]
      exact h.yes x j r (by omega) hr hx
  · rw [hl, withL_pf h.cn k1.1 k2.1 (.inr k2.2)]
    unfold withF
    rw [if_neg (hx i k (by omega) hk)]
    exact h.no x (fun j r hj => hx j r (by omega))
theorem MapSt.all {m : Nat} {C : List Rg} {σ : Nat → Nat} {B : List Rg} (h : MapSt C σ C.length B) (hc : Cn m C) (hsur : ∀ i, i < C.length → ∃ j, j < C.length ∧ σ j = i) : B = C := by
  refine canon_eq h.cn.canon hc.canon (fun x _ => ?_)
  by_cases e : pf C x = -1
  · rw [e]
    refine h.no x (fun j r hj hr hx => ?_)
    have hm := List.mem_of_getElem? hr
    have h1 := parted_at hc.parted hm hx
    have h2 := hc.nice r hm
    omega
  · obtain ⟨r, hr, hx, he⟩ := pf_some e
    obtain ⟨i, hi, hri⟩ := List.mem_iff_getElem.1 hr
    obtain ⟨j, hj, hs⟩ := hsur i hi
    rw [he]
    exact h.yes x j r hj (by rw [hs, List.getElem?_eq_getElem hi, hri]) hx
/-- What is left when i of C's regions are unmapped, in the order σ. -/
structure UnSt (m : Nat) (C : List Rg) (σ : Nat → Nat) (i : Nat) (B : List Rg) : Prop where
  cn : Cn (m + i) B
  yes : ∀ x j r, j < i → C[σ j]? = some r → (r.lo ≤ x ∧ x < r.hi) → pf B x = -1
  no : ∀ x, pf C x = -1 → pf B x = -1
theorem UnSt.start {m : Nat} {C : List Rg} (σ : Nat → Nat) (hc : Cn m C) : UnSt m C σ 0 C := ⟨hc, fun x j r h => by omega, fun x h => h⟩
theorem UnSt.step {m : Nat} {C : List Rg} {σ : Nat → Nat} {i : Nat} {B : List Rg} {k : Rg} (h : UnSt m C σ i B) (hc : Cn m C) (hk : C[σ i]? = some k) : UnSt m C σ (i + 1) (unL B k.lo k.hi) := by
  have hkm := List.mem_of_getElem? hk
  have k1 := hc.lo k hkm
  have k2 := hc.nice k hkm
  have hl : unL B k.lo k.hi = withL B k.lo k.hi (-1) := by unfold unL; rw [if_neg (by omega)]
  refine ⟨(un_cn h.cn).more (by omega), fun x j r hj hr hx => ?_, fun x hx => ?_⟩
  · rw [hl, withL_pf h.cn k1.1 k2.1 (.inl rfl)]
    unfold withF
    by_cases hji : j = i
    · subst hji
      rw [hk] at hr
      injection hr with hr
      subst hr
      rw [if_pos hx]
    · split
      · rfl
      · exact h.yes x j r (by omega) hr hx
  · rw [hl, withL_pf h.cn k1.1 k2.1 (.inl rfl)]
    unfold withF
    split
    · rfl
    · exact h.no x hx
theorem UnSt.all {m : Nat} {C : List Rg} {σ : Nat → Nat} {B : List Rg} (h : UnSt m C σ C.length B) (hsur : ∀ i, i < C.length → ∃ j, j < C.length ∧ σ j = i) : B = [] := by
  refine canon_eq (b := 0) (q := -1) h.cn.canon trivial (fun x _ => ?_)
  show pf B x = -1
  by_cases e : pf C x = -1
  · exact h.no x e
  · obtain ⟨r, hr, hx, he⟩ := pf_some e
    obtain ⟨i, hi, hri⟩ := List.mem_iff_getElem.1 hr
    obtain ⟨j, hj, hs⟩ := hsur i hi
    exact h.yes x j r hj (by rw [hs, List.getElem?_eq_getElem hi, hri]) hx
/-- The order that begins at t. -/
def sgm (q t j : Nat) : Nat := (j + t) % q
theorem sgm_eq {q t j : Nat} (hj : j < q) : sgm q t j = if j + t % q < q then j + t % q else j + t % q - q := by
  have ht : t % q < q := Nat.mod_lt _ (by omega)
  unfold sgm
  rw [← Nat.add_mod_mod]
  split
  · rename_i h
    exact Nat.mod_eq_of_lt h
  · rename_i h
    rw [Nat.mod_eq_sub_mod (by omega)]
    exact Nat.mod_eq_of_lt (by omega)
theorem sgm_inj {q t i j : Nat} (hi : i < q) (hj : j < q) (h : j ≠ i) : sgm q t j ≠ sgm q t i := by
  have ht : t % q < q := Nat.mod_lt _ (by omega)
  rw [sgm_eq hi, sgm_eq hj]
  split <;> split <;> omega
theorem sgm_sur {q t i : Nat} (hi : i < q) : ∃ j, j < q ∧ sgm q t j = i := by
  have ht : t % q < q := Nat.mod_lt _ (by omega)
  by_cases h : t % q ≤ i
  · refine ⟨i - t % q, by omega, ?_⟩
    rw [sgm_eq (by omega), if_pos (by omega)]
    omega
  · refine ⟨i + q - t % q, by omega, ?_⟩
    rw [sgm_eq (by omega), if_neg (by omega)]
    omega
end Go.Proofs.Ytoampbdipmecmaa
