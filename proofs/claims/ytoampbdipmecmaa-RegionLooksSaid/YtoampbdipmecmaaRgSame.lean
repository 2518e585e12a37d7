/- The law's Same, known. -/
import Derived.Test.YtoampbdipmecmaaRgRefD
import Derived.Test.YtoampbdipmecmaaRgClean
namespace Go.Proofs.Ytoampbdipmecmaa
open Go.RowKit
set_option linter.unusedSimpArgs false in
set_option linter.unusedVariables false in
set_option maxRecDepth 100000 in
set_option maxHeartbeats 1000000 in
theorem same_yes (a b : Option Addr) (n c d : Nat) (L : List Rg) (w : World) (h : RdS Rg.cells 3 w a n c L) (h2 : RdS Rg.cells 3 w b n d L) (hn : n ≤ 1000) :
    Calls Try.prog 11 #[.slice a n c, .slice b n d] w fun e w' => e = .returned (.bool true) ∧ Below w.heap.size w w' := by
  have H := Lib.hid h
  have H2 := Lib.hid h2
  clear h h2
  go_enter Try.func11, Try.ntmps11
  go_wp2
  go_loopw [5] (fun i wr => ∃ k : Nat, k ≤ n ∧ i = .int .i64 k ∧ Hid (Below w.heap.size w wr)) (fun i _ => n - (intOf i).toNat)
  case atStart => exact ⟨0, by omega, rfl, Below.refl _ _⟩
  case round =>
    obtain ⟨k, hk, rfl, B⟩ := hrel
    by_cases hkn : k < n
    · have hl := H.out.len
      obtain ⟨r, hr⟩ : ∃ r, L[k]? = some r := ⟨L[k], List.getElem?_eq_getElem (by omega)⟩
      obtain ⟨g, o, ha, c0, c1, c2⟩ := (H.out.below B.out).three k r hr
      obtain ⟨g', o', hb, d0, d1, d2⟩ := (H2.out.below B.out).three k r hr
      subst ha hb
      clear hr hl
      obtain ⟨rlo, rhi, rp⟩ := r
      replace c0 : wr.cell? ⟨g, o + k * 3, none⟩ = some (.int .i64 rlo) := c0
      replace c1 : wr.cell? ⟨g, o + k * 3 + 1, none⟩ = some (.int .i64 rhi) := c1
      replace c2 : wr.cell? ⟨g, o + k * 3 + 2, none⟩ = some (.int .i64 rp) := c2
      replace d0 : wr.cell? ⟨g', o' + k * 3, none⟩ = some (.int .i64 rlo) := d0
      replace d1 : wr.cell? ⟨g', o' + k * 3 + 1, none⟩ = some (.int .i64 rhi) := d1
      replace d2 : wr.cell? ⟨g', o' + k * 3 + 2, none⟩ = some (.int .i64 rp) := d2
      go_wp2
      go_quiet (fail)
      go_wp2
      go_roundw
      case rel => exact ⟨k + 1, by omega, by go_num, Below.call B.out (belowN (Below.refl _ _) _)⟩
      case measure => simp [intOf] <;> omega
    · obtain rfl : k = n := by omega
      go_wp2
      go_ret
      exact ⟨rfl, B.out⟩
theorem joined_sorted {l : List Rg} {b : Int} (hs : l.Pairwise (fun a c => a.lo ≤ c.lo)) (hp : Parted l) (hn : NiceL l) (hb : ∀ r ∈ l, b ≤ r.lo) : joinedL l = joinedS l := (joined_any (List.Perm.refl l) hs hp hn hb).symm
theorem kn_map : GivesMap [⟨0, 2, 1⟩] 2 4 1 = GivesRE [⟨0, 4, 1⟩] 0 := by
  funext w
  unfold GivesMap
  rw [if_pos (by rfl), joined_sorted (b := 0) (by simp) (by simp [Parted, Apart]) (by simp [NiceL]) (by simp)]
  rfl
theorem kn_prot : joinedL (cutL [⟨0, 9, 3⟩] 3 5 ++ [⟨3, 5, 1⟩]) = [⟨0, 3, 3⟩, ⟨3, 5, 1⟩, ⟨5, 9, 3⟩] := by
  have e : cutL [⟨0, 9, 3⟩] 3 5 ++ [(⟨3, 5, 1⟩ : Rg)] = [⟨0, 3, 3⟩, ⟨5, 9, 3⟩, ⟨3, 5, 1⟩] := by rfl
  rw [e]
  refine ((joined_any (d := [⟨0, 3, 3⟩, ⟨3, 5, 1⟩, ⟨5, 9, 3⟩]) (b := 0) ?_ (by simp) (by simp [Parted, Apart]) (by simp [NiceL]) (by simp)).symm).trans (by rfl)
  exact List.Perm.cons _ (List.Perm.swap _ _ _)
theorem kn_rd {w : World} {g : Nat} {r : Rg} (h : w.heap[g]? = some (.cells #[.int .i64 r.lo, .int .i64 r.hi, .int .i64 r.p] 29 (0, 0))) : RdS Rg.cells 3 w (some ⟨g, 0, none⟩) 1 1 [r] := by
  obtain ⟨c0, c1, c2⟩ := cells3 h
  refine ⟨rfl, Nat.le_refl _, by unfold maxLen; omega, fun i x hx => ?_, fun e => by cases e⟩
  cases i with
  | succ i => simp at hx
  | zero =>
    obtain rfl : r = x := by simpa using hx
    refine ⟨g, 0, rfl, fun j u hu => ?_⟩
    rw [Nat.zero_mul, Nat.zero_add]
    match j, hu with
    | 0, hu => obtain rfl : Value.int .i64 r.lo = u := by simpa [Rg.cells] using hu
               simpa using c0
    | 1, hu => obtain rfl : Value.int .i64 r.hi = u := by simpa [Rg.cells] using hu
               simpa using c1
    | 2, hu => obtain rfl : Value.int .i64 r.p = u := by simpa [Rg.cells] using hu
               simpa using c2
    | j + 3, hu => simp [Rg.cells] at hu
set_option linter.unusedSimpArgs false in
set_option linter.unusedVariables false in
set_option maxRecDepth 100000 in
set_option maxHeartbeats 2000000 in
theorem known_any (w : World) : Calls Try.prog 8 #[] w fun e w' => e = .returned (.bool true) ∧ Below w.heap.size w w' := by
  have HM : Hid (∀ w1 g, w1.heap[g]? = some (.cells #[.int .i64 0, .int .i64 2, .int .i64 1] 29 (0, 0)) → Calls Try.prog 10 #[.slice (some ⟨g, 0, none⟩) 1 1, .int .i64 2, .int .i64 4, .int .i64 1] w1 (GivesRE [⟨0, 4, 1⟩] 0 w1)) := fun w1 g hg => by
    have := map_yes (some ⟨g, 0, none⟩) 1 1 [⟨0, 2, 1⟩] 2 4 1 w1 (kn_rd hg) (by omega) (by simp [NiceL]) (by simp [Parted]) (by simp) (by omega) (by rfl)
    rwa [kn_map] at this
  have HP : Hid (∀ w1 g, w1.heap[g]? = some (.cells #[.int .i64 0, .int .i64 9, .int .i64 3] 29 (0, 0)) → Calls Try.prog 15 #[.slice (some ⟨g, 0, none⟩) 1 1, .int .i64 3, .int .i64 5, .int .i64 1] w1 (GivesRE [⟨0, 3, 3⟩, ⟨3, 5, 1⟩, ⟨5, 9, 3⟩] 0 w1)) := fun w1 g hg => by
    have := protect_any (some ⟨g, 0, none⟩) 1 1 [⟨0, 9, 3⟩] 3 5 1 w1 (kn_rd hg) (by omega) (by simp [NiceL]) (by simp [Parted]) (by simp) (by omega)
    rwa [if_neg (by decide), if_neg (by decide), kn_prot] at this
  go_enter Try.func8, Try.ntmps8
  go_wp2_with (first | (go_at_call 10; refine (HM.out _ _ (heap_alloc_new w _)).mono ?_; rintro e w1 ⟨v1, rfl, ho1, hb1⟩) | (go_at_call 15; refine (HP.out _ _ (heap_alloc_new w1 _)).mono ?_; rintro e w2 ⟨v2, rfl, ho2, hb2⟩; obtain ⟨a1, c1, rfl⟩ := ho1.shapeN 1 rfl; obtain ⟨a2, c2, rfl⟩ := ho2.shapeN 3 rfl; have hbx := Below.call (below_a w1 _) hb2; obtain ⟨g1, o1, e1, x0, x1, x2⟩ := ((ho1.below hbx).rd rgC).three 0 _ rfl; obtain ⟨g2, o2, e2, y0, y1, y2⟩ := (ho2.rd rgC).three 1 _ rfl; subst e1 e2; rw [Nat.zero_mul, Nat.add_zero] at x0 x1 x2; rw [Nat.one_mul] at y0 y1 y2))
  go_ret
  exact ⟨rfl, Below.call (Below.call (below_a w _) hb1) hbx⟩
end Go.Proofs.Ytoampbdipmecmaa
