/- Joined: The contracts of codec's Writer: NewWriter, Int, Done. What a shape's numbers come to, and its nine cells. No program in sight. The contracts of geom's and the document's smaller functions. -/
import Derived.Test.YtcbnebcooiagmaaJy3
import Derived.Test.YtcbnebcooiagmaaJy1
import Derived.Test.YtcbnebcooiagmaaJy2
import Derived.ProofKit
import Derived.WalkKit
import Derived.Test.YtcbnebcooiagmaaProg
import Derived.Below
namespace Go.Proofs.Ytcbnebcooiagmaa
open Go.RowKit
set_option linter.unusedSimpArgs false in
set_option linter.unusedVariables false in
set_option maxRecDepth 100000 in
set_option maxHeartbeats 1000000 in
theorem wint_any (h : Nat) (v : Value) (l : List Int) (x : Int) (w : World) (ho : VarAt .u8 121 5 w h v l) (hl : l.length ≤ 1000000) (x1 : -9223372036854775808 ≤ x) (x2 : x ≤ 9223372036854775807) :
    Calls Try.prog 38 #[.pointer (some ⟨h, 0, none⟩), .int .i64 x] w fun e w' => e = .returned (.pointer (some ⟨h, 0, none⟩)) ∧ (∃ v', VarAt .u8 121 5 w' h v' (l ++ varF 9 (zigI x)) ∧ NewRoom w v v') ∧ Spared h (room v) w w' := by
  have hrow := ho.row
  have hlt : h < w.heap.size := ho.lt
  have hrv : room v ≠ some h := room_ne ho.own
  have hrg : ∀ q, room v = some q → h ≤ q := fun q hq => by have := (ho.own.at_base q hq).1; omega
  have hrl : ∀ q, room v = some q → q < w.heap.size := fun q hq => (ho.own.at_base q hq).2
  obtain ⟨w0, hw0⟩ : ∃ w0 : World, w0 = w := ⟨_, rfl⟩
  have hz := zigI_bd x x1 x2
  have hvl := (varF_len 9 (zigI x)).2
  replace hrow : w.drew.heap[h]? = some (.cells #[v] 121 (0, 0)) := hrow
  have hout : VarAt .u8 121 5 w.drew h v l := ⟨hrow, ho.own⟩
  have hB0 : Spared h (room v) w0 w.drew := by rw [hw0]; exact ⟨rfl, rfl, rfl, Nat.le_refl _, fun _ _ _ _ => rfl⟩
  have hsz0 : w0.heap.size = w.heap.size := by rw [hw0]
  have hlt0 : h ≤ w0.heap.size := by omega
  have hsz1 : w0.heap.size ≤ w.drew.heap.size := Nat.le_of_eq hsz0
  go_enter Try.func38, Try.ntmps38
  go_wp2_with fail
  refine' reg_order [eqV _, eqV _, eqV _, eqV _, eqV _, eqV _, eqV _, (fun v' w => Owns .u8 5 w w0.heap.size v' (varF 9 (zigI x))), (fun v' w => Owns .u8 5 w (h + 1) v' (l ++ varF 9 (zigI x)) ∧ NewRoom w0 v v'), eqV _, eqV _, (fun _ w => ∃ v', VarAt .u8 121 5 w h v' (l ++ varF 9 (zigI x)) ∧ NewRoom w0 v v')] [(8, fun w w' => World.grownBy w w' (room v)), (11, fun w w' => World.grownBy w w' (some h))] [(7, fun w => w0.heap.size ≤ w.heap.size), (4, fun w => w.heap[h]? = some (.cells #[v] 121 (0, 0))), (8, fun w => VarAt .u8 121 5 w h v l ∧ w0.heap.size ≤ w.heap.size), (11, fun w => w.heap[h]? = some (.cells #[v] 121 (0, 0))), (12, fun w => Spared h (room v) w0 w)] [5, 6, 7, 8, 9, 10, 11, 12, 13, 14, 15, 28] [[], [], [1], [2], [3], [], [5], [6], [4, 7], [0], [9], [8, 10]] [0, 1, 2, 3, 4, 5, 6, 7, 8, 9, 10, 11] 12 (by kernel_rfl) ⟨eqV_stays _, eqV_stays _, eqV_stays _, eqV_stays _, eqV_stays _, eqV_stays _, eqV_stays _, fun _ _ _ p b => Owns.below p b, fun _ _ _ p b => ⟨Owns.below p.1 b, p.2⟩, eqV_stays _, eqV_stays _, fun _ _ _ ⟨y, p, q⟩ b => ⟨y, p.below b, q⟩, trivial⟩ ⟨⟨.inl (eqV_stays _), .inl (eqV_stays _), .inl (eqV_stays _), .inl (eqV_stays _), .inl (eqV_stays _), .inl (eqV_stays _), .inl (eqV_stays _), .inl (fun _ _ _ p g => Owns.grown p g (fun b hb e => by have h1 := (Owns.at_base p b hb).1; have h2 := hrl b e.symm; omega)), .inr (.inr rfl), .inl (eqV_stays _), .inl (eqV_stays _), .inr (.inl (by kernel_rfl)), trivial⟩, ⟨.inl (eqV_stays _), .inl (eqV_stays _), .inl (eqV_stays _), .inl (eqV_stays _), .inl (eqV_stays _), .inl (eqV_stays _), .inl (eqV_stays _), .inl (fun _ _ _ p g => Owns.grown p g (fun b hb e => by have h1 := (Owns.at_base p b hb).1; injection e with e; omega)), .inl (fun _ _ _ p g => ⟨Owns.grown p.1 g (fun b hb e => room_ne p.1 (by rw [hb, e])), p.2⟩), .inl (eqV_stays _), .inl (eqV_stays _), .inr (.inr rfl), trivial⟩, trivial⟩ ⟨fun _ _ p b => Nat.le_trans p b.size, fun _ _ p b => row_keep p b, fun _ _ p b => ⟨p.1.below b, Nat.le_trans p.2 b.size⟩, fun _ _ p b => row_keep p b, fun _ _ p b => p.kept b, trivial⟩ ⟨⟨.inr (.inl (by kernel_rfl)), .inr (.inl (by kernel_rfl)), .inr (.inr rfl), .inl (fun _ _ p g => grown_row p g hrv), .inl (fun _ _ p g => p.row g), trivial⟩, ⟨.inr (.inl (by kernel_rfl)), .inr (.inl (by kernel_rfl)), .inr (.inl (by kernel_rfl)), .inr (.inr rfl), .inl (fun _ _ p g => p.at g), trivial⟩, trivial⟩ ⟨hsz1, hrow, ⟨hout, hsz1⟩, hrow, hB0, trivial⟩ 17 rfl (by kernel_rfl) (by kernel_rfl) rfl rfl 12 rfl ?q1obl ?q1fin
  case q1obl =>
    refine And.intro ?q1o0 (And.intro ?q1o1 (And.intro ?q1o2 (And.intro ?q1o3 (And.intro ?q1o4 (And.intro ?q1o5 (And.intro ?q1o6 (And.intro ?q1o7 (And.intro ?q1o8 (And.intro ?q1o9 (And.intro ?q1o10 (And.intro ?q1o11 (True.intro))))))))))))
    case q1o0 =>
      intro w1 hI
      refine turn2_on (by rfl) ?_
      intro K hK
      go_simp
      refine hK _ _ ⟨rfl, Kept.refl _, ?_⟩
      show _ = _
      simp only [List.getD_cons_zero, List.getD_cons_succ, Array.getD_eq_getD_getElem?, List.getElem?_toArray, List.getElem?_cons_zero, List.getElem?_cons_succ, Option.getD_some]
      rfl
    case q1o1 =>
      intro w1 hI
      refine turn2_on (by rfl) ?_
      intro K hK
      go_simp
      refine hK _ _ ⟨rfl, Kept.refl _, ?_⟩
      show _ = _
      simp only [List.getD_cons_zero, List.getD_cons_succ, Array.getD_eq_getD_getElem?, List.getElem?_toArray, List.getElem?_cons_zero, List.getElem?_cons_succ, Option.getD_some]
      rfl
    case q1o2 =>
      intro w1 hI
      intro v1 h1
      change _ = _ at h1
      subst v1
      refine turn2_on (by rfl) ?_
      intro K hK
      simp only [List.getD_cons_zero, List.getD_cons_succ, List.setIfInBounds_toArray, List.set_cons_zero, List.set_cons_succ]
      go_simp
      refine hK _ _ ⟨rfl, Kept.refl _, ?_⟩
      show _ = _
      simp only [List.getD_cons_zero, List.getD_cons_succ, Array.getD_eq_getD_getElem?, List.getElem?_toArray, List.getElem?_cons_zero, List.getElem?_cons_succ, Option.getD_some]
      rfl
    case q1o3 =>
      intro w1 hI
      intro v2 h2
      change _ = _ at h2
      subst v2
      refine turn2_on (by rfl) ?_
      intro K hK
      simp only [List.getD_cons_zero, List.getD_cons_succ, List.setIfInBounds_toArray, List.set_cons_zero, List.set_cons_succ]
      go_simp
      refine hK _ _ ⟨rfl, Kept.refl _, ?_⟩
      show _ = _
      simp only [List.getD_cons_zero, List.getD_cons_succ, Array.getD_eq_getD_getElem?, List.getElem?_toArray, List.getElem?_cons_zero, List.getElem?_cons_succ, Option.getD_some]
      rfl
    case q1o4 =>
      intro w1 hI
      replace hI : (fun w => w.heap[h]? = some (.cells #[v] 121 (0, 0))) w1 := hI
      intro v3 h3
      change _ = _ at h3
      subst v3
      refine turn2_on (by rfl) ?_
      intro K hK
      simp only [List.getD_cons_zero, List.getD_cons_succ, List.setIfInBounds_toArray, List.set_cons_zero, List.set_cons_succ]
      obtain ⟨c0, cf⟩ := row_cell hI
      go_simp
      refine hK _ _ ⟨rfl, Kept.refl _, ?_⟩
      show _ = _
      simp only [List.getD_cons_zero, List.getD_cons_succ, Array.getD_eq_getD_getElem?, List.getElem?_toArray, List.getElem?_cons_zero, List.getElem?_cons_succ, Option.getD_some]
      rfl
    case q1o5 =>
      intro w1 hI
      refine turn2_on (by rfl) ?_
      intro K hK
      go_simp
      refine hK _ _ ⟨rfl, Kept.refl _, ?_⟩
      show _ = _
      simp only [List.getD_cons_zero, List.getD_cons_succ, Array.getD_eq_getD_getElem?, List.getElem?_toArray, List.getElem?_cons_zero, List.getElem?_cons_succ, Option.getD_some]
      rfl
    case q1o6 =>
      intro w1 hI
      intro v5 h5
      change _ = _ at h5
      subst v5
      refine turn2_on (by rfl) ?_
      intro K hK
      simp only [List.getD_cons_zero, List.getD_cons_succ, List.setIfInBounds_toArray, List.set_cons_zero, List.set_cons_succ]
      go_simp
      refine Calls.mono (zig_any _ _ x1 x2) ?_
      rintro e w2 ⟨rfl, rfl⟩
      refine hK _ _ ⟨rfl, Kept.refl _, ?_⟩
      show _ = _
      simp only [List.getD_cons_zero, List.getD_cons_succ, Array.getD_eq_getD_getElem?, List.getElem?_toArray, List.getElem?_cons_zero, List.getElem?_cons_succ, Option.getD_some]
      rfl
    case q1o7 =>
      intro w1 hI
      replace hI : (fun w => w0.heap.size ≤ w.heap.size) w1 := hI
      intro v6 h6
      change _ = _ at h6
      subst v6
      refine turn2_on (by rfl) ?_
      intro K hK
      simp only [List.getD_cons_zero, List.getD_cons_succ, List.setIfInBounds_toArray, List.set_cons_zero, List.set_cons_succ]
      go_simp
      refine Calls.mono (var_any _ _ _ [] _ _ (RdAt.nil _ _) (by omega) hz.1 hz.2) ?_
      rintro e w2 ⟨r, rfl, hr, hb⟩
      rw [List.nil_append] at hr
      refine hK _ _ ⟨rfl, hb, ?_⟩
      show Owns _ _ _ _ _ _
      simp only [List.getD_cons_zero, List.getD_cons_succ, Array.getD_eq_getD_getElem?, List.getElem?_toArray, List.getElem?_cons_zero, List.getElem?_cons_succ, Option.getD_some]
      exact hr.mono hI
    case q1o8 =>
      intro w1 hI
      replace hI : (fun w => VarAt .u8 121 5 w h v l ∧ w0.heap.size ≤ w.heap.size) w1 := hI
      intro v4 h4
      change _ = _ at h4
      subst v4
      intro v7 h7
      obtain ⟨a7, c7, rfl⟩ := Owns.shape h7
      replace h7 := Owns.rd h7
      refine turn2_on (by rfl) ?_
      intro K hK
      simp only [List.getD_cons_zero, List.getD_cons_succ, List.setIfInBounds_toArray, List.set_cons_zero, List.set_cons_succ]
      obtain ⟨hI, hwz⟩ := hI
      obtain ⟨av, cv, hav⟩ := hI.own.shape
      refine wp_app_all 13 rfl u8T u8I (by decide) _ _ rfl _ (h + 1) v l rfl hI.own _ _ _ _ rfl h7 (by omega) hI.lt ?_
      intro v2 w2 ho2 hg2
      refine hK _ _ ⟨rfl, hg2.1, ?_⟩
      show Owns _ _ _ _ _ _ ∧ NewRoom _ _ _
      simp only [List.getD_cons_zero, List.getD_cons_succ, Array.getD_eq_getD_getElem?, List.getElem?_toArray, List.getElem?_cons_zero, List.getElem?_cons_succ, Option.getD_some]
      exact ⟨ho2, hg2.2.imp id (fun z g hg => Nat.le_trans hwz (z g hg))⟩
    case q1o9 =>
      intro w1 hI
      intro v0 h0
      change _ = _ at h0
      subst v0
      refine turn2_on (by rfl) ?_
      intro K hK
      simp only [List.getD_cons_zero, List.getD_cons_succ, List.setIfInBounds_toArray, List.set_cons_zero, List.set_cons_succ]
      go_simp
      refine hK _ _ ⟨rfl, Kept.refl _, ?_⟩
      show _ = _
      simp only [List.getD_cons_zero, List.getD_cons_succ, Array.getD_eq_getD_getElem?, List.getElem?_toArray, List.getElem?_cons_zero, List.getElem?_cons_succ, Option.getD_some]
      rfl
    case q1o10 =>
      intro w1 hI
      intro v9 h9
      change _ = _ at h9
      subst v9
      refine turn2_on (by rfl) ?_
      intro K hK
      simp only [List.getD_cons_zero, List.getD_cons_succ, List.setIfInBounds_toArray, List.set_cons_zero, List.set_cons_succ]
      go_simp
      refine hK _ _ ⟨rfl, Kept.refl _, ?_⟩
      show _ = _
      simp only [List.getD_cons_zero, List.getD_cons_succ, Array.getD_eq_getD_getElem?, List.getElem?_toArray, List.getElem?_cons_zero, List.getElem?_cons_succ, Option.getD_some]
      rfl
    case q1o11 =>
      intro w1 hI
      replace hI : (fun w => w.heap[h]? = some (.cells #[v] 121 (0, 0))) w1 := hI
      intro v8 h8
      replace h8 : Owns .u8 5 w1 (h + 1) v8 (l ++ varF 9 (zigI x)) ∧ NewRoom w0 v v8 := h8
      obtain ⟨h8, hnr⟩ := h8
      intro v10 h10
      change _ = _ at h10
      subst v10
      refine turn2_on (by rfl) ?_
      intro K hK
      simp only [List.getD_cons_zero, List.getD_cons_succ, List.setIfInBounds_toArray, List.set_cons_zero, List.set_cons_succ]
      obtain ⟨c0, cf⟩ := row_cell hI
      obtain ⟨q, hq⟩ : ∃ q, (l ++ varF 9 (zigI x)).length = q := ⟨_, rfl⟩
      obtain ⟨av, cv, rfl⟩ := Owns.shapeN h8 q hq
      clear hq
      go_simp
      refine hK _ _ ⟨rfl, store_grown _ _ _, ?_⟩
      exact ⟨_, VarAt.store hI h8, hnr⟩
  intro w1 hI
  replace hI : (fun w => Spared h (room v) w0 w) w1 := hI
  intro v0 h0
  change _ = _ at h0
  subst v0
  intro v1 h1
  change _ = _ at h1
  subst v1
  intro v2 h2
  change _ = _ at h2
  subst v2
  intro v3 h3
  change _ = _ at h3
  subst v3
  intro v4 h4
  change _ = _ at h4
  subst v4
  intro v5 h5
  change _ = _ at h5
  subst v5
  intro v6 h6
  change _ = _ at h6
  subst v6
  intro v7 h7
  obtain ⟨a7, c7, rfl⟩ := Owns.shape h7
  replace h7 := Owns.rd h7
  intro v8 h8
  replace h8 : Owns .u8 5 w1 (h + 1) v8 (l ++ varF 9 (zigI x)) ∧ NewRoom w0 v v8 := h8
  obtain ⟨h8, hnr⟩ := h8
  intro v9 h9
  change _ = _ at h9
  subst v9
  intro v10 h10
  change _ = _ at h10
  subst v10
  intro v11 h11
  simp only [Given, List.getD_cons_zero, List.getD_cons_succ, List.setIfInBounds_toArray, List.set_cons_zero, List.set_cons_succ]
  obtain ⟨v2, ho2, hn2⟩ := h11
  rw [hw0] at hI hn2
  go_wp2
  go_ret
  exact ⟨rfl, ⟨_, ho2, hn2⟩, hI⟩
set_option maxRecDepth 100000 in
theorem newwriter_any (w : World) : Calls Try.prog 35 #[] w fun e w' => e = .returned (.pointer (some ⟨w.heap.size, 0, none⟩)) ∧ VarAt .u8 121 5 w' w.heap.size (.slice none 0 0) [] ∧ Below w.heap.size w w' := by
  go_enter Try.func35, Try.ntmps35
  go_wp2
  go_ret
  exact ⟨rfl, ⟨heap_alloc_new _ _, Owns.nil _ _ _ _⟩, (Below.refl _ _).alloc (Nat.le_refl _) _⟩
set_option maxRecDepth 100000 in
theorem wdone_any (h : Nat) (v : Value) (l : List Int) (w : World) (ho : VarAt .u8 121 5 w h v l) (hl : l.length ≤ 1000000000) :
    Calls Try.prog 39 #[.pointer (some ⟨h, 0, none⟩)] w (GivesBytes l w) := by
  obtain ⟨c0, _⟩ := row_cell ho.row
  obtain ⟨q, hq⟩ : ∃ q, l.length = q := ⟨_, rfl⟩
  obtain ⟨av, cv, rfl⟩ := ho.own.shapeN q hq
  have hr := ho.own.rd
  have HQ := Lib.hid hq
  clear hq ho
  go_enter Try.func39, Try.ntmps39
  go_wp2_with fail
  refine (clone_any _ _ _ _ _ hr (by rw [← HQ.out]; exact hl)).mono ?_
  rintro e w2 ⟨v2, rfl, ho2, hb2⟩
  go_wp2_with fail
  go_ret
  exact ⟨v2, rfl, ho2, hb2⟩
end Go.Proofs.Ytcbnebcooiagmaa
namespace Go.Proofs.Ytcbnebcooiagmaa
open Go.RowKit

def btw (v lo hi : Int) : Bool := decide (lo ≤ v) && decide (v ≤ hi)
theorem btw_true {v lo hi : Int} (h : btw v lo hi = true) : lo ≤ v ∧ v ≤ hi := by
  unfold btw at h
  simpa using h
theorem btw_of {v lo hi : Int} (h1 : lo ≤ v) (h2 : v ≤ hi) : btw v lo hi = true := by
  unfold btw
  simp [h1, h2]
def plainG (a0 a1 a2 a3 a4 a5 a6 a7 a8 : Int) : Bool :=
  btw a0 1 65536 && btw a1 64 4096 && btw a4 16 4096 && btw a2 4 4096 && btw a3 2 4096 && btw a5 4 4096 && btw a6 1 64 && btw a7 1 32 && btw a8 1 65536
def segN (a0 a2 a3 : Int) : Int := if a0 - 2 - a2 < 0 then 0 else (a0 - 2 - a2) / a3
def blobN (a1 b : Int) : Int := ((if b < 0 then 0 else b) + 40 + a1 - 1) / a1
def fitsG (a0 a1 a2 a3 a4 : Int) : Bool := decide (16 ≤ segN a0 a2 a3) && decide (blobN a1 (a4 + 64) ≤ a3)
def chkB (a0 a1 a2 a3 a4 a5 a6 a7 a8 : Int) : Bool := plainG a0 a1 a2 a3 a4 a5 a6 a7 a8 && fitsG a0 a1 a2 a3 a4
def chkN (a0 a1 a2 a3 a4 a5 a6 a7 a8 : Int) : Int := if chkB a0 a1 a2 a3 a4 a5 a6 a7 a8 then 0 else 1

theorem tdiv_pos {a b : Int} (h : 0 ≤ a) : a.tdiv b = a / b := Int.tdiv_eq_ediv_of_nonneg h
theorem tdiv_neg' {a b : Int} (h : a ≤ 0) (hb : 0 ≤ b) : a.tdiv b ≤ 0 := by
  have h1 : 0 ≤ (-a).tdiv b := Int.tdiv_nonneg (by omega) hb
  rw [Int.neg_tdiv] at h1
  omega
/-- The program's own way to reckon how many segments there are. -/
theorem seg_neg {a0 a2 a3 : Int} (h3 : 1 ≤ a3) (h : (a0 - 2 - a2).tdiv a3 < 0) : segN a0 a2 a3 = 0 := by
  unfold segN
  by_cases hx : a0 - 2 - a2 < 0
  · rw [if_pos hx]
  · have := Int.tdiv_nonneg (a := a0 - 2 - a2) (b := a3) (by omega) (by omega)
    omega
theorem seg_pos {a0 a2 a3 : Int} (h3 : 1 ≤ a3) (h : 0 ≤ (a0 - 2 - a2).tdiv a3) : segN a0 a2 a3 = (a0 - 2 - a2).tdiv a3 := by
  unfold segN
  by_cases hx : a0 - 2 - a2 < 0
  · rw [if_pos hx]
    have := tdiv_neg' (a := a0 - 2 - a2) (b := a3) (by omega) (by omega)
    omega
  · rw [if_neg hx, tdiv_pos (by omega)]
theorem retI {x y : Int} (h : y = x) : Ending.returned (.int .i64 x) = Ending.returned (.int .i64 y) := by rw [h]
theorem retB {x y : Bool} (h : y = x) : Ending.returned (.bool x) = Ending.returned (.bool y) := by rw [h]
theorem btw_low {v lo hi : Int} (h : v < lo) : btw v lo hi = false := by
  unfold btw; rw [decide_eq_false (by omega : ¬ lo ≤ v)]; rfl
theorem btw_high {v lo hi : Int} (h : hi < v) : btw v lo hi = false := by
  unfold btw; rw [decide_eq_false (by omega : ¬ v ≤ hi), Bool.and_false]
theorem seg_low {a0 a2 a3 : Int} (h : a0 - 2 - a2 < 0) : segN a0 a2 a3 = 0 := by unfold segN; rw [if_pos h]
theorem seg_high {a0 a2 a3 : Int} (h : 0 ≤ a0 - 2 - a2) : segN a0 a2 a3 = (a0 - 2 - a2) / a3 := by unfold segN; rw [if_neg (by omega)]
theorem seg_high' {a0 a2 a3 : Int} (h : 0 ≤ a0 - 2 - a2) : segN a0 a2 a3 = (a0 - 2 - a2).tdiv a3 := by rw [seg_high h, tdiv_pos h]
theorem blob_low {s b : Int} (h : b < 0) : blobN s b = (40 + s - 1) / s := by unfold blobN; rw [if_pos h, Int.zero_add]
theorem blob_high {s b : Int} (h : 0 ≤ b) : blobN s b = (b + 40 + s - 1) / s := by unfold blobN; rw [if_neg (by omega)]
theorem segN_nonneg (a0 a2 a3 : Int) (h3 : 1 ≤ a3) : 0 ≤ segN a0 a2 a3 := by
  unfold segN; split
  · omega
  · exact Int.ediv_nonneg (by omega) (by omega)
theorem segN_le (a0 a2 a3 : Int) (h : 0 ≤ a0) (h2 : 0 ≤ a2) : segN a0 a2 a3 ≤ a0 := by
  unfold segN; split
  · omega
  · have := Int.ediv_le_self (a := a0 - 2 - a2) a3 (by omega)
    omega
/-- The program's own way to reckon a blob. -/
theorem blob_go (s b : Int) (hs : 1 ≤ s) : b / s + (b % s + 40 + s - 1) / s = (b + 40 + s - 1) / s := by
  have h := Int.emod_add_mul_ediv b s
  have e : b + 40 + s - 1 = (b % s + 40 + s - 1) + s * (b / s) := by omega
  rw [e, Int.add_mul_ediv_left _ _ (by omega)]
  omega
theorem blobN_bounds (s b : Int) (hs : 1 ≤ s) : 1 ≤ blobN s b ∧ blobN s b ≤ (if b < 0 then 0 else b) + 40 := by
  unfold blobN
  generalize hc : (if b < 0 then 0 else b) = c
  have hc0 : 0 ≤ c := by subst hc; split <;> omega
  constructor
  · exact (Int.le_ediv_iff_mul_le (by omega)).2 (by omega)
  · refine Int.lt_add_one_iff.1 ((Int.ediv_lt_iff_lt_mul (by omega)).2 ?_)
    have : 0 ≤ (c + 40) * (s - 1) := Int.mul_nonneg (by omega) (by omega)
    have e : (c + 40 + 1) * s = (c + 40) * (s - 1) + (c + 40) + s := by
      rw [Int.mul_sub, Int.add_mul, Int.add_mul]; omega
    omega
section
variable {a0 a1 a2 a3 a4 a5 a6 a7 a8 : Int}
theorem chk_tall (h : a3 < blobN a1 (a4 + 64)) : chkN a0 a1 a2 a3 a4 a5 a6 a7 a8 = 1 := by
  unfold chkN chkB fitsG
  rw [decide_eq_false (by omega : ¬ blobN a1 (a4 + 64) ≤ a3), Bool.and_false, Bool.and_false]
  rfl
theorem chk_few (h : segN a0 a2 a3 < 16) : chkN a0 a1 a2 a3 a4 a5 a6 a7 a8 = 1 := by
  unfold chkN chkB fitsG
  rw [decide_eq_false (by omega : ¬ 16 ≤ segN a0 a2 a3), Bool.false_and, Bool.and_false]
  rfl
theorem chk_odd (h : plainG a0 a1 a2 a3 a4 a5 a6 a7 a8 = false) : chkN a0 a1 a2 a3 a4 a5 a6 a7 a8 = 1 := by
  unfold chkN chkB
  rw [h, Bool.false_and]
  rfl
theorem plain_all (h0 : btw a0 1 65536 = true) (h1 : btw a1 64 4096 = true) (h4 : btw a4 16 4096 = true) (h2 : btw a2 4 4096 = true) (h3 : btw a3 2 4096 = true) (h5 : btw a5 4 4096 = true) (h6 : btw a6 1 64 = true) (h7 : btw a7 1 32 = true) (h8 : btw a8 1 65536 = true) : plainG a0 a1 a2 a3 a4 a5 a6 a7 a8 = true := by
  unfold plainG
  rw [h0, h1, h2, h3, h4, h5, h6, h7, h8]
  rfl
theorem of_plain (h : plainG a0 a1 a2 a3 a4 a5 a6 a7 a8 = true) : btw a0 1 65536 = true ∧ btw a1 64 4096 = true ∧ btw a4 16 4096 = true ∧ btw a2 4 4096 = true ∧ btw a3 2 4096 = true ∧ btw a5 4 4096 = true ∧ btw a6 1 64 = true ∧ btw a7 1 32 = true ∧ btw a8 1 65536 = true := by
  unfold plainG at h
  simp only [Bool.and_eq_true] at h
  obtain ⟨⟨⟨⟨⟨⟨⟨⟨x0, x1⟩, x2⟩, x3⟩, x4⟩, x5⟩, x6⟩, x7⟩, x8⟩ := h
  exact ⟨x0, x1, x2, x3, x4, x5, x6, x7, x8⟩
theorem chk_ok (h0 : btw a0 1 65536 = true) (h1 : btw a1 64 4096 = true) (h4 : btw a4 16 4096 = true) (h2 : btw a2 4 4096 = true) (h3 : btw a3 2 4096 = true) (h5 : btw a5 4 4096 = true) (h6 : btw a6 1 64 = true) (h7 : btw a7 1 32 = true) (h8 : btw a8 1 65536 = true) (hs : 16 ≤ segN a0 a2 a3) (h : blobN a1 (a4 + 64) ≤ a3) : chkN a0 a1 a2 a3 a4 a5 a6 a7 a8 = 0 := by
  unfold chkN chkB fitsG
  rw [plain_all h0 h1 h4 h2 h3 h5 h6 h7 h8, decide_eq_true hs, decide_eq_true h]
  rfl
end
theorem wrap_id {x : Int} (h1 : -9223372036854775808 ≤ x) (h2 : x ≤ 9223372036854775807) : wrap64 x = x := by unfold wrap64; omega
theorem blob_low_go {s b : Int} (hs : 1 ≤ s) (h : b < 0) : blobN s b = wrap64 ((40 + s - 1) / s) := by
  have hb := blobN_bounds s b hs
  rw [← blob_low h, wrap_id (by omega)]
  rw [if_pos h] at hb
  omega
theorem blob_high_go {s b : Int} (hs : 1 ≤ s) (hs2 : s ≤ 4096) (h : 0 ≤ b) (hm : b ≤ 1099511627776) : blobN s b = wrap64 (b / s + wrap64 ((wrap64 (wrap64 (wrap64 (b % s + 40) + s) - 1)).tdiv s)) := by
  have hm1 := Int.emod_nonneg b (b := s) (by omega)
  have hm2 := Int.emod_lt_of_pos b (b := s) (by omega)
  have hq1 : 0 ≤ b / s := Int.ediv_nonneg h (by omega)
  have hq2 : 0 ≤ (b % s + 40 + s - 1) / s := Int.ediv_nonneg (by omega) (by omega)
  have hb := blobN_bounds s b hs
  have hg := blob_go s b hs
  rw [← blob_high h] at hg
  rw [if_neg (by omega)] at hb
  rw [wrap_id (x := b % s + 40) (by omega) (by omega), wrap_id (x := b % s + 40 + s) (by omega) (by omega), wrap_id (x := b % s + 40 + s - 1) (by omega) (by omega), tdiv_pos (by omega), wrap_id (x := (b % s + 40 + s - 1) / s) (by omega) (by omega), hg, wrap_id (by omega) (by omega)]
theorem cells9 {w : World} {b T : Nat} {x0 x1 x2 x3 x4 x5 x6 x7 x8 : Value} (h : w.heap[b]? = some (.cells #[x0, x1, x2, x3, x4, x5, x6, x7, x8] T)) : w.cell? ⟨b, 0, none⟩ = some x0 ∧ w.cell? ⟨b, 1, none⟩ = some x1 ∧ w.cell? ⟨b, 2, none⟩ = some x2 ∧ w.cell? ⟨b, 3, none⟩ = some x3 ∧ w.cell? ⟨b, 4, none⟩ = some x4 ∧ w.cell? ⟨b, 5, none⟩ = some x5 ∧ w.cell? ⟨b, 6, none⟩ = some x6 ∧ w.cell? ⟨b, 7, none⟩ = some x7 ∧ w.cell? ⟨b, 8, none⟩ = some x8 := by
  refine ⟨?_, ?_, ?_, ?_, ?_, ?_, ?_, ?_, ?_⟩ <;> simp [World.cell?, h]
theorem of_chk {a0 a1 a2 a3 a4 a5 a6 a7 a8 : Int} (h : chkB a0 a1 a2 a3 a4 a5 a6 a7 a8 = true) : (1 ≤ a0 ∧ a0 ≤ 65536) ∧ (64 ≤ a1 ∧ a1 ≤ 4096) ∧ (4 ≤ a2 ∧ a2 ≤ 4096) ∧ (2 ≤ a3 ∧ a3 ≤ 4096) ∧ (16 ≤ a4 ∧ a4 ≤ 4096) ∧ 16 ≤ segN a0 a2 a3 ∧ blobN a1 (a4 + 64) ≤ a3 ∧ chkN a0 a1 a2 a3 a4 a5 a6 a7 a8 = 0 := by
  have hc : chkN a0 a1 a2 a3 a4 a5 a6 a7 a8 = 0 := by unfold chkN; rw [h]; rfl
  unfold chkB at h
  rw [Bool.and_eq_true] at h
  obtain ⟨h0, h1, h4, h2, h3, _⟩ := of_plain h.1
  have hf := h.2
  unfold fitsG at hf
  rw [Bool.and_eq_true] at hf
  exact ⟨btw_true h0, btw_true h1, btw_true h2, btw_true h3, btw_true h4, of_decide_eq_true hf.1, of_decide_eq_true hf.2, hc⟩
end Go.Proofs.Ytcbnebcooiagmaa
namespace Go.Proofs.Ytcbnebcooiagmaa
open Go.RowKit

set_option maxRecDepth 100000 in
theorem between_any (v lo hi : Int) (w : World) : Calls Try.prog 71 #[.int .i64 v, .int .i64 lo, .int .i64 hi] w fun e w' => e = .returned (.bool (btw v lo hi)) ∧ w = w' := by
  by_cases h1 : lo ≤ v
  · by_cases h2 : v ≤ hi
    · go_enter Try.func71, Try.ntmps71
      go_wp2
      go_ret
      exact ⟨retB (btw_of h1 h2), rfl⟩
    · go_enter Try.func71, Try.ntmps71
      go_wp2
      go_ret
      exact ⟨retB (btw_high (by omega)), rfl⟩
  · go_enter Try.func71, Try.ntmps71
    go_wp2
    go_ret
    exact ⟨retB (btw_low (by omega)), rfl⟩
set_option maxRecDepth 100000 in
theorem segments_any (a0 a1 a2 a3 a4 a5 a6 a7 a8 : Int) (w : World) (b0 : 1 ≤ a0 ∧ a0 ≤ 65536) (b2 : 4 ≤ a2 ∧ a2 ≤ 4096) (b3 : 2 ≤ a3 ∧ a3 ≤ 4096) :
    Calls Try.prog 72 #[.agg #[.int .i64 a0, .int .i64 a1, .int .i64 a2, .int .i64 a3, .int .i64 a4, .int .i64 a5, .int .i64 a6, .int .i64 a7, .int .i64 a8]] w fun e w' => e = .returned (.int .i64 (segN a0 a2 a3)) ∧ Below w.heap.size w w' := by
  go_enter Try.func72, Try.ntmps72
  go_wp2
  · go_ret
    exact ⟨retI (seg_neg (by omega) (by assumption)), (Below.refl _ _).alloc (Nat.le_refl _) _⟩
  · go_ret
    exact ⟨retI (seg_pos (by omega) (by assumption)), (Below.refl _ _).alloc (Nat.le_refl _) _⟩
set_option maxRecDepth 100000 in
theorem in_any (v lo hi : Int) (w : World) : Calls Try.prog 98 #[.int .i64 v, .int .i64 lo, .int .i64 hi] w fun e w' => e = .returned (.bool (btw v lo hi)) ∧ w = w' := by
  by_cases h1 : lo ≤ v
  · by_cases h2 : v ≤ hi
    · go_enter Try.func98, Try.ntmps98
      go_wp2
      go_ret
      exact ⟨retB (btw_of h1 h2), rfl⟩
    · go_enter Try.func98, Try.ntmps98
      go_wp2
      go_ret
      exact ⟨retB (btw_high (by omega)), rfl⟩
  · go_enter Try.func98, Try.ntmps98
    go_wp2
    go_ret
    exact ⟨retB (btw_low (by omega)), rfl⟩
set_option maxRecDepth 100000 in
theorem refsegs_any (a0 a1 a2 a3 a4 a5 a6 a7 a8 : Int) (w : World) (b0 : 1 ≤ a0 ∧ a0 ≤ 65536) (b2 : 4 ≤ a2 ∧ a2 ≤ 4096) (b3 : 2 ≤ a3 ∧ a3 ≤ 4096) :
    Calls Try.prog 78 #[.agg #[.int .i64 a0, .int .i64 a1, .int .i64 a2, .int .i64 a3, .int .i64 a4, .int .i64 a5, .int .i64 a6, .int .i64 a7, .int .i64 a8]] w fun e w' => e = .returned (.int .i64 (segN a0 a2 a3)) ∧ Below w.heap.size w w' := by
  have h0 : ¬ a3 = 0 := by omega
  by_cases hx : a0 - 2 - a2 < 0
  · go_enter Try.func78, Try.ntmps78
    go_wp2
    go_ret
    exact ⟨retI (seg_low (by omega)), (Below.refl _ _).alloc (Nat.le_refl _) _⟩
  · go_enter Try.func78, Try.ntmps78
    go_wp2
    go_ret
    exact ⟨retI (seg_high (by omega)), (Below.refl _ _).alloc (Nat.le_refl _) _⟩
set_option maxRecDepth 100000 in
theorem up_any (a b : Int) (w : World) (ha : 0 ≤ a ∧ a ≤ 2199023255552) (hb : 1 ≤ b ∧ b ≤ 4096) :
    Calls Try.prog 99 #[.int .i64 a, .int .i64 b] w fun e w' => e = .returned (.int .i64 ((a + b - 1) / b)) ∧ w = w' := by
  have h0 : ¬ b = 0 := by omega
  go_enter Try.func99, Try.ntmps99
  go_wp2
  go_ret
  exact ⟨rfl, rfl⟩
set_option maxRecDepth 100000 in
theorem refblob_any (a0 a1 a2 a3 a4 a5 a6 a7 a8 b : Int) (w : World) (b1 : 1 ≤ a1 ∧ a1 ≤ 4096) (hb : b ≤ 1099511627776) :
    Calls Try.prog 79 #[.agg #[.int .i64 a0, .int .i64 a1, .int .i64 a2, .int .i64 a3, .int .i64 a4, .int .i64 a5, .int .i64 a6, .int .i64 a7, .int .i64 a8], .int .i64 b] w fun e w' => e = .returned (.int .i64 (blobN a1 b)) ∧ Below w.heap.size w w' := by
  by_cases hx : b < 0
  · go_enter Try.func79, Try.ntmps79
    go_wp2_with (go_at_call 99; refine (up_any _ _ _ (by omega) (by omega)).mono ?_; rintro e w1 ⟨rfl, rfl⟩)
    go_ret
    exact ⟨retI (blob_low (by omega)), (Below.refl _ _).alloc (Nat.le_refl _) _⟩
  · go_enter Try.func79, Try.ntmps79
    go_wp2_with (go_at_call 99; refine (up_any _ _ _ (by omega) (by omega)).mono ?_; rintro e w1 ⟨rfl, rfl⟩)
    go_ret
    exact ⟨retI (blob_high (by omega)), (Below.refl _ _).alloc (Nat.le_refl _) _⟩
set_option maxRecDepth 100000 in
theorem blob_any (a0 a1 a2 a3 a4 a5 a6 a7 a8 b : Int) (w : World) (b1 : 1 ≤ a1 ∧ a1 ≤ 4096) (hb : b ≤ 1099511627776) :
    Calls Try.prog 73 #[.agg #[.int .i64 a0, .int .i64 a1, .int .i64 a2, .int .i64 a3, .int .i64 a4, .int .i64 a5, .int .i64 a6, .int .i64 a7, .int .i64 a8], .int .i64 b] w fun e w' => e = .returned (.int .i64 (blobN a1 b)) ∧ Below w.heap.size w w' := by
  go_enter Try.func73, Try.ntmps73
  go_wp2_with fail
  all_goals go_region
  all_goals go_wp2
  · go_ret
    exact ⟨retI (blob_low_go (by omega) (by omega)), ((Below.refl _ _).alloc (Nat.le_refl _) _).drew⟩
  · go_ret
    exact ⟨retI (blob_high_go (by omega) (by omega) (by omega) (by omega)), ((Below.refl _ _).alloc (Nat.le_refl _) _).drew⟩
end Go.Proofs.Ytcbnebcooiagmaa
