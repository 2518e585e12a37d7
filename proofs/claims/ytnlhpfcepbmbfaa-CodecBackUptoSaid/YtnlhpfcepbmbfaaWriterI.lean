/- The contracts of codec's Writer: NewWriter, Int, Done. -/
import Derived.Test.YtnlhpfcepbmbfaaVarAt
import Derived.Test.YtnlhpfcepbmbfaaZig
import Derived.Test.YtnlhpfcepbmbfaaVar
import Derived.Test.YtnlhpfcepbmbfaaRegion
import Derived.Test.YtnlhpfcepbmbfaaU8
import Derived.Test.YtnlhpfcepbmbfaaClone
namespace Go.Proofs.Ytnlhpfcepbmbfaa
open Go.RowKit
set_option linter.unusedSimpArgs false in
set_option linter.unusedVariables false in
set_option maxRecDepth 100000 in
set_option maxHeartbeats 1000000 in
theorem wint_any (h : Nat) (v : Value) (l : List Int) (x : Int) (w : World) (ho : VarAt .u8 92 5 w h v l) (hl : l.length ≤ 1000000) (x1 : -9223372036854775808 ≤ x) (x2 : x ≤ 9223372036854775807) :
    Calls Try.prog 30 #[.pointer (some ⟨h, 0, none⟩), .int .i64 x] w fun e w' => e = .returned (.pointer (some ⟨h, 0, none⟩)) ∧ (∃ v', VarAt .u8 92 5 w' h v' (l ++ varF 9 (zigI x)) ∧ NewRoom w v v') ∧ Spared h (room v) w w' := by
  have hrow := ho.row
  have hlt : h < w.heap.size := ho.lt
  have hrv : room v ≠ some h := room_ne ho.own
  have hrg : ∀ q, room v = some q → h ≤ q := fun q hq => by have := (ho.own.at_base q hq).1; omega
  have hrl : ∀ q, room v = some q → q < w.heap.size := fun q hq => (ho.own.at_base q hq).2
  obtain ⟨w0, hw0⟩ : ∃ w0 : World, w0 = w := ⟨_, rfl⟩
  have hz := zigI_bd x x1 x2
  have hvl := (varF_len 9 (zigI x)).2
  replace hrow : w.drew.heap[h]? = some (.cells #[v] 92 (0, 0)) := hrow
  have hout : VarAt .u8 92 5 w.drew h v l := ⟨hrow, ho.own⟩
  have hB0 : Spared h (room v) w0 w.drew := by rw [hw0]; exact ⟨rfl, rfl, rfl, Nat.le_refl _, fun _ _ _ _ => rfl⟩
  have hsz0 : w0.heap.size = w.heap.size := by rw [hw0]
  have hlt0 : h ≤ w0.heap.size := by omega
  have hsz1 : w0.heap.size ≤ w.drew.heap.size := Nat.le_of_eq hsz0
  go_enter Try.func30, Try.ntmps30
  go_wp2_with fail
  refine' reg_order [eqV _, eqV _, eqV _, eqV _, eqV _, eqV _, eqV _, (fun v' w => Owns .u8 5 w w0.heap.size v' (varF 9 (zigI x))), (fun v' w => Owns .u8 5 w (h + 1) v' (l ++ varF 9 (zigI x)) ∧ NewRoom w0 v v'), eqV _, eqV _, (fun _ w => ∃ v', VarAt .u8 92 5 w h v' (l ++ varF 9 (zigI x)) ∧ NewRoom w0 v v')] [(8, fun w w' => World.grownBy w w' (room v)), (11, fun w w' => World.grownBy w w' (some h))] [(7, fun w => w0.heap.size ≤ w.heap.size), (4, fun w => w.heap[h]? = some (.cells #[v] 92 (0, 0))), (8, fun w => VarAt .u8 92 5 w h v l ∧ w0.heap.size ≤ w.heap.size), (11, fun w => w.heap[h]? = some (.cells #[v] 92 (0, 0))), (12, fun w => Spared h (room v) w0 w)] [5, 6, 7, 8, 9, 10, 11, 12, 13, 14, 15, 28] [[], [], [1], [2], [3], [], [5], [6], [4, 7], [0], [9], [8, 10]] [0, 1, 2, 3, 4, 5, 6, 7, 8, 9, 10, 11] 12 (by kernel_rfl) ⟨eqV_stays _, eqV_stays _, eqV_stays _, eqV_stays _, eqV_stays _, eqV_stays _, eqV_stays _, fun _ _ _ p b => Owns.below p b, fun _ _ _ p b => ⟨Owns.below p.1 b, p.2⟩, eqV_stays _, eqV_stays _, fun _ _ _ ⟨y, p, q⟩ b => ⟨y, p.below b, q⟩, trivial⟩ ⟨⟨.inl (eqV_stays _), .inl (eqV_stays _), .inl (eqV_stays _), .inl (eqV_stays _), .inl (eqV_stays _), .inl (eqV_stays _), .inl (eqV_stays _), .inl (fun _ _ _ p g => Owns.grown p g (fun b hb e => by have h1 := (Owns.at_base p b hb).1; have h2 := hrl b e.symm; omega)), .inr (.inr rfl), .inl (eqV_stays _), .inl (eqV_stays _), .inr (.inl (by kernel_rfl)), trivial⟩, ⟨.inl (eqV_stays _), .inl (eqV_stays _), .inl (eqV_stays _), .inl (eqV_stays _), .inl (eqV_stays _), .inl (eqV_stays _), .inl (eqV_stays _), .inl (fun _ _ _ p g => Owns.grown p g (fun b hb e => by have h1 := (Owns.at_base p b hb).1; injection e with e; omega)), .inl (fun _ _ _ p g => ⟨Owns.grown p.1 g (fun b hb e => room_ne p.1 (by rw [hb, e])), p.2⟩), .inl (eqV_stays _), .inl (eqV_stays _), .inr (.inr rfl), trivial⟩, trivial⟩ ⟨fun _ _ p b => Nat.le_trans p b.size, fun _ _ p b => row_keep p b, fun _ _ p b => ⟨p.1.below b, Nat.le_trans p.2 b.size⟩, fun _ _ p b => row_keep p b, fun _ _ p b => p.kept b, trivial⟩ ⟨⟨.inr (.inl (by kernel_rfl)), .inr (.inl (by kernel_rfl)), .inr (.inr rfl), .inl (fun _ _ p g => grown_row p g hrv), .inl (fun _ _ p g => p.row g), trivial⟩, ⟨.inr (.inl (by kernel_rfl)), .inr (.inl (by kernel_rfl)), .inr (.inl (by kernel_rfl)), .inr (.inr rfl), .inl (fun _ _ p g => p.at g), trivial⟩, trivial⟩ ⟨hsz1, hrow, ⟨hout, hsz1⟩, hrow, hB0, trivial⟩ 17 rfl (by kernel_rfl) (by kernel_rfl) rfl rfl 12 rfl ?q1obl ?q1fin
  case q1obl =>
    refine And.intro ?q1o0 (And.intro ?q1o1 (And.intro ?q1o2 (And.intro ?q1o3 (And.intro ?q1o4 (And.intro ?q1o5 (And.intro ?q1o6 (And.intro ?q1o7 (And.intro ?q1o8 (And.intro ?q1o9 (And.intro ?q1o10 (And.intro ?q1o11 (True.intro))))))))))))
    case q1o0 =>
      intro w1 hI
      refine turn2_on (by rfl) ?_
      intro K hK
      go_simp
      refine hK _ _ ⟨rfl, Kept.refl _, ?_⟩
      show _ = _
      simp only [List.getD_cons_zero, List.getD_cons_succ, Array.getD_eq_getD_getElem?, List.getElem?_toArray, List.getElem?_cons_zero, List.getElem?_cons_succ, Option.getD_some]
      rfl
    case q1o1 =>
      intro w1 hI
      refine turn2_on (by rfl) ?_
      intro K hK
      go_simp
      refine hK _ _ ⟨rfl, Kept.refl _, ?_⟩
      show _ = _
      simp only [List.getD_cons_zero, List.getD_cons_succ, Array.getD_eq_getD_getElem?, List.getElem?_toArray, List.getElem?_cons_zero, List.getElem?_cons_succ, Option.getD_some]
      rfl
    case q1o2 =>
      intro w1 hI
      intro v1 h1
      change _ = _ at h1
      subst v1
      refine turn2_on (by rfl) ?_
      intro K hK
      simp only [List.getD_cons_zero, List.getD_cons_succ, List.setIfInBounds_toArray, List.set_cons_zero, List.set_cons_succ]
      go_simp
      refine hK _ _ ⟨rfl, Kept.refl _, ?_⟩
      show _ = _
      simp only [List.getD_cons_zero, List.getD_cons_succ, Array.getD_eq_getD_getElem?, List.getElem?_toArray, List.getElem?_cons_zero, List.getElem?_cons_succ, Option.getD_some]
      rfl
    case q1o3 =>
      intro w1 hI
      intro v2 h2
      change _ = _ at h2
      subst v2
      refine turn2_on (by rfl) ?_
      intro K hK
      simp only [List.getD_cons_zero, List.getD_cons_succ, List.setIfInBounds_toArray, List.set_cons_zero, List.set_cons_succ]
      go_simp
      refine hK _ _ ⟨rfl, Kept.refl _, ?_⟩
      show _ = _
      simp only [List.getD_cons_zero, List.getD_cons_succ, Array.getD_eq_getD_getElem?, List.getElem?_toArray, List.getElem?_cons_zero, List.getElem?_cons_succ, Option.getD_some]
      rfl
    case q1o4 =>
      intro w1 hI
      replace hI : (fun w => w.heap[h]? = some (.cells #[v] 92 (0, 0))) w1 := hI
      intro v3 h3
      change _ = _ at h3
      subst v3
      refine turn2_on (by rfl) ?_
      intro K hK
      simp only [List.getD_cons_zero, List.getD_cons_succ, List.setIfInBounds_toArray, List.set_cons_zero, List.set_cons_succ]
      obtain ⟨c0, cf⟩ := row_cell hI
      go_simp
      refine hK _ _ ⟨rfl, Kept.refl _, ?_⟩
      show _ = _
      simp only [List.getD_cons_zero, List.getD_cons_succ, Array.getD_eq_getD_getElem?, List.getElem?_toArray, List.getElem?_cons_zero, List.getElem?_cons_succ, Option.getD_some]
      rfl
    case q1o5 =>
      intro w1 hI
      refine turn2_on (by rfl) ?_
      intro K hK
      go_simp
      refine hK _ _ ⟨rfl, Kept.refl _, ?_⟩
      show _ = _
      simp only [List.getD_cons_zero, List.getD_cons_succ, Array.getD_eq_getD_getElem?, List.getElem?_toArray, List.getElem?_cons_zero, List.getElem?_cons_succ, Option.getD_some]
      rfl
    case q1o6 =>
      intro w1 hI
      intro v5 h5
      change _ = _ at h5
      subst v5
      refine turn2_on (by rfl) ?_
      intro K hK
      simp only [List.getD_cons_zero, List.getD_cons_succ, List.setIfInBounds_toArray, List.set_cons_zero, List.set_cons_succ]
      go_simp
      refine Calls.mono (zig_any _ _ x1 x2) ?_
      rintro e w2 ⟨rfl, rfl⟩
      refine hK _ _ ⟨rfl, Kept.refl _, ?_⟩
      show _ = _
      simp only [List.getD_cons_zero, List.getD_cons_succ, Array.getD_eq_getD_getElem?, List.getElem?_toArray, List.getElem?_cons_zero, List.getElem?_cons_succ, Option.getD_some]
      rfl
    case q1o7 =>
      intro w1 hI
      replace hI : (fun w => w0.heap.size ≤ w.heap.size) w1 := hI
      intro v6 h6
      change _ = _ at h6
      subst v6
      refine turn2_on (by rfl) ?_
      intro K hK
      simp only [List.getD_cons_zero, List.getD_cons_succ, List.setIfInBounds_toArray, List.set_cons_zero, List.set_cons_succ]
      go_simp
      refine Calls.mono (var_any _ _ _ [] _ _ (RdAt.nil _ _) (by omega) hz.1 hz.2) ?_
      rintro e w2 ⟨r, rfl, hr, hb⟩
      rw [List.nil_append] at hr
      refine hK _ _ ⟨rfl, hb, ?_⟩
      show Owns _ _ _ _ _ _
      simp only [List.getD_cons_zero, List.getD_cons_succ, Array.getD_eq_getD_getElem?, List.getElem?_toArray, List.getElem?_cons_zero, List.getElem?_cons_succ, Option.getD_some]
      exact hr.mono hI
    case q1o8 =>
      intro w1 hI
      replace hI : (fun w => VarAt .u8 92 5 w h v l ∧ w0.heap.size ≤ w.heap.size) w1 := hI
      intro v4 h4
      change _ = _ at h4
      subst v4
      intro v7 h7
      obtain ⟨a7, c7, rfl⟩ := Owns.shape h7
      replace h7 := Owns.rd h7
      refine turn2_on (by rfl) ?_
      intro K hK
      simp only [List.getD_cons_zero, List.getD_cons_succ, List.setIfInBounds_toArray, List.set_cons_zero, List.set_cons_succ]
      obtain ⟨hI, hwz⟩ := hI
      obtain ⟨av, cv, hav⟩ := hI.own.shape
      refine wp_app_all 13 rfl u8T u8I (by decide) _ _ rfl _ (h + 1) v l rfl hI.own _ _ _ _ rfl h7 (by omega) hI.lt ?_
      intro v2 w2 ho2 hg2
      refine hK _ _ ⟨rfl, hg2.1, ?_⟩
      show Owns _ _ _ _ _ _ ∧ NewRoom _ _ _
      simp only [List.getD_cons_zero, List.getD_cons_succ, Array.getD_eq_getD_getElem?, List.getElem?_toArray, List.getElem?_cons_zero, List.getElem?_cons_succ, Option.getD_some]
      exact ⟨ho2, hg2.2.imp id (fun z g hg => Nat.le_trans hwz (z g hg))⟩
    case q1o9 =>
      intro w1 hI
      intro v0 h0
      change _ = _ at h0
      subst v0
      refine turn2_on (by rfl) ?_
      intro K hK
      simp only [List.getD_cons_zero, List.getD_cons_succ, List.setIfInBounds_toArray, List.set_cons_zero, List.set_cons_succ]
      go_simp
      refine hK _ _ ⟨rfl, Kept.refl _, ?_⟩
      show _ = _
      simp only [List.getD_cons_zero, List.getD_cons_succ, Array.getD_eq_getD_getElem?, List.getElem?_toArray, List.getElem?_cons_zero, List.getElem?_cons_succ, Option.getD_some]
      rfl
    case q1o10 =>
      intro w1 hI
      intro v9 h9
      change _ = _ at h9
      subst v9
      refine turn2_on (by rfl) ?_
      intro K hK
      simp only [List.getD_cons_zero, List.getD_cons_succ, List.setIfInBounds_toArray, List.set_cons_zero, List.set_cons_succ]
      go_simp
      refine hK _ _ ⟨rfl, Kept.refl _, ?_⟩
      show _ = _
      simp only [List.getD_cons_zero, List.getD_cons_succ, Array.getD_eq_getD_getElem?, List.getElem?_toArray, List.getElem?_cons_zero, List.getElem?_cons_succ, Option.getD_some]
      rfl
    case q1o11 =>
      intro w1 hI
      replace hI : (fun w => w.heap[h]? = some (.cells #[v] 92 (0, 0))) w1 := hI
      intro v8 h8
      replace h8 : Owns .u8 5 w1 (h + 1) v8 (l ++ varF 9 (zigI x)) ∧ NewRoom w0 v v8 := h8
      obtain ⟨h8, hnr⟩ := h8
      intro v10 h10
      change _ = _ at h10
      subst v10
      refine turn2_on (by rfl) ?_
      intro K hK
      simp only [List.getD_cons_zero, List.getD_cons_succ, List.setIfInBounds_toArray, List.set_cons_zero, List.set_cons_succ]
      obtain ⟨c0, cf⟩ := row_cell hI
      obtain ⟨q, hq⟩ : ∃ q, (l ++ varF 9 (zigI x)).length = q := ⟨_, rfl⟩
      obtain ⟨av, cv, rfl⟩ := Owns.shapeN h8 q hq
      clear hq
      go_simp
      refine hK _ _ ⟨rfl, store_grown _ _ _, ?_⟩
      exact ⟨_, VarAt.store hI h8, hnr⟩
  intro w1 hI
  replace hI : (fun w => Spared h (room v) w0 w) w1 := hI
  intro v0 h0
  change _ = _ at h0
  subst v0
  intro v1 h1
  change _ = _ at h1
  subst v1
  intro v2 h2
  change _ = _ at h2
  subst v2
  intro v3 h3
  change _ = _ at h3
  subst v3
  intro v4 h4
  change _ = _ at h4
  subst v4
  intro v5 h5
  change _ = _ at h5
  subst v5
  intro v6 h6
  change _ = _ at h6
  subst v6
  intro v7 h7
  obtain ⟨a7, c7, rfl⟩ := Owns.shape h7
  replace h7 := Owns.rd h7
  intro v8 h8
  replace h8 : Owns .u8 5 w1 (h + 1) v8 (l ++ varF 9 (zigI x)) ∧ NewRoom w0 v v8 := h8
  obtain ⟨h8, hnr⟩ := h8
  intro v9 h9
  change _ = _ at h9
  subst v9
  intro v10 h10
  change _ = _ at h10
  subst v10
  intro v11 h11
  simp only [Given, List.getD_cons_zero, List.getD_cons_succ, List.setIfInBounds_toArray, List.set_cons_zero, List.set_cons_succ]
  obtain ⟨v2, ho2, hn2⟩ := h11
  rw [hw0] at hI hn2
  go_wp2
  go_ret
  exact ⟨rfl, ⟨_, ho2, hn2⟩, hI⟩
theorem newwriter_any (w : World) : Calls Try.prog 29 #[] w fun e w' => e = .returned (.pointer (some ⟨w.heap.size, 0, none⟩)) ∧ VarAt .u8 92 5 w' w.heap.size (.slice none 0 0) [] ∧ Below w.heap.size w w' := by
  go_enter Try.func29, Try.ntmps29
  go_wp2
  go_ret
  exact ⟨rfl, ⟨heap_alloc_new _ _, Owns.nil _ _ _ _⟩, (Below.refl _ _).alloc (Nat.le_refl _) _⟩
theorem wdone_any (h : Nat) (v : Value) (l : List Int) (w : World) (ho : VarAt .u8 92 5 w h v l) (hl : l.length ≤ 1000000000) :
    Calls Try.prog 32 #[.pointer (some ⟨h, 0, none⟩)] w (GivesBytes l w) := by
  obtain ⟨c0, _⟩ := row_cell ho.row
  obtain ⟨q, hq⟩ : ∃ q, l.length = q := ⟨_, rfl⟩
  obtain ⟨av, cv, rfl⟩ := ho.own.shapeN q hq
  have hr := ho.own.rd
  have HQ := Lib.hid hq
  clear hq ho
  go_enter Try.func32, Try.ntmps32
  go_wp2_with fail
  refine (clone_any _ _ _ _ _ hr (by rw [← HQ.out]; exact hl)).mono ?_
  rintro e w2 ⟨v2, rfl, ho2, hb2⟩
  go_wp2_with fail
  go_ret
  exact ⟨v2, rfl, ho2, hb2⟩
end Go.Proofs.Ytnlhpfcepbmbfaa
