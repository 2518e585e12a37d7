/- segs: Fill, Hold, Add. -/
import Derived.Test.YthikpggndjfeaaaSgA
import Derived.Test.YthikpggndjfeaaaSgMem
import Derived.Test.YthikpggndjfeaaaOrder
import Derived.Test.YthikpggndjfeaaaKill
import Derived.RegionTactic
namespace Go.Proofs.Ythikpggndjfeaaa
open Go.RowKit
set_option maxRecDepth 100000 in
theorem fld_ep (s u p : Int) (w : World) : (Instr.field 61 (.agg #[.int .i64 s, .int .i64 u, .int .i64 p]) 2).run Try.prog w = .ok (.int .i64 p) w := by kernel_rfl
set_option linter.unusedSimpArgs false in
set_option linter.unusedVariables false in
set_option maxRecDepth 100000 in
set_option maxHeartbeats 2000000 in
theorem fill_fn (b : Nat) (s u p : Int) (w : World) (h : w.heap[b]? = some (.cells #[.int .i64 s, .int .i64 u, .int .i64 p] 61 (0, 0))) :
    Calls Try.prog 28 #[.pointer (some ⟨b, 0, none⟩)] w fun e w' => e = .returned (.tuple #[]) ∧ w'.heap[b]? = some (.cells #[.int .i64 2, .int .i64 u, .int .i64 p] 61 (0, 0)) ∧ w.grownBy w' (some b) := by
  obtain ⟨x0, x1, x2⟩ := cells3 h
  have hf : ∀ i, w.frozen? ⟨b, i, none⟩ = false := fun i => frozen_of_row w b i _ _ h
  have hr := sets_row [(0, .int .i64 2)] h
  have hg := sets_grown [(0, .int .i64 2)] w (b := b)
  have HR := Lib.hid hr
  have HG := Lib.hid hg
  clear hr hg h
  go_enter Try.func28, Try.ntmps28
  go_wp2
  go_end0
  exact ⟨rfl, HR.out, HG.out⟩
set_option linter.unusedSimpArgs false in
set_option linter.unusedVariables false in
set_option maxRecDepth 100000 in
set_option maxHeartbeats 2000000 in
theorem hold_fn (b eb : Nat) (s u p q : Int) (w : World) (h : w.heap[b]? = some (.cells #[.int .i64 s, .int .i64 u, .int .i64 p] 61 (0, 0))) (he : w.heap[eb]? = some (.cells #[.int .i64 q] 3 (0, 0))) (hne : b ≠ eb) :
    Calls Try.prog 29 #[.pointer (some ⟨b, 0, none⟩), .pointer (some ⟨eb, 0, none⟩)] w fun e w' => e = .returned (.tuple #[]) ∧ w'.heap[b]? = some (.cells #[.int .i64 3, .int .i64 u, .int .i64 q] 61 (0, 0)) ∧ w.grownBy w' (some b) := by
  have hx := h
  obtain ⟨y0, y1, y2⟩ := cells3 h
  have HX := Lib.hid h
  have HE := Lib.hid he
  clear h he hx y0 y1 y2
  go_enter Try.func29, Try.ntmps29
  go_wp2_with fail
  have hbox : w.drew.heap[b]? = some (.cells #[.int .i64 s, .int .i64 u, .int .i64 p] 61 (0, 0)) := HX.out
  have hepo : w.drew.heap[eb]? = some (.cells #[.int .i64 q] 3 (0, 0)) := HE.out
  have hgrw : World.grownBy w w.drew (some b) := ⟨rfl, rfl, rfl, Nat.le_refl _, fun _ _ _ => rfl⟩

  refine' reg_kill [(8, 5)] [eqV _, eqV _, eqV _, eqV _, eqV _, (fun _ w5 => w5.heap[b]? = some (.cells #[.int .i64 3, .int .i64 u, .int .i64 p] 61 (0, 0))), eqV _, eqV _, (fun _ w5 => w5.heap[b]? = some (.cells #[.int .i64 3, .int .i64 u, .int .i64 q] 61 (0, 0)))] [(5, fun w w' => World.grownBy w w' (some b)), (8, fun w w' => World.grownBy w w' (some b))] [(2, fun w5 => w5.heap[eb]? = some (.cells #[.int .i64 q] 3 (0, 0))), (5, fun w5 => w5.heap[b]? = some (.cells #[.int .i64 s, .int .i64 u, .int .i64 p] 61 (0, 0))), (9, fun w5 => World.grownBy w w5 (some b))] [3, 4, 5, 6, 7, 15, 8, 9, 18] [[], [], [], [0], [3], [4], [1], [6], [2, 5, 7]] [0, 1, 2, 3, 4, 5, 6, 7, 8] 9 (by kernel_rfl) (by kernel_rfl) ⟨eqV_stays _, eqV_stays _, eqV_stays _, eqV_stays _, eqV_stays _, fun _ _ _ p b => row_keep p b, eqV_stays _, eqV_stays _, fun _ _ _ p b => row_keep p b, trivial⟩ ⟨⟨.inl (eqV_stays _), .inl (eqV_stays _), .inl (eqV_stays _), .inl (eqV_stays _), .inl (eqV_stays _), .inr (.inr (.inl rfl)), .inl (eqV_stays _), .inl (eqV_stays _), .inr (.inl (by kernel_rfl)), trivial⟩, ⟨.inl (eqV_stays _), .inl (eqV_stays _), .inl (eqV_stays _), .inl (eqV_stays _), .inl (eqV_stays _), .inr (.inr (.inr (by kernel_rfl))), .inl (eqV_stays _), .inl (eqV_stays _), .inr (.inr (.inl rfl)), trivial⟩, trivial⟩ ⟨fun _ _ p b => row_keep p b, fun _ _ p b => row_keep p b, fun _ _ p b => grownB p b, trivial⟩ ⟨⟨.inl (fun _ _ p g => (World.grownBy.block g eb (Array.getElem?_eq_some_iff.1 p).1 (fun e => hne (by injection e with e; exact e.symm))).trans p), .inr (.inr rfl), .inl (fun _ _ p g => grown_one p g), trivial⟩, ⟨.inr (.inl (by kernel_rfl)), .inr (.inl (by kernel_rfl)), .inl (fun _ _ p g => grown_one p g), trivial⟩, trivial⟩ ⟨hepo, hbox, hgrw, trivial⟩ 10 rfl (by kernel_rfl) (by kernel_rfl) rfl rfl 9 rfl ?q1obl ?q1fin
  case q1obl =>
    refine And.intro ?q1o0 (And.intro ?q1o1 (And.intro ?q1o2 (And.intro ?q1o3 (And.intro ?q1o4 (And.intro ?q1o5 (And.intro ?q1o6 (And.intro ?q1o7 (And.intro ?q1o8 (True.intro)))))))))
    case q1o0 =>
      intro w1 hI
      refine turn2_on (by rfl) ?_
      intro K hK
      go_simp
      refine hK _ _ ⟨rfl, Kept.refl _, ?_⟩
      show _ = _
      simp only [List.getD_cons_zero, List.getD_cons_succ, Array.getD_eq_getD_getElem?, List.getElem?_toArray, List.getElem?_cons_zero, List.getElem?_cons_succ, Option.getD_some]
      rfl
    case q1o1 =>
      intro w1 hI
      refine turn2_on (by rfl) ?_
      intro K hK
      go_simp
      refine hK _ _ ⟨rfl, Kept.refl _, ?_⟩
      show _ = _
      simp only [List.getD_cons_zero, List.getD_cons_succ, Array.getD_eq_getD_getElem?, List.getElem?_toArray, List.getElem?_cons_zero, List.getElem?_cons_succ, Option.getD_some]
      rfl
    case q1o2 =>
      intro w1 hI
      replace hI : (fun w5 => w5.heap[eb]? = some (.cells #[.int .i64 q] 3 (0, 0))) w1 := hI
      refine turn2_on (by rfl) ?_
      intro K hK
      have c0 : w1.cell? ⟨eb, 0, none⟩ = some (.int .i64 q) := cell_of_row w1 eb 0 _ _ _ hI
      go_simp
      refine hK _ _ ⟨rfl, Kept.refl _, ?_⟩
      show _ = _
      simp only [List.getD_cons_zero, List.getD_cons_succ, Array.getD_eq_getD_getElem?, List.getElem?_toArray, List.getElem?_cons_zero, List.getElem?_cons_succ, Option.getD_some]
      rfl
    case q1o3 =>
      intro w1 hI
      intro v0 h0
      change _ = _ at h0
      subst v0
      refine turn2_on (by rfl) ?_
      intro K hK
      simp only [List.getD_cons_zero, List.getD_cons_succ, List.setIfInBounds_toArray, List.set_cons_zero, List.set_cons_succ]
      go_simp
      refine hK _ _ ⟨rfl, Kept.refl _, ?_⟩
      show _ = _
      simp only [List.getD_cons_zero, List.getD_cons_succ, Array.getD_eq_getD_getElem?, List.getElem?_toArray, List.getElem?_cons_zero, List.getElem?_cons_succ, Option.getD_some]
      rfl
    case q1o4 =>
      intro w1 hI
      intro v3 h3
      change _ = _ at h3
      subst v3
      refine turn2_on (by rfl) ?_
      intro K hK
      simp only [List.getD_cons_zero, List.getD_cons_succ, List.setIfInBounds_toArray, List.set_cons_zero, List.set_cons_succ]
      go_simp
      refine hK _ _ ⟨rfl, Kept.refl _, ?_⟩
      show _ = _
      simp only [List.getD_cons_zero, List.getD_cons_succ, Array.getD_eq_getD_getElem?, List.getElem?_toArray, List.getElem?_cons_zero, List.getElem?_cons_succ, Option.getD_some]
      rfl
    case q1o5 =>
      intro w1 hI
      replace hI : (fun w5 => w5.heap[b]? = some (.cells #[.int .i64 s, .int .i64 u, .int .i64 p] 61 (0, 0))) w1 := hI
      intro v4 h4
      change _ = _ at h4
      subst v4
      refine turn2_on (by rfl) ?_
      intro K hK
      simp only [List.getD_cons_zero, List.getD_cons_succ, List.setIfInBounds_toArray, List.set_cons_zero, List.set_cons_succ]
      have hf : ∀ i, w1.frozen? ⟨b, i, none⟩ = false := fun i => frozen_of_row w1 b i _ _ hI
      obtain ⟨y0, y1, y2⟩ := cells3 hI
      go_simp
      refine hK _ _ ⟨rfl, cell_grown1 _ _ _ _, ?_⟩
      exact heap_setCell_same w1 b 0 _ _ _ hI
    case q1o6 =>
      intro w1 hI
      intro v1 h1
      change _ = _ at h1
      subst v1
      refine turn2_on (by rfl) ?_
      intro K hK
      simp only [List.getD_cons_zero, List.getD_cons_succ, List.setIfInBounds_toArray, List.set_cons_zero, List.set_cons_succ]
      go_simp
      refine hK _ _ ⟨rfl, Kept.refl _, ?_⟩
      show _ = _
      simp only [List.getD_cons_zero, List.getD_cons_succ, Array.getD_eq_getD_getElem?, List.getElem?_toArray, List.getElem?_cons_zero, List.getElem?_cons_succ, Option.getD_some]
      rfl
    case q1o7 =>
      intro w1 hI
      intro v6 h6
      change _ = _ at h6
      subst v6
      refine turn2_on (by rfl) ?_
      intro K hK
      simp only [List.getD_cons_zero, List.getD_cons_succ, List.setIfInBounds_toArray, List.set_cons_zero, List.set_cons_succ]
      go_simp
      refine hK _ _ ⟨rfl, Kept.refl _, ?_⟩
      show _ = _
      simp only [List.getD_cons_zero, List.getD_cons_succ, Array.getD_eq_getD_getElem?, List.getElem?_toArray, List.getElem?_cons_zero, List.getElem?_cons_succ, Option.getD_some]
      rfl
    case q1o8 =>
      intro w1 hI
      intro v2 h2
      change _ = _ at h2
      subst v2
      intro v5 h5
      intro v7 h7
      change _ = _ at h7
      subst v7
      refine turn2_on (by rfl) ?_
      intro K hK
      simp only [List.getD_cons_zero, List.getD_cons_succ, List.setIfInBounds_toArray, List.set_cons_zero, List.set_cons_succ]
      have hf : ∀ i, w1.frozen? ⟨b, i, none⟩ = false := fun i => frozen_of_row w1 b i _ _ h5
      obtain ⟨y0, y1, y2⟩ := cells3 h5
      go_simp
      refine hK _ _ ⟨rfl, cell_grown1 _ _ _ _, ?_⟩
      exact heap_setCell_same w1 b 2 _ _ _ h5
  intro w4 hI
  replace hI : (fun w5 => World.grownBy w w5 (some b)) w4 := hI
  intro v0 h0
  replace h0 := h0 (by kernel_rfl)
  change _ = _ at h0
  subst v0
  intro v1 h1
  replace h1 := h1 (by kernel_rfl)
  change _ = _ at h1
  subst v1
  intro v2 h2
  replace h2 := h2 (by kernel_rfl)
  change _ = _ at h2
  subst v2
  intro v3 h3
  replace h3 := h3 (by kernel_rfl)
  change _ = _ at h3
  subst v3
  intro v4 h4
  replace h4 := h4 (by kernel_rfl)
  change _ = _ at h4
  subst v4
  intro v5 _
  intro v6 h6
  replace h6 := h6 (by kernel_rfl)
  change _ = _ at h6
  subst v6
  intro v7 h7
  replace h7 := h7 (by kernel_rfl)
  change _ = _ at h7
  subst v7
  intro v8 h8
  replace h8 := h8 (by kernel_rfl)
  simp only [Given, List.getD_cons_zero, List.getD_cons_succ, List.setIfInBounds_toArray, List.set_cons_zero, List.set_cons_succ]
  have HF := Lib.hid h8
  have HG := Lib.hid hI
  go_wp2
  go_end0
  exact ⟨rfl, HF.out, HG.out⟩
set_option linter.unusedSimpArgs false in
set_option linter.unusedVariables false in
set_option maxRecDepth 100000 in
set_option maxHeartbeats 2000000 in
theorem turn_fill (d mb : Nat) (L : List Ent) (k : Int) (w : World) (h : TbIn w d mb L) :
    Calls Try.prog 27 #[.pointer (some ⟨d, 0, none⟩), .int .i64 k, .int .i64 1, .func (.func 28) #[] #[]] w fun e w' => e = .returned (.int .i64 (fillX L k)) ∧ TbIn w' d mb (fillS L k) ∧ w.grownBy w' (some mb) := by
  have H := Lib.hid h
  have HTH := Lib.hid (there_any d mb L k w h)
  have HST := Lib.hid (state_any d mb L k w h)
  cases hi : inE L k with
  | false =>
    have E1 := Lib.hid (show fillX L k = 2 by unfold fillX; rw [hi]; rfl)
    have E3 := Lib.hid (show fillS L k = L by unfold fillS; rw [hi]; rfl)
    rw [hi] at HTH
    clear hi h
    go_enter Try.func27, Try.ntmps27
    go_wp2_with fail
    refine HTH.out.mono ?_
    rintro e w' ⟨rfl, rfl⟩
    go_wp2
    go_ret
    exact ⟨by rw [E1.out]; rfl, by rw [E3.out]; exact H.out, World.grownBy.refl _ _⟩
  | true =>
    rw [hi] at HTH
    rw [show stE L k = (getE L k).st by unfold stE; rw [if_pos hi]] at HST
    obtain ⟨h1, h2⟩ := inE_yes hi
    have hn := h.ok.n
    have hlk := h.look k (WalkArith.wf_i64 ⟨by omega, by omega⟩)
    have hok := getE_ok h.ok k
    have hX : fillX L k = if (getE L k).st = 1 then 0 else 9 := by unfold fillX; rw [if_pos hi]
    have hS : fillS L k = if (getE L k).st = 1 then setE L k ⟨2, (getE L k).us, (getE L k).ep⟩ else L := by unfold fillS; rw [if_pos hi]
    obtain ⟨E, hE⟩ : ∃ x, getE L k = x := ⟨_, rfl⟩
    rw [hE] at hlk hok hX hS HST
    obtain ⟨s, u, p⟩ := E
    dsimp only at hlk hX hS HST
    have HIN := Lib.hid hi
    clear hE h1 h2 hn hi
    by_cases hs : s = 1
    · rw [if_pos hs] at hX hS
      subst hs
      have E1 := Lib.hid hX
      have E3 := Lib.hid hS
      have HNZ : Hid ((⟨2, u, p⟩ : Ent).st ≠ 0) := show (2 : Int) ≠ 0 by decide
      have HEOK : Hid (EntOk ⟨2, u, p⟩) := Lib.hid ⟨fun q => absurd q (show (2 : Int) ≠ 0 by decide), hok.us⟩
      have c1 := h.c1
      have hal := (Below.refl w.heap.size w).alloc (Nat.le_refl _) (.cells #[.int .i64 1, .int .i64 u, .int .i64 p] 61)
      have hbx := heap_alloc_new w (.cells #[.int .i64 1, .int .i64 u, .int .i64 p] 61)
      have hgw := World.grownBy.but (World.grownBy_alloc w (.cells #[.int .i64 1, .int .i64 u, .int .i64 p] 61) none) (some mb)
      have HX := Lib.hid hbx
      have HGA := Lib.hid hgw
      have T1 := Lib.hid (h.below hal)
      have HML := Lib.hid (And.intro h.lt h.map.lt)
      clear hX hS hok hal hbx hgw h
      go_enter Try.func27, Try.ntmps27
      go_wp2_with fail
      refine HTH.out.mono ?_
      rintro e w' ⟨rfl, rfl⟩
      go_wp2_with fail
      refine HST.out.mono ?_
      rintro e w' ⟨rfl, rfl⟩
      go_wp2_with fail
      refine (fill_fn w.heap.size 1 u p _ HX.out).mono ?_
      rintro e w2 ⟨rfl, hb2, hg2⟩
      have HGW := Lib.hid (World.grownBy.andThen HGA.out hg2 (fun j e => .inl (by injection e with e; omega)))
      have T2 := Lib.hid (T1.out.grown hg2 (fun e => by injection e with e; have := HML.out.1; omega) (fun e => by injection e with e; have := HML.out.2; omega))
      have HB2 := Lib.hid hb2
      clear hb2 hg2 T1 HX HGA HTH HST hlk c1
      go_wp2_with fail
      have hrow : w2.drew.heap[d]? = some (.cells #[.int .i64 L.length, .map (some mb)] 59 (0, 0)) := T2.out.row
      have hbox : w2.drew.heap[w.heap.size]? = some (.cells #[.int .i64 2, .int .i64 u, .int .i64 p] 61 (0, 0)) := HB2.out
      have htab : TbIn w2.drew d mb L := T2.out.at0 rfl
      have hgrw : World.grownBy w2 w2.drew (some mb) := ⟨rfl, rfl, rfl, Nat.le_refl _, fun _ _ _ => rfl⟩
      refine' reg_order [eqV _, eqV _, eqV _, eqV _, eqV _, eqV _, eqV _, (fun _ w => TbIn w d mb (setE L k ⟨2, u, p⟩))] [(7, fun w w' => World.grownBy w w' (some mb))] [(3, fun w5 => w5.heap[d]? = some (.cells #[.int .i64 L.length, .map (some mb)] 59 (0, 0))), (6, fun w5 => w5.heap[w.heap.size]? = some (.cells #[.int .i64 2, .int .i64 u, .int .i64 p] 61 (0, 0))), (7, fun w => TbIn w d mb L), (8, fun w => World.grownBy w2 w (some mb))] [30, 31, 32, 33, 34, 35, 36, 44] [[], [0], [1], [2], [], [4], [], [3, 5, 6]] [0, 1, 2, 3, 4, 5, 6, 7] 8 (by kernel_rfl) ⟨eqV_stays _, eqV_stays _, eqV_stays _, eqV_stays _, eqV_stays _, eqV_stays _, eqV_stays _, fun _ _ _ p b => TbIn.below p b, trivial⟩ ⟨⟨.inl (eqV_stays _), .inl (eqV_stays _), .inl (eqV_stays _), .inl (eqV_stays _), .inl (eqV_stays _), .inl (eqV_stays _), .inl (eqV_stays _), .inr (.inr rfl), trivial⟩, trivial⟩ ⟨fun _ _ p b => row_keep p b, fun _ _ p b => row_keep p b, fun _ _ p b => TbIn.below p b, fun _ _ p b => grownB p b, trivial⟩ ⟨⟨.inr (.inl (by kernel_rfl)), .inr (.inl (by kernel_rfl)), .inr (.inr rfl), .inl (fun _ _ p g => grown_one p g), trivial⟩, trivial⟩ ⟨hrow, hbox, htab, hgrw, trivial⟩ 37 rfl (by kernel_rfl) (by kernel_rfl) rfl rfl 8 rfl ?q2obl ?q2fin
      case q2obl =>
        refine And.intro ?q2o0 (And.intro ?q2o1 (And.intro ?q2o2 (And.intro ?q2o3 (And.intro ?q2o4 (And.intro ?q2o5 (And.intro ?q2o6 (And.intro ?q2o7 (True.intro))))))))
        case q2o0 =>
          intro w1 hI
          refine turn2_on (by rfl) ?_
          intro K hK
          go_simp
          refine hK _ _ ⟨rfl, Kept.refl _, ?_⟩
          show _ = _
          simp only [List.getD_cons_zero, List.getD_cons_succ, Array.getD_eq_getD_getElem?, List.getElem?_toArray, List.getElem?_cons_zero, List.getElem?_cons_succ, Option.getD_some]
          rfl
        case q2o1 =>
          intro w1 hI
          intro v0 h0
          change _ = _ at h0
          subst v0
          refine turn2_on (by rfl) ?_
          intro K hK
          simp only [List.getD_cons_zero, List.getD_cons_succ, List.setIfInBounds_toArray, List.set_cons_zero, List.set_cons_succ]
          go_simp
          refine hK _ _ ⟨rfl, Kept.refl _, ?_⟩
          show _ = _
          simp only [List.getD_cons_zero, List.getD_cons_succ, Array.getD_eq_getD_getElem?, List.getElem?_toArray, List.getElem?_cons_zero, List.getElem?_cons_succ, Option.getD_some]
          rfl
        case q2o2 =>
          intro w1 hI
          intro v1 h1
          change _ = _ at h1
          subst v1
          refine turn2_on (by rfl) ?_
          intro K hK
          simp only [List.getD_cons_zero, List.getD_cons_succ, List.setIfInBounds_toArray, List.set_cons_zero, List.set_cons_succ]
          go_simp
          refine hK _ _ ⟨rfl, Kept.refl _, ?_⟩
          show _ = _
          simp only [List.getD_cons_zero, List.getD_cons_succ, Array.getD_eq_getD_getElem?, List.getElem?_toArray, List.getElem?_cons_zero, List.getElem?_cons_succ, Option.getD_some]
          rfl
        case q2o3 =>
          intro w1 hI
          replace hI : (fun w5 => w5.heap[d]? = some (.cells #[.int .i64 L.length, .map (some mb)] 59 (0, 0))) w1 := hI
          intro v2 h2
          change _ = _ at h2
          subst v2
          refine turn2_on (by rfl) ?_
          intro K hK
          simp only [List.getD_cons_zero, List.getD_cons_succ, List.setIfInBounds_toArray, List.set_cons_zero, List.set_cons_succ]
          have c1 : w1.cell? ⟨d, 1, none⟩ = some (.map (some mb)) := cell_of_row w1 d 1 _ _ _ hI
          go_simp
          refine hK _ _ ⟨rfl, Kept.refl _, ?_⟩
          show _ = _
          simp only [List.getD_cons_zero, List.getD_cons_succ, Array.getD_eq_getD_getElem?, List.getElem?_toArray, List.getElem?_cons_zero, List.getElem?_cons_succ, Option.getD_some]
          rfl
        case q2o4 =>
          intro w1 hI
          refine turn2_on (by rfl) ?_
          intro K hK
          go_simp
          refine hK _ _ ⟨rfl, Kept.refl _, ?_⟩
          show _ = _
          simp only [List.getD_cons_zero, List.getD_cons_succ, Array.getD_eq_getD_getElem?, List.getElem?_toArray, List.getElem?_cons_zero, List.getElem?_cons_succ, Option.getD_some]
          rfl
        case q2o5 =>
          intro w1 hI
          intro v4 h4
          change _ = _ at h4
          subst v4
          refine turn2_on (by rfl) ?_
          intro K hK
          simp only [List.getD_cons_zero, List.getD_cons_succ, List.setIfInBounds_toArray, List.set_cons_zero, List.set_cons_succ]
          go_simp
          refine hK _ _ ⟨rfl, Kept.refl _, ?_⟩
          show _ = _
          simp only [List.getD_cons_zero, List.getD_cons_succ, Array.getD_eq_getD_getElem?, List.getElem?_toArray, List.getElem?_cons_zero, List.getElem?_cons_succ, Option.getD_some]
          rfl
        case q2o6 =>
          intro w1 hI
          replace hI : (fun w5 => w5.heap[w.heap.size]? = some (.cells #[.int .i64 2, .int .i64 u, .int .i64 p] 61 (0, 0))) w1 := hI
          refine turn2_on (by rfl) ?_
          intro K hK
          obtain ⟨x0, x1, x2⟩ := cells3 hI
          go_simp
          refine hK _ _ ⟨rfl, Kept.refl _, ?_⟩
          show _ = _
          simp only [List.getD_cons_zero, List.getD_cons_succ, Array.getD_eq_getD_getElem?, List.getElem?_toArray, List.getElem?_cons_zero, List.getElem?_cons_succ, Option.getD_some]
          rfl
        case q2o7 =>
          intro w1 hI
          replace hI : (fun w => TbIn w d mb L) w1 := hI
          intro v3 h3
          change _ = _ at h3
          subst v3
          intro v5 h5
          change _ = _ at h5
          subst v5
          intro v6 h6
          change _ = _ at h6
          subst v6
          refine turn2_on (by rfl) ?_
          intro K hK
          simp only [List.getD_cons_zero, List.getD_cons_succ, List.setIfInBounds_toArray, List.set_cons_zero, List.set_cons_succ]
          obtain ⟨w3, hrun, hmp, hg⟩ := TbIn.put hI k ⟨2, u, p⟩ HIN.out HNZ.out HEOK.out
          dsimp only at hrun
          go_simp
          refine hK _ _ ⟨rfl, hg, ?_⟩
          exact hmp
      intro w4 hI
      replace hI : (fun w => World.grownBy w2 w (some mb)) w4 := hI
      intro v0 h0
      change _ = _ at h0
      subst v0
      intro v1 h1
      change _ = _ at h1
      subst v1
      intro v2 h2
      change _ = _ at h2
      subst v2
      intro v3 h3
      change _ = _ at h3
      subst v3
      intro v4 h4
      change _ = _ at h4
      subst v4
      intro v5 h5
      change _ = _ at h5
      subst v5
      intro v6 h6
      change _ = _ at h6
      subst v6
      intro v7 h7
      simp only [Given, List.getD_cons_zero, List.getD_cons_succ, List.setIfInBounds_toArray, List.set_cons_zero, List.set_cons_succ]
      have HF := Lib.hid h7
      have HG := Lib.hid hI
      clear h7 hI
      go_wp2
      go_ret
      exact ⟨by rw [E1.out]; rfl, by rw [E3.out]; exact HF.out, World.grownBy.andThen HGW.out HG.out (fun j e => .inr e)⟩
    · rw [if_neg hs] at hX hS
      have E1 := Lib.hid hX
      have E3 := Lib.hid hS
      have d1 : (s != 1) = true := by simpa using hs
      clear hX hS hok hs hlk h
      go_enter Try.func27, Try.ntmps27
      go_wp2_with fail
      refine HTH.out.mono ?_
      rintro e w' ⟨rfl, rfl⟩
      go_wp2_with fail
      refine HST.out.mono ?_
      rintro e w' ⟨rfl, rfl⟩
      go_wp2
      go_ret
      exact ⟨by rw [E1.out]; rfl, by rw [E3.out]; exact H.out, World.grownBy.refl _ _⟩
set_option linter.unusedSimpArgs false in
set_option linter.unusedVariables false in
set_option maxRecDepth 100000 in
set_option maxHeartbeats 2000000 in
theorem turn_hold (d mb : Nat) (L : List Ent) (k : Int) (eb : Nat) (q : Int) (w : World) (h : TbIn w d mb L) (heb : w.heap[eb]? = some (.cells #[.int .i64 q] 3 (0, 0))) :
    Calls Try.prog 27 #[.pointer (some ⟨d, 0, none⟩), .int .i64 k, .int .i64 2, .func (.func 29) #[] #[.pointer (some ⟨eb, 0, none⟩)]] w fun e w' => e = .returned (.int .i64 (holdX L k)) ∧ TbIn w' d mb (holdS L k q) ∧ w.grownBy w' (some mb) := by
  have H := Lib.hid h
  have HTH := Lib.hid (there_any d mb L k w h)
  have HST := Lib.hid (state_any d mb L k w h)
  cases hi : inE L k with
  | false =>
    have E1 := Lib.hid (show holdX L k = 2 by unfold holdX; rw [hi]; rfl)
    have E3 := Lib.hid (show holdS L k q = L by unfold holdS; rw [hi]; rfl)
    rw [hi] at HTH
    clear hi h
    go_enter Try.func27, Try.ntmps27
    go_wp2_with fail
    refine HTH.out.mono ?_
    rintro e w' ⟨rfl, rfl⟩
    go_wp2
    go_ret
    exact ⟨by rw [E1.out]; rfl, by rw [E3.out]; exact H.out, World.grownBy.refl _ _⟩
  | true =>
    rw [hi] at HTH
    rw [show stE L k = (getE L k).st by unfold stE; rw [if_pos hi]] at HST
    obtain ⟨h1, h2⟩ := inE_yes hi
    have hn := h.ok.n
    have hlk := h.look k (WalkArith.wf_i64 ⟨by omega, by omega⟩)
    have hok := getE_ok h.ok k
    have hX : holdX L k = if (getE L k).st = 2 then 0 else 9 := by unfold holdX; rw [if_pos hi]
    have hS : holdS L k q = if (getE L k).st = 2 then setE L k ⟨3, (getE L k).us, q⟩ else L := by unfold holdS; rw [if_pos hi]
    obtain ⟨E, hE⟩ : ∃ x, getE L k = x := ⟨_, rfl⟩
    rw [hE] at hlk hok hX hS HST
    obtain ⟨s, u, p⟩ := E
    dsimp only at hlk hX hS HST
    have HIN := Lib.hid hi
    clear hE h1 h2 hn hi
    by_cases hs : s = 2
    · rw [if_pos hs] at hX hS
      subst hs
      have E1 := Lib.hid hX
      have E3 := Lib.hid hS
      have HNZ : Hid ((⟨3, u, q⟩ : Ent).st ≠ 0) := show (3 : Int) ≠ 0 by decide
      have HEOK : Hid (EntOk ⟨3, u, q⟩) := Lib.hid ⟨fun q => absurd q (show (3 : Int) ≠ 0 by decide), hok.us⟩
      have c1 := h.c1
      have hal := (Below.refl w.heap.size w).alloc (Nat.le_refl _) (.cells #[.int .i64 2, .int .i64 u, .int .i64 p] 61)
      have hbx := heap_alloc_new w (.cells #[.int .i64 2, .int .i64 u, .int .i64 p] 61)
      have hgw := World.grownBy.but (World.grownBy_alloc w (.cells #[.int .i64 2, .int .i64 u, .int .i64 p] 61) none) (some mb)
      have HX := Lib.hid hbx
      have HGA := Lib.hid hgw
      have T1 := Lib.hid (h.below hal)
      have HML := Lib.hid (And.intro h.lt h.map.lt)
      have HEB := Lib.hid (row_keep heb hal)
      have HNE : Hid (w.heap.size ≠ eb) := fun e => by have := (Array.getElem?_eq_some_iff.1 heb).1; omega
      clear hX hS hok hal hbx hgw h
      go_enter Try.func27, Try.ntmps27
      go_wp2_with fail
      refine HTH.out.mono ?_
      rintro e w' ⟨rfl, rfl⟩
      go_wp2_with fail
      refine HST.out.mono ?_
      rintro e w' ⟨rfl, rfl⟩
      go_wp2_with fail
      refine (hold_fn w.heap.size eb 2 u p q _ HX.out HEB.out HNE.out).mono ?_
      rintro e w2 ⟨rfl, hb2, hg2⟩
      have HGW := Lib.hid (World.grownBy.andThen HGA.out hg2 (fun j e => .inl (by injection e with e; omega)))
      have T2 := Lib.hid (T1.out.grown hg2 (fun e => by injection e with e; have := HML.out.1; omega) (fun e => by injection e with e; have := HML.out.2; omega))
      have HB2 := Lib.hid hb2
      clear hb2 hg2 T1 HX HGA HTH HST hlk c1
      go_wp2_with fail
      have hrow : w2.drew.heap[d]? = some (.cells #[.int .i64 L.length, .map (some mb)] 59 (0, 0)) := T2.out.row
      have hbox : w2.drew.heap[w.heap.size]? = some (.cells #[.int .i64 3, .int .i64 u, .int .i64 q] 61 (0, 0)) := HB2.out
      have htab : TbIn w2.drew d mb L := T2.out.at0 rfl
      have hgrw : World.grownBy w2 w2.drew (some mb) := ⟨rfl, rfl, rfl, Nat.le_refl _, fun _ _ _ => rfl⟩
      refine' reg_order [eqV _, eqV _, eqV _, eqV _, eqV _, eqV _, eqV _, (fun _ w => TbIn w d mb (setE L k ⟨3, u, q⟩))] [(7, fun w w' => World.grownBy w w' (some mb))] [(3, fun w5 => w5.heap[d]? = some (.cells #[.int .i64 L.length, .map (some mb)] 59 (0, 0))), (6, fun w5 => w5.heap[w.heap.size]? = some (.cells #[.int .i64 3, .int .i64 u, .int .i64 q] 61 (0, 0))), (7, fun w => TbIn w d mb L), (8, fun w => World.grownBy w2 w (some mb))] [30, 31, 32, 33, 34, 35, 36, 44] [[], [0], [1], [2], [], [4], [], [3, 5, 6]] [0, 1, 2, 3, 4, 5, 6, 7] 8 (by kernel_rfl) ⟨eqV_stays _, eqV_stays _, eqV_stays _, eqV_stays _, eqV_stays _, eqV_stays _, eqV_stays _, fun _ _ _ p b => TbIn.below p b, trivial⟩ ⟨⟨.inl (eqV_stays _), .inl (eqV_stays _), .inl (eqV_stays _), .inl (eqV_stays _), .inl (eqV_stays _), .inl (eqV_stays _), .inl (eqV_stays _), .inr (.inr rfl), trivial⟩, trivial⟩ ⟨fun _ _ p b => row_keep p b, fun _ _ p b => row_keep p b, fun _ _ p b => TbIn.below p b, fun _ _ p b => grownB p b, trivial⟩ ⟨⟨.inr (.inl (by kernel_rfl)), .inr (.inl (by kernel_rfl)), .inr (.inr rfl), .inl (fun _ _ p g => grown_one p g), trivial⟩, trivial⟩ ⟨hrow, hbox, htab, hgrw, trivial⟩ 37 rfl (by kernel_rfl) (by kernel_rfl) rfl rfl 8 rfl ?q3obl ?q3fin
      case q3obl =>
        refine And.intro ?q3o0 (And.intro ?q3o1 (And.intro ?q3o2 (And.intro ?q3o3 (And.intro ?q3o4 (And.intro ?q3o5 (And.intro ?q3o6 (And.intro ?q3o7 (True.intro))))))))
        case q3o0 =>
          intro w1 hI
          refine turn2_on (by rfl) ?_
          intro K hK
          go_simp
          refine hK _ _ ⟨rfl, Kept.refl _, ?_⟩
          show _ = _
          simp only [List.getD_cons_zero, List.getD_cons_succ, Array.getD_eq_getD_getElem?, List.getElem?_toArray, List.getElem?_cons_zero, List.getElem?_cons_succ, Option.getD_some]
          rfl
        case q3o1 =>
          intro w1 hI
          intro v0 h0
          change _ = _ at h0
          subst v0
          refine turn2_on (by rfl) ?_
          intro K hK
          simp only [List.getD_cons_zero, List.getD_cons_succ, List.setIfInBounds_toArray, List.set_cons_zero, List.set_cons_succ]
          go_simp
          refine hK _ _ ⟨rfl, Kept.refl _, ?_⟩
          show _ = _
          simp only [List.getD_cons_zero, List.getD_cons_succ, Array.getD_eq_getD_getElem?, List.getElem?_toArray, List.getElem?_cons_zero, List.getElem?_cons_succ, Option.getD_some]
          rfl
        case q3o2 =>
          intro w1 hI
          intro v1 h1
          change _ = _ at h1
          subst v1
          refine turn2_on (by rfl) ?_
          intro K hK
          simp only [List.getD_cons_zero, List.getD_cons_succ, List.setIfInBounds_toArray, List.set_cons_zero, List.set_cons_succ]
          go_simp
          refine hK _ _ ⟨rfl, Kept.refl _, ?_⟩
          show _ = _
          simp only [List.getD_cons_zero, List.getD_cons_succ, Array.getD_eq_getD_getElem?, List.getElem?_toArray, List.getElem?_cons_zero, List.getElem?_cons_succ, Option.getD_some]
          rfl
        case q3o3 =>
          intro w1 hI
          replace hI : (fun w5 => w5.heap[d]? = some (.cells #[.int .i64 L.length, .map (some mb)] 59 (0, 0))) w1 := hI
          intro v2 h2
          change _ = _ at h2
          subst v2
          refine turn2_on (by rfl) ?_
          intro K hK
          simp only [List.getD_cons_zero, List.getD_cons_succ, List.setIfInBounds_toArray, List.set_cons_zero, List.set_cons_succ]
          have c1 : w1.cell? ⟨d, 1, none⟩ = some (.map (some mb)) := cell_of_row w1 d 1 _ _ _ hI
          go_simp
          refine hK _ _ ⟨rfl, Kept.refl _, ?_⟩
          show _ = _
          simp only [List.getD_cons_zero, List.getD_cons_succ, Array.getD_eq_getD_getElem?, List.getElem?_toArray, List.getElem?_cons_zero, List.getElem?_cons_succ, Option.getD_some]
          rfl
        case q3o4 =>
          intro w1 hI
          refine turn2_on (by rfl) ?_
          intro K hK
          go_simp
          refine hK _ _ ⟨rfl, Kept.refl _, ?_⟩
          show _ = _
          simp only [List.getD_cons_zero, List.getD_cons_succ, Array.getD_eq_getD_getElem?, List.getElem?_toArray, List.getElem?_cons_zero, List.getElem?_cons_succ, Option.getD_some]
          rfl
        case q3o5 =>
          intro w1 hI
          intro v4 h4
          change _ = _ at h4
          subst v4
          refine turn2_on (by rfl) ?_
          intro K hK
          simp only [List.getD_cons_zero, List.getD_cons_succ, List.setIfInBounds_toArray, List.set_cons_zero, List.set_cons_succ]
          go_simp
          refine hK _ _ ⟨rfl, Kept.refl _, ?_⟩
          show _ = _
          simp only [List.getD_cons_zero, List.getD_cons_succ, Array.getD_eq_getD_getElem?, List.getElem?_toArray, List.getElem?_cons_zero, List.getElem?_cons_succ, Option.getD_some]
          rfl
        case q3o6 =>
          intro w1 hI
          replace hI : (fun w5 => w5.heap[w.heap.size]? = some (.cells #[.int .i64 3, .int .i64 u, .int .i64 q] 61 (0, 0))) w1 := hI
          refine turn2_on (by rfl) ?_
          intro K hK
          obtain ⟨x0, x1, x2⟩ := cells3 hI
          go_simp
          refine hK _ _ ⟨rfl, Kept.refl _, ?_⟩
          show _ = _
          simp only [List.getD_cons_zero, List.getD_cons_succ, Array.getD_eq_getD_getElem?, List.getElem?_toArray, List.getElem?_cons_zero, List.getElem?_cons_succ, Option.getD_some]
          rfl
        case q3o7 =>
          intro w1 hI
          replace hI : (fun w => TbIn w d mb L) w1 := hI
          intro v3 h3
          change _ = _ at h3
          subst v3
          intro v5 h5
          change _ = _ at h5
          subst v5
          intro v6 h6
          change _ = _ at h6
          subst v6
          refine turn2_on (by rfl) ?_
          intro K hK
          simp only [List.getD_cons_zero, List.getD_cons_succ, List.setIfInBounds_toArray, List.set_cons_zero, List.set_cons_succ]
          obtain ⟨w3, hrun, hmp, hg⟩ := TbIn.put hI k ⟨3, u, q⟩ HIN.out HNZ.out HEOK.out
          dsimp only at hrun
          go_simp
          refine hK _ _ ⟨rfl, hg, ?_⟩
          exact hmp
      intro w4 hI
      replace hI : (fun w => World.grownBy w2 w (some mb)) w4 := hI
      intro v0 h0
      change _ = _ at h0
      subst v0
      intro v1 h1
      change _ = _ at h1
      subst v1
      intro v2 h2
      change _ = _ at h2
      subst v2
      intro v3 h3
      change _ = _ at h3
      subst v3
      intro v4 h4
      change _ = _ at h4
      subst v4
      intro v5 h5
      change _ = _ at h5
      subst v5
      intro v6 h6
      change _ = _ at h6
      subst v6
      intro v7 h7
      simp only [Given, List.getD_cons_zero, List.getD_cons_succ, List.setIfInBounds_toArray, List.set_cons_zero, List.set_cons_succ]
      have HF := Lib.hid h7
      have HG := Lib.hid hI
      clear h7 hI
      go_wp2
      go_ret
      exact ⟨by rw [E1.out]; rfl, by rw [E3.out]; exact HF.out, World.grownBy.andThen HGW.out HG.out (fun j e => .inr e)⟩
    · rw [if_neg hs] at hX hS
      have E1 := Lib.hid hX
      have E3 := Lib.hid hS
      have d1 : (s != 2) = true := by simpa using hs
      clear hX hS hok hs hlk h
      go_enter Try.func27, Try.ntmps27
      go_wp2_with fail
      refine HTH.out.mono ?_
      rintro e w' ⟨rfl, rfl⟩
      go_wp2_with fail
      refine HST.out.mono ?_
      rintro e w' ⟨rfl, rfl⟩
      go_wp2
      go_ret
      exact ⟨by rw [E1.out]; rfl, by rw [E3.out]; exact H.out, World.grownBy.refl _ _⟩
end Go.Proofs.Ythikpggndjfeaaa
