/- segs: Fill, Hold, Add. -/
import Derived.Test.YthikpggndjfeaaaSgB
namespace Go.Proofs.Ythikpggndjfeaaa
open Go.RowKit
set_option maxRecDepth 100000 in
theorem fill_any (d mb : Nat) (L : List Ent) (k : Int) (w : World) (h : TbIn w d mb L) :
    Calls Try.prog 10 #[.pointer (some ⟨d, 0, none⟩), .int .i64 k] w fun e w' => e = .returned (.int .i64 (fillX L k)) ∧ TbIn w' d mb (fillS L k) ∧ w.grownBy w' (some mb) := by
  have HT := Lib.hid (turn_fill d mb L k w h)
  clear h
  go_enter Try.func10, Try.ntmps10
  go_wp2_with fail
  refine HT.out.mono ?_
  rintro e w' ⟨rfl, h1, h2⟩
  go_wp2
  go_ret
  exact ⟨rfl, h1, h2⟩
set_option maxRecDepth 100000 in
theorem hold_any (d mb : Nat) (L : List Ent) (k q : Int) (w : World) (h : TbIn w d mb L) :
    Calls Try.prog 11 #[.pointer (some ⟨d, 0, none⟩), .int .i64 k, .int .i64 q] w fun e w' => e = .returned (.int .i64 (holdX L k)) ∧ TbIn w' d mb (holdS L k q) ∧ w.grownBy w' (some mb) := by
  have hal := (Below.refl w.heap.size w).alloc (Nat.le_refl _) (.cells #[.int .i64 q] 3)
  have HT := Lib.hid (turn_hold d mb L k w.heap.size q _ (h.below hal) (heap_alloc_new w _))
  have HG := Lib.hid (World.grownBy.but (World.grownBy_alloc w (.cells #[.int .i64 q] 3) none) (some mb))
  clear h hal
  go_enter Try.func11, Try.ntmps11
  go_wp2_with fail
  refine HT.out.mono ?_
  rintro e w' ⟨rfl, h1, h2⟩
  go_wp2
  go_ret
  exact ⟨rfl, h1, World.grownBy.andThen HG.out h2 (fun j e => .inr e)⟩
set_option linter.unusedSimpArgs false in
set_option linter.unusedVariables false in
set_option maxRecDepth 100000 in
set_option maxHeartbeats 2000000 in
theorem add_out (d mb : Nat) (L : List Ent) (k n : Int) (w : World) (h : TbIn w d mb L) (hk : (Lit.int .i64 k).wf = true) (hi : inE L k = false) :
    Calls Try.prog 13 #[.pointer (some ⟨d, 0, none⟩), .int .i64 k, .int .i64 n] w fun e w' => e = .returned (.int .i64 (addX L k n)) ∧ TbIn w' d mb (addS L k n) ∧ w.grownBy w' (some mb) := by
  have HML := Lib.hid (And.intro h.lt h.map.lt)
  have HT0 := Lib.hid h
  have hlk := h.look k hk
  have hok := getE_ok h.ok k
  have c1 := h.c1
  have hX : addX L k n = if inE L k = true then (if (getE L k).st = 0 then 9 else if n < - (getE L k).us ∨ 1073741824 - (getE L k).us < n then 1 else 0) else 2 := rfl
  have hS : addS L k n = if inE L k = true then (if (getE L k).st = 0 then L else if n < - (getE L k).us ∨ 1073741824 - (getE L k).us < n then L else setE L k ⟨(getE L k).st, (getE L k).us + n, (getE L k).ep⟩) else L := rfl
  obtain ⟨E, hE⟩ : ∃ x, getE L k = x := ⟨_, rfl⟩
  rw [hE] at hlk hok hX hS
  obtain ⟨s, u, p⟩ := E
  dsimp only at hlk hX hS
  obtain ⟨hu1, hu2⟩ := hok.us
  replace hu1 : 0 ≤ u := hu1
  replace hu2 : u ≤ 1073741824 := hu2
  have hal := (Below.refl w.heap.size w).alloc (Nat.le_refl _) (.cells #[.int .i64 s, .int .i64 u, .int .i64 p] 61)
  have hbx := heap_alloc_new w (.cells #[.int .i64 s, .int .i64 u, .int .i64 p] 61)
  have HGA := Lib.hid (World.grownBy.but (World.grownBy_alloc w (.cells #[.int .i64 s, .int .i64 u, .int .i64 p] 61) none) (some mb))
  have T1 := Lib.hid (h.below hal)
  have HTH := Lib.hid (there_any d mb L k _ T1.out)
  have HX := Lib.hid hbx
  obtain ⟨x0, x1, x2⟩ := cells3 hbx
  have wr1 : IntKind.i64.wrap (-u) = -u := IntWalk.i64_in _ (by omega)
  have wr2 : IntKind.i64.wrap (1073741824 - u) = 1073741824 - u := IntWalk.i64_in _ (by omega)
  rw [hi] at HTH hX hS
  rw [if_neg (by decide)] at hX hS
  have E1 := Lib.hid hX
  have E3 := Lib.hid hS
  clear hX hS hok hal hbx hi h
  go_enter Try.func13, Try.ntmps13
  go_wp2_with fail
  refine HTH.out.mono ?_
  rintro e w' ⟨rfl, rfl⟩
  go_wp2_with fail
  go_ret
  exact ⟨by rw [E1.out]; rfl, by rw [E3.out]; exact T1.out, HGA.out⟩
set_option linter.unusedSimpArgs false in
set_option linter.unusedVariables false in
set_option maxRecDepth 100000 in
set_option maxHeartbeats 2000000 in
theorem add_free (d mb : Nat) (L : List Ent) (k n : Int) (w : World) (h : TbIn w d mb L) (hk : (Lit.int .i64 k).wf = true) (hi : inE L k = true) (h0 : (getE L k).st = 0) :
    Calls Try.prog 13 #[.pointer (some ⟨d, 0, none⟩), .int .i64 k, .int .i64 n] w fun e w' => e = .returned (.int .i64 (addX L k n)) ∧ TbIn w' d mb (addS L k n) ∧ w.grownBy w' (some mb) := by
  have HML := Lib.hid (And.intro h.lt h.map.lt)
  have HT0 := Lib.hid h
  have hlk := h.look k hk
  have hok := getE_ok h.ok k
  have c1 := h.c1
  have hX : addX L k n = if inE L k = true then (if (getE L k).st = 0 then 9 else if n < - (getE L k).us ∨ 1073741824 - (getE L k).us < n then 1 else 0) else 2 := rfl
  have hS : addS L k n = if inE L k = true then (if (getE L k).st = 0 then L else if n < - (getE L k).us ∨ 1073741824 - (getE L k).us < n then L else setE L k ⟨(getE L k).st, (getE L k).us + n, (getE L k).ep⟩) else L := rfl
  obtain ⟨E, hE⟩ : ∃ x, getE L k = x := ⟨_, rfl⟩
  rw [hE] at hlk hok hX hS
  obtain ⟨s, u, p⟩ := E
  dsimp only at hlk hX hS
  obtain ⟨hu1, hu2⟩ := hok.us
  replace hu1 : 0 ≤ u := hu1
  replace hu2 : u ≤ 1073741824 := hu2
  have hal := (Below.refl w.heap.size w).alloc (Nat.le_refl _) (.cells #[.int .i64 s, .int .i64 u, .int .i64 p] 61)
  have hbx := heap_alloc_new w (.cells #[.int .i64 s, .int .i64 u, .int .i64 p] 61)
  have HGA := Lib.hid (World.grownBy.but (World.grownBy_alloc w (.cells #[.int .i64 s, .int .i64 u, .int .i64 p] 61) none) (some mb))
  have T1 := Lib.hid (h.below hal)
  have HTH := Lib.hid (there_any d mb L k _ T1.out)
  have HX := Lib.hid hbx
  obtain ⟨x0, x1, x2⟩ := cells3 hbx
  have wr1 : IntKind.i64.wrap (-u) = -u := IntWalk.i64_in _ (by omega)
  have wr2 : IntKind.i64.wrap (1073741824 - u) = 1073741824 - u := IntWalk.i64_in _ (by omega)
  rw [hE] at h0
  replace h0 : s = 0 := h0
  subst h0
  rw [hi] at HTH hX hS
  rw [if_pos rfl, if_pos rfl] at hX hS
  have E1 := Lib.hid hX
  have E3 := Lib.hid hS
  clear hX hS hok hal hbx hi h hE
  go_enter Try.func13, Try.ntmps13
  go_wp2_with fail
  refine HTH.out.mono ?_
  rintro e w' ⟨rfl, rfl⟩
  go_wp2_with fail
  go_ret
  exact ⟨by rw [E1.out]; rfl, by rw [E3.out]; exact T1.out, HGA.out⟩
set_option linter.unusedSimpArgs false in
set_option linter.unusedVariables false in
set_option maxRecDepth 100000 in
set_option maxHeartbeats 2000000 in
theorem add_no (d mb : Nat) (L : List Ent) (k n : Int) (w : World) (h : TbIn w d mb L) (hk : (Lit.int .i64 k).wf = true) (hi : inE L k = true) (h0 : (getE L k).st ≠ 0) (hb : n < - (getE L k).us ∨ 1073741824 - (getE L k).us < n) :
    Calls Try.prog 13 #[.pointer (some ⟨d, 0, none⟩), .int .i64 k, .int .i64 n] w fun e w' => e = .returned (.int .i64 (addX L k n)) ∧ TbIn w' d mb (addS L k n) ∧ w.grownBy w' (some mb) := by
  have HML := Lib.hid (And.intro h.lt h.map.lt)
  have HT0 := Lib.hid h
  have hlk := h.look k hk
  have hok := getE_ok h.ok k
  have c1 := h.c1
  have hX : addX L k n = if inE L k = true then (if (getE L k).st = 0 then 9 else if n < - (getE L k).us ∨ 1073741824 - (getE L k).us < n then 1 else 0) else 2 := rfl
  have hS : addS L k n = if inE L k = true then (if (getE L k).st = 0 then L else if n < - (getE L k).us ∨ 1073741824 - (getE L k).us < n then L else setE L k ⟨(getE L k).st, (getE L k).us + n, (getE L k).ep⟩) else L := rfl
  obtain ⟨E, hE⟩ : ∃ x, getE L k = x := ⟨_, rfl⟩
  rw [hE] at hlk hok hX hS
  obtain ⟨s, u, p⟩ := E
  dsimp only at hlk hX hS
  obtain ⟨hu1, hu2⟩ := hok.us
  replace hu1 : 0 ≤ u := hu1
  replace hu2 : u ≤ 1073741824 := hu2
  have hal := (Below.refl w.heap.size w).alloc (Nat.le_refl _) (.cells #[.int .i64 s, .int .i64 u, .int .i64 p] 61)
  have hbx := heap_alloc_new w (.cells #[.int .i64 s, .int .i64 u, .int .i64 p] 61)
  have HGA := Lib.hid (World.grownBy.but (World.grownBy_alloc w (.cells #[.int .i64 s, .int .i64 u, .int .i64 p] 61) none) (some mb))
  have T1 := Lib.hid (h.below hal)
  have HTH := Lib.hid (there_any d mb L k _ T1.out)
  have HX := Lib.hid hbx
  obtain ⟨x0, x1, x2⟩ := cells3 hbx
  have wr1 : IntKind.i64.wrap (-u) = -u := IntWalk.i64_in _ (by omega)
  have wr2 : IntKind.i64.wrap (1073741824 - u) = 1073741824 - u := IntWalk.i64_in _ (by omega)
  rw [hE] at h0 hb
  replace h0 : s ≠ 0 := h0
  replace hb : n < -u ∨ 1073741824 - u < n := hb
  rw [hi] at HTH hX hS
  rw [if_pos rfl, if_neg h0, if_pos hb] at hX hS
  have d0 : (s == 0) = false := by simpa using h0
  have E1 := Lib.hid hX
  have E3 := Lib.hid hS
  clear hX hS hok hal hbx hi h hE h0
  by_cases hb1 : n < -u
  · have d1 : decide (n < -u) = true := decide_eq_true hb1
    clear hb hb1
    go_enter Try.func13, Try.ntmps13
    go_wp2_with fail
    refine HTH.out.mono ?_
    rintro e w' ⟨rfl, rfl⟩
    go_wp2_with fail
    go_ret
    exact ⟨by rw [E1.out]; rfl, by rw [E3.out]; exact T1.out, HGA.out⟩
  · have d1 : decide (n < -u) = false := decide_eq_false hb1
    have d2 : decide (1073741824 - u < n) = true := decide_eq_true (by omega)
    clear hb hb1
    go_enter Try.func13, Try.ntmps13
    go_wp2_with fail
    refine HTH.out.mono ?_
    rintro e w' ⟨rfl, rfl⟩
    go_wp2_with fail
    go_ret
    exact ⟨by rw [E1.out]; rfl, by rw [E3.out]; exact T1.out, HGA.out⟩
set_option linter.unusedSimpArgs false in
set_option linter.unusedVariables false in
set_option maxRecDepth 100000 in
set_option maxHeartbeats 2000000 in
theorem add_yes (d mb : Nat) (L : List Ent) (k n : Int) (w : World) (h : TbIn w d mb L) (hk : (Lit.int .i64 k).wf = true) (hi : inE L k = true) (h0 : (getE L k).st ≠ 0) (hb : ¬ (n < - (getE L k).us ∨ 1073741824 - (getE L k).us < n)) :
    Calls Try.prog 13 #[.pointer (some ⟨d, 0, none⟩), .int .i64 k, .int .i64 n] w fun e w' => e = .returned (.int .i64 (addX L k n)) ∧ TbIn w' d mb (addS L k n) ∧ w.grownBy w' (some mb) := by
  have HML := Lib.hid (And.intro h.lt h.map.lt)
  have HT0 := Lib.hid h
  have hlk := h.look k hk
  have hok := getE_ok h.ok k
  have c1 := h.c1
  have hX : addX L k n = if inE L k = true then (if (getE L k).st = 0 then 9 else if n < - (getE L k).us ∨ 1073741824 - (getE L k).us < n then 1 else 0) else 2 := rfl
  have hS : addS L k n = if inE L k = true then (if (getE L k).st = 0 then L else if n < - (getE L k).us ∨ 1073741824 - (getE L k).us < n then L else setE L k ⟨(getE L k).st, (getE L k).us + n, (getE L k).ep⟩) else L := rfl
  obtain ⟨E, hE⟩ : ∃ x, getE L k = x := ⟨_, rfl⟩
  rw [hE] at hlk hok hX hS
  obtain ⟨s, u, p⟩ := E
  dsimp only at hlk hX hS
  obtain ⟨hu1, hu2⟩ := hok.us
  replace hu1 : 0 ≤ u := hu1
  replace hu2 : u ≤ 1073741824 := hu2
  have hal := (Below.refl w.heap.size w).alloc (Nat.le_refl _) (.cells #[.int .i64 s, .int .i64 u, .int .i64 p] 61)
  have hbx := heap_alloc_new w (.cells #[.int .i64 s, .int .i64 u, .int .i64 p] 61)
  have HGA := Lib.hid (World.grownBy.but (World.grownBy_alloc w (.cells #[.int .i64 s, .int .i64 u, .int .i64 p] 61) none) (some mb))
  have T1 := Lib.hid (h.below hal)
  have HTH := Lib.hid (there_any d mb L k _ T1.out)
  have HX := Lib.hid hbx
  obtain ⟨x0, x1, x2⟩ := cells3 hbx
  have wr1 : IntKind.i64.wrap (-u) = -u := IntWalk.i64_in _ (by omega)
  have wr2 : IntKind.i64.wrap (1073741824 - u) = 1073741824 - u := IntWalk.i64_in _ (by omega)
  rw [hE] at h0 hb
  replace h0 : s ≠ 0 := h0
  replace hb : ¬ (n < -u ∨ 1073741824 - u < n) := hb
  rw [hi] at HTH hX hS
  rw [if_pos rfl, if_neg h0, if_neg hb] at hX hS
  have d0 : (s == 0) = false := by simpa using h0
  have d1 : decide (n < -u) = false := decide_eq_false (by omega)
  have d2 : decide (1073741824 - u < n) = false := decide_eq_false (by omega)
  have wr3 : IntKind.i64.wrap (u + n) = u + n := IntWalk.i64_in _ (by omega)
  have HIN := Lib.hid hi
  have HNZ : Hid ((⟨s, u + n, p⟩ : Ent).st ≠ 0) := h0
  have HEOK : Hid (EntOk ⟨s, u + n, p⟩) := Lib.hid ⟨fun q => absurd q h0, show 0 ≤ u + n ∧ u + n ≤ 1073741824 by omega⟩
  have hf : ∀ i, (w.alloc (.cells #[.int .i64 s, .int .i64 u, .int .i64 p] 61)).frozen? ⟨w.heap.size, i, none⟩ = false := fun i => frozen_of_row _ _ i _ _ hbx
  have E1 := Lib.hid hX
  have E3 := Lib.hid hS
  clear hX hS hok hal hbx hi h hE h0 hb
  go_enter Try.func13, Try.ntmps13
  go_wp2_with fail
  refine HTH.out.mono ?_
  rintro e w' ⟨rfl, rfl⟩
  go_wp2_with fail
  have hal2 := (Below.refl w.heap.size w).alloc (Nat.le_refl _) (.cells #[.int .i64 s, .int .i64 (u + n), .int .i64 p] 61)
  have hb2 := heap_alloc_new w (.cells #[.int .i64 s, .int .i64 (u + n), .int .i64 p] 61)
  have hg2 := World.grownBy.but (World.grownBy_alloc w (.cells #[.int .i64 s, .int .i64 (u + n), .int .i64 p] 61) none) (some mb)
  have htw := HT0.out.below hal2
  obtain ⟨w2, hw2⟩ : ∃ z, (w.alloc (.cells #[.int .i64 s, .int .i64 (u + n), .int .i64 p] 61)) = z := ⟨_, rfl⟩
  rw [hw2] at hg2 hb2 htw ⊢
  have HGW := Lib.hid hg2
  have T2 := Lib.hid htw
  have HB2 : Hid (w2.heap[w.heap.size]? = some (.cells #[.int .i64 s, .int .i64 (u + n), .int .i64 p] 61 (0, 0))) := Lib.hid hb2
  clear htw hal2
  clear hb2 hg2 hw2 T1 HX HGA HTH hlk c1 x0 x1 x2 hf d0 d1 d2 wr1 wr2 wr3
  have hrow : w2.drew.heap[d]? = some (.cells #[.int .i64 L.length, .map (some mb)] 59 (0, 0)) := T2.out.row
  have hbox : w2.drew.heap[w.heap.size]? = some (.cells #[.int .i64 s, .int .i64 (u + n), .int .i64 p] 61 (0, 0)) := HB2.out
  have htab : TbIn w2.drew d mb L := T2.out.at0 rfl
  have hgrw : World.grownBy w2 w2.drew (some mb) := ⟨rfl, rfl, rfl, Nat.le_refl _, fun _ _ _ => rfl⟩
  refine' reg_order [eqV _, eqV _, eqV _, eqV _, eqV _, eqV _, eqV _, (fun _ w => TbIn w d mb (setE L k ⟨s, (u + n), p⟩))] [(7, fun w w' => World.grownBy w w' (some mb))] [(3, fun w5 => w5.heap[d]? = some (.cells #[.int .i64 L.length, .map (some mb)] 59 (0, 0))), (6, fun w5 => w5.heap[w.heap.size]? = some (.cells #[.int .i64 s, .int .i64 (u + n), .int .i64 p] 61 (0, 0))), (7, fun w => TbIn w d mb L), (8, fun w => World.grownBy w2 w (some mb))] [20, 21, 22, 23, 24, 25, 26, 56] [[], [0], [1], [2], [], [4], [], [3, 5, 6]] [0, 1, 2, 3, 4, 5, 6, 7] 8 (by kernel_rfl) ⟨eqV_stays _, eqV_stays _, eqV_stays _, eqV_stays _, eqV_stays _, eqV_stays _, eqV_stays _, fun _ _ _ p b => TbIn.below p b, trivial⟩ ⟨⟨.inl (eqV_stays _), .inl (eqV_stays _), .inl (eqV_stays _), .inl (eqV_stays _), .inl (eqV_stays _), .inl (eqV_stays _), .inl (eqV_stays _), .inr (.inr rfl), trivial⟩, trivial⟩ ⟨fun _ _ p b => row_keep p b, fun _ _ p b => row_keep p b, fun _ _ p b => TbIn.below p b, fun _ _ p b => grownB p b, trivial⟩ ⟨⟨.inr (.inl (by kernel_rfl)), .inr (.inl (by kernel_rfl)), .inr (.inr rfl), .inl (fun _ _ p g => grown_one p g), trivial⟩, trivial⟩ ⟨hrow, hbox, htab, hgrw, trivial⟩ 49 rfl (by kernel_rfl) (by kernel_rfl) rfl rfl 8 rfl ?q1obl ?q1fin
  case q1obl =>
    refine And.intro ?q1o0 (And.intro ?q1o1 (And.intro ?q1o2 (And.intro ?q1o3 (And.intro ?q1o4 (And.intro ?q1o5 (And.intro ?q1o6 (And.intro ?q1o7 (True.intro))))))))
    case q1o0 =>
      intro w1 hI
      refine turn2_on (by rfl) ?_
      intro K hK
      go_simp
      refine hK _ _ ⟨rfl, Kept.refl _, ?_⟩
      show _ = _
      simp only [List.getD_cons_zero, List.getD_cons_succ, Array.getD_eq_getD_getElem?, List.getElem?_toArray, List.getElem?_cons_zero, List.getElem?_cons_succ, Option.getD_some]
      rfl
    case q1o1 =>
      intro w1 hI
      intro v0 h0
      change _ = _ at h0
      subst v0
      refine turn2_on (by rfl) ?_
      intro K hK
      simp only [List.getD_cons_zero, List.getD_cons_succ, List.setIfInBounds_toArray, List.set_cons_zero, List.set_cons_succ]
      go_simp
      refine hK _ _ ⟨rfl, Kept.refl _, ?_⟩
      show _ = _
      simp only [List.getD_cons_zero, List.getD_cons_succ, Array.getD_eq_getD_getElem?, List.getElem?_toArray, List.getElem?_cons_zero, List.getElem?_cons_succ, Option.getD_some]
      rfl
    case q1o2 =>
      intro w1 hI
      intro v1 h1
      change _ = _ at h1
      subst v1
      refine turn2_on (by rfl) ?_
      intro K hK
      simp only [List.getD_cons_zero, List.getD_cons_succ, List.setIfInBounds_toArray, List.set_cons_zero, List.set_cons_succ]
      go_simp
      refine hK _ _ ⟨rfl, Kept.refl _, ?_⟩
      show _ = _
      simp only [List.getD_cons_zero, List.getD_cons_succ, Array.getD_eq_getD_getElem?, List.getElem?_toArray, List.getElem?_cons_zero, List.getElem?_cons_succ, Option.getD_some]
      rfl
    case q1o3 =>
      intro w1 hI
      replace hI : (fun w5 => w5.heap[d]? = some (.cells #[.int .i64 L.length, .map (some mb)] 59 (0, 0))) w1 := hI
      intro v2 h2
      change _ = _ at h2
      subst v2
      refine turn2_on (by rfl) ?_
      intro K hK
      simp only [List.getD_cons_zero, List.getD_cons_succ, List.setIfInBounds_toArray, List.set_cons_zero, List.set_cons_succ]
      have c1 : w1.cell? ⟨d, 1, none⟩ = some (.map (some mb)) := cell_of_row w1 d 1 _ _ _ hI
      go_simp
      refine hK _ _ ⟨rfl, Kept.refl _, ?_⟩
      show _ = _
      simp only [List.getD_cons_zero, List.getD_cons_succ, Array.getD_eq_getD_getElem?, List.getElem?_toArray, List.getElem?_cons_zero, List.getElem?_cons_succ, Option.getD_some]
      rfl
    case q1o4 =>
      intro w1 hI
      refine turn2_on (by rfl) ?_
      intro K hK
      go_simp
      refine hK _ _ ⟨rfl, Kept.refl _, ?_⟩
      show _ = _
      simp only [List.getD_cons_zero, List.getD_cons_succ, Array.getD_eq_getD_getElem?, List.getElem?_toArray, List.getElem?_cons_zero, List.getElem?_cons_succ, Option.getD_some]
      rfl
    case q1o5 =>
      intro w1 hI
      intro v4 h4
      change _ = _ at h4
      subst v4
      refine turn2_on (by rfl) ?_
      intro K hK
      simp only [List.getD_cons_zero, List.getD_cons_succ, List.setIfInBounds_toArray, List.set_cons_zero, List.set_cons_succ]
      go_simp
      refine hK _ _ ⟨rfl, Kept.refl _, ?_⟩
      show _ = _
      simp only [List.getD_cons_zero, List.getD_cons_succ, Array.getD_eq_getD_getElem?, List.getElem?_toArray, List.getElem?_cons_zero, List.getElem?_cons_succ, Option.getD_some]
      rfl
    case q1o6 =>
      intro w1 hI
      replace hI : (fun w5 => w5.heap[w.heap.size]? = some (.cells #[.int .i64 s, .int .i64 (u + n), .int .i64 p] 61 (0, 0))) w1 := hI
      refine turn2_on (by rfl) ?_
      intro K hK
      obtain ⟨x0, x1, x2⟩ := cells3 hI
      go_simp
      refine hK _ _ ⟨rfl, Kept.refl _, ?_⟩
      show _ = _
      simp only [List.getD_cons_zero, List.getD_cons_succ, Array.getD_eq_getD_getElem?, List.getElem?_toArray, List.getElem?_cons_zero, List.getElem?_cons_succ, Option.getD_some]
      rfl
    case q1o7 =>
      intro w1 hI
      replace hI : (fun w => TbIn w d mb L) w1 := hI
      intro v3 h3
      change _ = _ at h3
      subst v3
      intro v5 h5
      change _ = _ at h5
      subst v5
      intro v6 h6
      change _ = _ at h6
      subst v6
      refine turn2_on (by rfl) ?_
      intro K hK
      simp only [List.getD_cons_zero, List.getD_cons_succ, List.setIfInBounds_toArray, List.set_cons_zero, List.set_cons_succ]
      obtain ⟨w3, hrun, hmp, hg⟩ := TbIn.put hI k ⟨s, (u + n), p⟩ HIN.out HNZ.out HEOK.out
      dsimp only at hrun
      go_simp
      refine hK _ _ ⟨rfl, hg, ?_⟩
      exact hmp
  intro w4 hI
  replace hI : (fun w => World.grownBy w2 w (some mb)) w4 := hI
  intro v0 h0
  change _ = _ at h0
  subst v0
  intro v1 h1
  change _ = _ at h1
  subst v1
  intro v2 h2
  change _ = _ at h2
  subst v2
  intro v3 h3
  change _ = _ at h3
  subst v3
  intro v4 h4
  change _ = _ at h4
  subst v4
  intro v5 h5
  change _ = _ at h5
  subst v5
  intro v6 h6
  change _ = _ at h6
  subst v6
  intro v7 h7
  simp only [Given, List.getD_cons_zero, List.getD_cons_succ, List.setIfInBounds_toArray, List.set_cons_zero, List.set_cons_succ]
  have HF := Lib.hid h7
  have HG := Lib.hid hI
  clear h7 hI
  go_wp2
  go_ret
  exact ⟨by rw [E1.out]; rfl, by rw [E3.out]; exact HF.out, World.grownBy.andThen HGW.out HG.out (fun j e => .inr e)⟩
set_option maxRecDepth 100000 in
theorem add_any (d mb : Nat) (L : List Ent) (k n : Int) (w : World) (h : TbIn w d mb L) (hk : (Lit.int .i64 k).wf = true) :
    Calls Try.prog 13 #[.pointer (some ⟨d, 0, none⟩), .int .i64 k, .int .i64 n] w fun e w' => e = .returned (.int .i64 (addX L k n)) ∧ TbIn w' d mb (addS L k n) ∧ w.grownBy w' (some mb) := by
  cases hi : inE L k with
  | false => exact add_out d mb L k n w h hk hi
  | true =>
    by_cases h0 : (getE L k).st = 0
    · exact add_free d mb L k n w h hk hi h0
    · by_cases hb : n < - (getE L k).us ∨ 1073741824 - (getE L k).us < n
      · exact add_no d mb L k n w h hk hi h0 hb
      · exact add_yes d mb L k n w h hk hi h0 hb
end Go.Proofs.Ythikpggndjfeaaa
