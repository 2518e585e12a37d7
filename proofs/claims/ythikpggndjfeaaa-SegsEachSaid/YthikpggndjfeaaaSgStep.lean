/- segs: an act on both tables. -/
import Derived.Test.YthikpggndjfeaaaSgRl
import Derived.Test.YthikpggndjfeaaaSgRel
import Derived.Test.YthikpggndjfeaaaOpenSg
import Derived.BigQuiet
import Derived.Deep.Light
namespace Go.Proofs.Ythikpggndjfeaaa
open Go.RowKit
theorem cells4a {w : World} {b T : Nat} {x0 x1 x2 x3 : Value} (h : w.heap[b]? = some (.cells #[x0, x1, x2, x3] T (0, 0))) : w.cell? ⟨b, 0, none⟩ = some x0 ∧ w.cell? ⟨b, 1, none⟩ = some x1 ∧ w.cell? ⟨b, 2, none⟩ = some x2 ∧ w.cell? ⟨b, 3, none⟩ = some x3 :=
  ⟨cell_of_row w b 0 _ _ _ h, cell_of_row w b 1 _ _ _ h, cell_of_row w b 2 _ _ _ h, cell_of_row w b 3 _ _ _ h⟩
/-- Nothing that was there has turned but two blocks. -/
structure Tw (mb g : Nat) (w w' : World) : Prop where
  os : w'.os = w.os
  tape : w'.tape = w.tape
  output : w'.output = w.output
  size : w.heap.size ≤ w'.heap.size
  block : ∀ k, k < w.heap.size → k ≠ mb → k ≠ g → w'.heap[k]? = w.heap[k]?
section
variable {mb g : Nat} {w w1 w2 : World}
theorem Tw.of_below (h : Below w.heap.size w w1) : Tw mb g w w1 := ⟨h.os, h.tape, h.output, h.size, fun k hk _ _ => h.block k hk⟩
theorem Tw.trans (h : Tw mb g w w1) (k : Tw mb g w1 w2) : Tw mb g w w2 :=
  ⟨k.os.trans h.os, k.tape.trans h.tape, k.output.trans h.output, Nat.le_trans h.size k.size, fun i hi a b => (k.block i (Nat.lt_of_lt_of_le hi h.size) a b).trans (h.block i hi a b)⟩
theorem Tw.below (h : Tw mb g w w1) (k : Below w1.heap.size w1 w2) : Tw mb g w w2 := h.trans (Tw.of_below k)
theorem Tw.lft (h : Tw mb g w w1) (k : w1.grownBy w2 (some mb)) : Tw mb g w w2 := h.trans ⟨k.os, k.tape, k.output, k.size, fun i hi a _ => k.block i hi (fun e => a (by injection e))⟩
theorem Tw.rgt (h : Tw mb g w w1) (k : w1.grownBy w2 (some g)) : Tw mb g w w2 := h.trans ⟨k.os, k.tape, k.output, k.size, fun i hi _ b => k.block i hi (fun e => b (by injection e))⟩
end
theorem apart {w : World} {d mb rd g : Nat} {L M : List Ent} (h : TbIn w d mb L) (k : RtIn w rd g M) : d ≠ g ∧ mb ≠ g ∧ rd ≠ mb ∧ g ≠ mb := by
  obtain ⟨es, c, hb, _⟩ := h.map.all
  refine ⟨fun e => ?_, fun e => ?_, fun e => ?_, fun e => ?_⟩
  · have h1 := h.row
    rw [e, k.seg] at h1
    injection h1 with h1
    injection h1 with _ h1
    exact absurd h1 (by decide)
  · rw [e, k.seg] at hb
    cases hb
  · have h1 := k.row
    rw [e, hb] at h1
    cases h1
  · have h1 := k.seg
    rw [e, hb] at h1
    cases h1
set_option linter.unusedSimpArgs false in
set_option linter.unusedVariables false in
set_option maxRecDepth 100000 in
set_option maxHeartbeats 2000000 in
theorem step_take (d mb rd g : Nat) (L : List Ent) (op ky E N : Int) (w : World) (ht : TbIn w d mb L) (hr : RtIn w rd g L) (hk : (Lit.int .i64 ky).wf = true) (ho : op = 1) :
    Calls Try.prog 19 #[.pointer (some ⟨d, 0, none⟩), .pointer (some ⟨rd, 0, none⟩), .agg #[.int .i64 op, .int .i64 ky, .int .i64 E, .int .i64 N]] w fun e w' => e = .returned (.bool true) ∧ TbIn w' d mb (takeS L) ∧ RtIn w' rd g (takeS L) ∧ Tw mb g w w' := by
  have hba := (Below.refl w.heap.size w).alloc (Nat.le_refl _) (.cells #[.int .i64 op, .int .i64 ky, .int .i64 E, .int .i64 N] 33)
  have hrow := heap_alloc_new w (.cells #[.int .i64 op, .int .i64 ky, .int .i64 E, .int .i64 N] 33)
  obtain ⟨w2, hw2⟩ : ∃ z, w.alloc (.cells #[.int .i64 op, .int .i64 ky, .int .i64 E, .int .i64 N] 33) = z := ⟨_, rfl⟩
  obtain ⟨ab, hab⟩ : ∃ z, w.heap.size = z := ⟨_, rfl⟩
  have T2 := ht.below hba
  have R2 := hr.below hba
  have NAM : ab ≠ mb := fun e => by have := ht.map.lt; omega
  have NAG : ab ≠ g := fun e => by have := hr.lt2; omega
  have HTW := Lib.hid (Tw.of_below (mb := mb) (g := g) hba)
  rw [hw2] at hba hrow T2 R2 HTW
  rw [hab] at hrow
  obtain ⟨NDG, NMG, NRM, NGM⟩ := apart T2 R2
  obtain ⟨y0, y1, y2, y3⟩ := cells4a hrow
  have HT := Lib.hid T2
  have HR := Lib.hid R2
  have HA := Lib.hid hrow
  have HAB := Lib.hid hab
  have HW2 := Lib.hid hw2
  subst ho
  clear hba hrow T2 R2 hab hw2 ht hr
  go_enter Try.func19, Try.ntmps19
  go_wp2_with (first | (rw [HW2.out, HAB.out]) | fail)
  refine (take_any d mb L w2 HT.out).mono ?_
  rintro e w3 ⟨rfl, ht, hg⟩
  have HT3 := Lib.hid ht
  have HR3 := Lib.hid (HR.out.grown hg (fun e => NRM (by injection e)) (fun e => NGM (by injection e)))
  have HW3 := Lib.hid (HTW.out.lft hg)
  clear ht hg y0 y1 y2 y3
  go_wp2_with fail
  refine (reftake_any rd g L w3 HR3.out).mono ?_
  rintro e w4 ⟨rfl, hr, hg⟩
  have HR4 := Lib.hid hr
  have HT4 := Lib.hid (HT3.out.grown hg (fun e => NDG (by injection e)) (fun e => NMG (by injection e)))
  have HW4 := Lib.hid (HW3.out.rgt hg)
  clear hr hg
  go_wp2_with fail
  go_ret
  exact ⟨rfl, HT4.out, HR4.out, HW4.out⟩
set_option linter.unusedSimpArgs false in
set_option linter.unusedVariables false in
set_option maxRecDepth 100000 in
set_option maxHeartbeats 2000000 in
theorem step_fill (d mb rd g : Nat) (L : List Ent) (op ky E N : Int) (w : World) (ht : TbIn w d mb L) (hr : RtIn w rd g L) (hk : (Lit.int .i64 ky).wf = true) (ho : op = 2) :
    Calls Try.prog 19 #[.pointer (some ⟨d, 0, none⟩), .pointer (some ⟨rd, 0, none⟩), .agg #[.int .i64 op, .int .i64 ky, .int .i64 E, .int .i64 N]] w fun e w' => e = .returned (.bool true) ∧ TbIn w' d mb (fillS L ky) ∧ RtIn w' rd g (fillS L ky) ∧ Tw mb g w w' := by
  have hba := (Below.refl w.heap.size w).alloc (Nat.le_refl _) (.cells #[.int .i64 op, .int .i64 ky, .int .i64 E, .int .i64 N] 33)
  have hrow := heap_alloc_new w (.cells #[.int .i64 op, .int .i64 ky, .int .i64 E, .int .i64 N] 33)
  obtain ⟨w2, hw2⟩ : ∃ z, w.alloc (.cells #[.int .i64 op, .int .i64 ky, .int .i64 E, .int .i64 N] 33) = z := ⟨_, rfl⟩
  obtain ⟨ab, hab⟩ : ∃ z, w.heap.size = z := ⟨_, rfl⟩
  have T2 := ht.below hba
  have R2 := hr.below hba
  have NAM : ab ≠ mb := fun e => by have := ht.map.lt; omega
  have NAG : ab ≠ g := fun e => by have := hr.lt2; omega
  have HTW := Lib.hid (Tw.of_below (mb := mb) (g := g) hba)
  rw [hw2] at hba hrow T2 R2 HTW
  rw [hab] at hrow
  obtain ⟨NDG, NMG, NRM, NGM⟩ := apart T2 R2
  obtain ⟨y0, y1, y2, y3⟩ := cells4a hrow
  have HT := Lib.hid T2
  have HR := Lib.hid R2
  have HA := Lib.hid hrow
  have HAB := Lib.hid hab
  have HW2 := Lib.hid hw2
  have HK := Lib.hid hk
  subst ho
  clear hba hrow T2 R2 hab hw2 ht hr
  go_enter Try.func19, Try.ntmps19
  go_wp2_with (first | (rw [HW2.out, HAB.out]) | fail)
  have hbox : w2.drew.heap[ab]? = some (.cells #[.int .i64 2, .int .i64 ky, .int .i64 E, .int .i64 N] 33 (0, 0)) := HA.out
  have htab : TbIn w2.drew d mb L := HT.out.at0 rfl
  have hrt : RtIn w2.drew rd g L := HR.out.below (w' := w2.drew) ⟨rfl, rfl, rfl, Nat.le_refl _, fun _ _ => rfl⟩
  have htw : Tw mb g w2 w2.drew := Tw.of_below ⟨rfl, rfl, rfl, Nat.le_refl _, fun _ _ => rfl⟩
  clear y0 y1 y2 y3
  refine' reg_order [eqV _, eqV _, eqV _, (fun v w5 => v = .int .i64 (fillX L ky) ∧ TbIn w5 d mb (fillS L ky)), eqV _, eqV _, eqV _, (fun v w5 => v = .int .i64 (fillX L ky) ∧ RtIn w5 rd g (fillS L ky)), eqV _, eqV _] [(3, fun w w' => World.grownBy w w' (some mb)), (7, fun w w' => World.grownBy w w' (some g))] [(2, fun w5 => w5.heap[ab]? = some (.cells #[.int .i64 2, .int .i64 ky, .int .i64 E, .int .i64 N] 33 (0, 0))), (3, fun w5 => TbIn w5 d mb L), (6, fun w5 => w5.heap[ab]? = some (.cells #[.int .i64 2, .int .i64 ky, .int .i64 E, .int .i64 N] 33 (0, 0))), (7, fun w5 => RtIn w5 rd g L), (10, fun w5 => Tw mb g w2 w5)] [38, 39, 40, 41, 42, 43, 44, 45, 46, 6] [[], [], [1], [0, 2], [], [], [5], [4, 6], [3, 7], [8]] [0, 1, 2, 3, 4, 5, 6, 7, 8, 9] 10 (by kernel_rfl) ⟨eqV_stays _, eqV_stays _, eqV_stays _, fun _ _ _ p b => ⟨p.1, TbIn.below p.2 b⟩, eqV_stays _, eqV_stays _, eqV_stays _, fun _ _ _ p b => ⟨p.1, RtIn.below p.2 b⟩, eqV_stays _, eqV_stays _, trivial⟩ ⟨⟨.inl (eqV_stays _), .inl (eqV_stays _), .inl (eqV_stays _), .inr (.inr rfl), .inl (eqV_stays _), .inl (eqV_stays _), .inl (eqV_stays _), .inr (.inl (by kernel_rfl)), .inl (eqV_stays _), .inl (eqV_stays _), trivial⟩, ⟨.inl (eqV_stays _), .inl (eqV_stays _), .inl (eqV_stays _), .inl (fun _ _ _ p q => ⟨p.1, TbIn.grown p.2 q (fun e => NDG (by injection e)) (fun e => NMG (by injection e))⟩), .inl (eqV_stays _), .inl (eqV_stays _), .inl (eqV_stays _), .inr (.inr rfl), .inl (eqV_stays _), .inl (eqV_stays _), trivial⟩, trivial⟩ ⟨fun _ _ p b => row_keep p b, fun _ _ p b => TbIn.below p b, fun _ _ p b => row_keep p b, fun _ _ p b => RtIn.below p b, fun _ _ p b => Tw.below p b, trivial⟩ ⟨⟨.inr (.inl (by kernel_rfl)), .inr (.inr rfl), .inl (fun _ _ p q => (World.grownBy.block q ab (Array.getElem?_eq_some_iff.1 p).1 (fun e => NAM (by injection e))).trans p), .inl (fun _ _ p q => RtIn.grown p q (fun e => NRM (by injection e)) (fun e => NGM (by injection e))), .inl (fun _ _ p q => Tw.lft p q), trivial⟩, ⟨.inr (.inl (by kernel_rfl)), .inr (.inl (by kernel_rfl)), .inr (.inl (by kernel_rfl)), .inr (.inr rfl), .inl (fun _ _ p q => Tw.rgt p q), trivial⟩, trivial⟩ ⟨hbox, htab, hbox, hrt, htw, trivial⟩ 107 rfl (by kernel_rfl) (by kernel_rfl) rfl rfl 10 rfl ?q1obl ?q1fin
  case q1obl =>
    refine And.intro ?q1o0 (And.intro ?q1o1 (And.intro ?q1o2 (And.intro ?q1o3 (And.intro ?q1o4 (And.intro ?q1o5 (And.intro ?q1o6 (And.intro ?q1o7 (And.intro ?q1o8 (And.intro ?q1o9 (True.intro))))))))))
    case q1o0 =>
      intro w1 hI
      go_light
      refine turn2_on (by rfl) ?_
      intro K hK
      go_simp
      refine hK _ _ ⟨rfl, Kept.refl _, ?_⟩
      show _ = _
      simp only [List.getD_cons_zero, List.getD_cons_succ, Array.getD_eq_getD_getElem?, List.getElem?_toArray, List.getElem?_cons_zero, List.getElem?_cons_succ, Option.getD_some]
      rfl
    case q1o1 =>
      intro w1 hI
      go_light
      refine turn2_on (by rfl) ?_
      intro K hK
      go_simp
      refine hK _ _ ⟨rfl, Kept.refl _, ?_⟩
      show _ = _
      simp only [List.getD_cons_zero, List.getD_cons_succ, Array.getD_eq_getD_getElem?, List.getElem?_toArray, List.getElem?_cons_zero, List.getElem?_cons_succ, Option.getD_some]
      rfl
    case q1o2 =>
      intro w1 hI
      go_light
      replace hI : (fun w5 => w5.heap[ab]? = some (.cells #[.int .i64 2, .int .i64 ky, .int .i64 E, .int .i64 N] 33 (0, 0))) w1 := hI
      intro v1 h1
      change _ = _ at h1
      subst v1
      refine turn2_on (by rfl) ?_
      intro K hK
      simp only [List.getD_cons_zero, List.getD_cons_succ, List.setIfInBounds_toArray, List.set_cons_zero, List.set_cons_succ]
      obtain ⟨y0, y1, y2, y3⟩ := cells4a hI
      go_simp
      refine hK _ _ ⟨rfl, Kept.refl _, ?_⟩
      show _ = _
      simp only [List.getD_cons_zero, List.getD_cons_succ, Array.getD_eq_getD_getElem?, List.getElem?_toArray, List.getElem?_cons_zero, List.getElem?_cons_succ, Option.getD_some]
      rfl
    case q1o3 =>
      intro w1 hI
      go_light
      replace hI : (fun w5 => TbIn w5 d mb L) w1 := hI
      intro v0 h0
      change _ = _ at h0
      subst v0
      intro v2 h2
      change _ = _ at h2
      subst v2
      refine turn2_on (by rfl) ?_
      intro K hK
      simp only [List.getD_cons_zero, List.getD_cons_succ, List.setIfInBounds_toArray, List.set_cons_zero, List.set_cons_succ]
      go_simp
      refine Calls.mono (fill_any d mb L ky w1 hI) ?_
      rintro e w9 ⟨rfl, ht9, hg9⟩
      refine hK _ _ ⟨rfl, hg9, ?_⟩
      refine ⟨?_, ht9⟩
      simp only [List.getD_cons_zero, List.getD_cons_succ, Array.getD_eq_getD_getElem?, List.getElem?_toArray, List.getElem?_cons_zero, List.getElem?_cons_succ, Option.getD_some]
    case q1o4 =>
      intro w1 hI
      go_light
      refine turn2_on (by rfl) ?_
      intro K hK
      go_simp
      refine hK _ _ ⟨rfl, Kept.refl _, ?_⟩
      show _ = _
      simp only [List.getD_cons_zero, List.getD_cons_succ, Array.getD_eq_getD_getElem?, List.getElem?_toArray, List.getElem?_cons_zero, List.getElem?_cons_succ, Option.getD_some]
      rfl
    case q1o5 =>
      intro w1 hI
      go_light
      refine turn2_on (by rfl) ?_
      intro K hK
      go_simp
      refine hK _ _ ⟨rfl, Kept.refl _, ?_⟩
      show _ = _
      simp only [List.getD_cons_zero, List.getD_cons_succ, Array.getD_eq_getD_getElem?, List.getElem?_toArray, List.getElem?_cons_zero, List.getElem?_cons_succ, Option.getD_some]
      rfl
    case q1o6 =>
      intro w1 hI
      go_light
      replace hI : (fun w5 => w5.heap[ab]? = some (.cells #[.int .i64 2, .int .i64 ky, .int .i64 E, .int .i64 N] 33 (0, 0))) w1 := hI
      intro v5 h5
      change _ = _ at h5
      subst v5
      refine turn2_on (by rfl) ?_
      intro K hK
      simp only [List.getD_cons_zero, List.getD_cons_succ, List.setIfInBounds_toArray, List.set_cons_zero, List.set_cons_succ]
      obtain ⟨y0, y1, y2, y3⟩ := cells4a hI
      go_simp
      refine hK _ _ ⟨rfl, Kept.refl _, ?_⟩
      show _ = _
      simp only [List.getD_cons_zero, List.getD_cons_succ, Array.getD_eq_getD_getElem?, List.getElem?_toArray, List.getElem?_cons_zero, List.getElem?_cons_succ, Option.getD_some]
      rfl
    case q1o7 =>
      intro w1 hI
      go_light
      replace hI : (fun w5 => RtIn w5 rd g L) w1 := hI
      intro v4 h4
      change _ = _ at h4
      subst v4
      intro v6 h6
      change _ = _ at h6
      subst v6
      refine turn2_on (by rfl) ?_
      intro K hK
      simp only [List.getD_cons_zero, List.getD_cons_succ, List.setIfInBounds_toArray, List.set_cons_zero, List.set_cons_succ]
      go_simp
      refine Calls.mono (reffill_any rd g L ky w1 hI) ?_
      rintro e w9 ⟨rfl, ht9, hg9⟩
      refine hK _ _ ⟨rfl, hg9, ?_⟩
      refine ⟨?_, ht9⟩
      simp only [List.getD_cons_zero, List.getD_cons_succ, Array.getD_eq_getD_getElem?, List.getElem?_toArray, List.getElem?_cons_zero, List.getElem?_cons_succ, Option.getD_some]
    case q1o8 =>
      intro w1 hI
      go_light
      intro v3 h3
      obtain ⟨rfl, h3⟩ := h3
      intro v7 h7
      obtain ⟨rfl, h7⟩ := h7
      refine turn2_on (by rfl) ?_
      intro K hK
      simp only [List.getD_cons_zero, List.getD_cons_succ, List.setIfInBounds_toArray, List.set_cons_zero, List.set_cons_succ]
      go_simp
      refine hK _ _ ⟨rfl, Kept.refl _, ?_⟩
      show _ = _
      simp only [List.getD_cons_zero, List.getD_cons_succ, Array.getD_eq_getD_getElem?, List.getElem?_toArray, List.getElem?_cons_zero, List.getElem?_cons_succ, Option.getD_some]
      rfl
    case q1o9 =>
      intro w1 hI
      go_light
      intro v8 h8
      change _ = _ at h8
      subst v8
      refine turn2_on (by rfl) ?_
      intro K hK
      simp only [List.getD_cons_zero, List.getD_cons_succ, List.setIfInBounds_toArray, List.set_cons_zero, List.set_cons_succ]
      go_simp
      refine hK _ _ ⟨rfl, Kept.refl _, ?_⟩
      show _ = _
      simp only [List.getD_cons_zero, List.getD_cons_succ, Array.getD_eq_getD_getElem?, List.getElem?_toArray, List.getElem?_cons_zero, List.getElem?_cons_succ, Option.getD_some]
      rfl
  intro w4 hI
  replace hI : (fun w5 => Tw mb g w2 w5) w4 := hI
  intro v0 h0
  change _ = _ at h0
  subst v0
  intro v1 h1
  change _ = _ at h1
  subst v1
  intro v2 h2
  change _ = _ at h2
  subst v2
  intro v3 h3
  obtain ⟨rfl, h3⟩ := h3
  intro v4 h4
  change _ = _ at h4
  subst v4
  intro v5 h5
  change _ = _ at h5
  subst v5
  intro v6 h6
  change _ = _ at h6
  subst v6
  intro v7 h7
  obtain ⟨rfl, h7⟩ := h7
  intro v8 h8
  change _ = _ at h8
  subst v8
  intro v9 h9
  change _ = _ at h9
  subst v9
  simp only [Given, List.getD_cons_zero, List.getD_cons_succ, List.setIfInBounds_toArray, List.set_cons_zero, List.set_cons_succ]
  have HF1 := Lib.hid h3
  have HF2 := Lib.hid h7
  have HF3 := Lib.hid (HTW.out.trans hI)
  clear h3 h7 hI hbox htab hrt htw
  go_wp2_with fail
  go_ret
  exact ⟨rfl, HF1.out, HF2.out, HF3.out⟩
set_option linter.unusedSimpArgs false in
set_option linter.unusedVariables false in
set_option maxRecDepth 100000 in
set_option maxHeartbeats 2000000 in
theorem step_hold (d mb rd g : Nat) (L : List Ent) (op ky E N : Int) (w : World) (ht : TbIn w d mb L) (hr : RtIn w rd g L) (hk : (Lit.int .i64 ky).wf = true) (ho : op = 3) :
    Calls Try.prog 19 #[.pointer (some ⟨d, 0, none⟩), .pointer (some ⟨rd, 0, none⟩), .agg #[.int .i64 op, .int .i64 ky, .int .i64 E, .int .i64 N]] w fun e w' => e = .returned (.bool true) ∧ TbIn w' d mb (holdS L ky E) ∧ RtIn w' rd g (holdS L ky E) ∧ Tw mb g w w' := by
  have hba := (Below.refl w.heap.size w).alloc (Nat.le_refl _) (.cells #[.int .i64 op, .int .i64 ky, .int .i64 E, .int .i64 N] 33)
  have hrow := heap_alloc_new w (.cells #[.int .i64 op, .int .i64 ky, .int .i64 E, .int .i64 N] 33)
  obtain ⟨w2, hw2⟩ : ∃ z, w.alloc (.cells #[.int .i64 op, .int .i64 ky, .int .i64 E, .int .i64 N] 33) = z := ⟨_, rfl⟩
  obtain ⟨ab, hab⟩ : ∃ z, w.heap.size = z := ⟨_, rfl⟩
  have T2 := ht.below hba
  have R2 := hr.below hba
  have NAM : ab ≠ mb := fun e => by have := ht.map.lt; omega
  have NAG : ab ≠ g := fun e => by have := hr.lt2; omega
  have HTW := Lib.hid (Tw.of_below (mb := mb) (g := g) hba)
  rw [hw2] at hba hrow T2 R2 HTW
  rw [hab] at hrow
  obtain ⟨NDG, NMG, NRM, NGM⟩ := apart T2 R2
  obtain ⟨y0, y1, y2, y3⟩ := cells4a hrow
  have HT := Lib.hid T2
  have HR := Lib.hid R2
  have HA := Lib.hid hrow
  have HAB := Lib.hid hab
  have HW2 := Lib.hid hw2
  have HK := Lib.hid hk
  subst ho
  clear hba hrow T2 R2 hab hw2 ht hr
  go_enter Try.func19, Try.ntmps19
  go_wp2_with (first | (rw [HW2.out, HAB.out]) | fail)
  have hbox : w2.drew.heap[ab]? = some (.cells #[.int .i64 3, .int .i64 ky, .int .i64 E, .int .i64 N] 33 (0, 0)) := HA.out
  have htab : TbIn w2.drew d mb L := HT.out.at0 rfl
  have hrt : RtIn w2.drew rd g L := HR.out.below (w' := w2.drew) ⟨rfl, rfl, rfl, Nat.le_refl _, fun _ _ => rfl⟩
  have htw : Tw mb g w2 w2.drew := Tw.of_below ⟨rfl, rfl, rfl, Nat.le_refl _, fun _ _ => rfl⟩
  clear y0 y1 y2 y3
  refine' reg_order [eqV _, eqV _, eqV _, eqV _, eqV _, (fun v w5 => v = .int .i64 (holdX L ky) ∧ TbIn w5 d mb (holdS L ky E)), eqV _, eqV _, eqV _, eqV _, eqV _, (fun v w5 => v = .int .i64 (holdX L ky) ∧ RtIn w5 rd g (holdS L ky E)), eqV _, eqV _] [(5, fun w w' => World.grownBy w w' (some mb)), (11, fun w w' => World.grownBy w w' (some g))] [(2, fun w5 => w5.heap[ab]? = some (.cells #[.int .i64 3, .int .i64 ky, .int .i64 E, .int .i64 N] 33 (0, 0))), (4, fun w5 => w5.heap[ab]? = some (.cells #[.int .i64 3, .int .i64 ky, .int .i64 E, .int .i64 N] 33 (0, 0))), (5, fun w5 => TbIn w5 d mb L), (8, fun w5 => w5.heap[ab]? = some (.cells #[.int .i64 3, .int .i64 ky, .int .i64 E, .int .i64 N] 33 (0, 0))), (10, fun w5 => w5.heap[ab]? = some (.cells #[.int .i64 3, .int .i64 ky, .int .i64 E, .int .i64 N] 33 (0, 0))), (11, fun w5 => RtIn w5 rd g L), (14, fun w5 => Tw mb g w2 w5)] [49, 50, 51, 52, 53, 54, 55, 56, 57, 58, 59, 60, 61, 6] [[], [], [1], [], [3], [0, 2, 4], [], [], [7], [], [9], [6, 8, 10], [5, 11], [12]] [0, 1, 2, 3, 4, 5, 6, 7, 8, 9, 10, 11, 12, 13] 14 (by kernel_rfl) ⟨eqV_stays _, eqV_stays _, eqV_stays _, eqV_stays _, eqV_stays _, fun _ _ _ p b => ⟨p.1, TbIn.below p.2 b⟩, eqV_stays _, eqV_stays _, eqV_stays _, eqV_stays _, eqV_stays _, fun _ _ _ p b => ⟨p.1, RtIn.below p.2 b⟩, eqV_stays _, eqV_stays _, trivial⟩ ⟨⟨.inl (eqV_stays _), .inl (eqV_stays _), .inl (eqV_stays _), .inl (eqV_stays _), .inl (eqV_stays _), .inr (.inr rfl), .inl (eqV_stays _), .inl (eqV_stays _), .inl (eqV_stays _), .inl (eqV_stays _), .inl (eqV_stays _), .inr (.inl (by kernel_rfl)), .inl (eqV_stays _), .inl (eqV_stays _), trivial⟩, ⟨.inl (eqV_stays _), .inl (eqV_stays _), .inl (eqV_stays _), .inl (eqV_stays _), .inl (eqV_stays _), .inl (fun _ _ _ p q => ⟨p.1, TbIn.grown p.2 q (fun e => NDG (by injection e)) (fun e => NMG (by injection e))⟩), .inl (eqV_stays _), .inl (eqV_stays _), .inl (eqV_stays _), .inl (eqV_stays _), .inl (eqV_stays _), .inr (.inr rfl), .inl (eqV_stays _), .inl (eqV_stays _), trivial⟩, trivial⟩ ⟨fun _ _ p b => row_keep p b, fun _ _ p b => row_keep p b, fun _ _ p b => TbIn.below p b, fun _ _ p b => row_keep p b, fun _ _ p b => row_keep p b, fun _ _ p b => RtIn.below p b, fun _ _ p b => Tw.below p b, trivial⟩ ⟨⟨.inr (.inl (by kernel_rfl)), .inr (.inl (by kernel_rfl)), .inr (.inr rfl), .inl (fun _ _ p q => (World.grownBy.block q ab (Array.getElem?_eq_some_iff.1 p).1 (fun e => NAM (by injection e))).trans p), .inl (fun _ _ p q => (World.grownBy.block q ab (Array.getElem?_eq_some_iff.1 p).1 (fun e => NAM (by injection e))).trans p), .inl (fun _ _ p q => RtIn.grown p q (fun e => NRM (by injection e)) (fun e => NGM (by injection e))), .inl (fun _ _ p q => Tw.lft p q), trivial⟩, ⟨.inr (.inl (by kernel_rfl)), .inr (.inl (by kernel_rfl)), .inr (.inl (by kernel_rfl)), .inr (.inl (by kernel_rfl)), .inr (.inl (by kernel_rfl)), .inr (.inr rfl), .inl (fun _ _ p q => Tw.rgt p q), trivial⟩, trivial⟩ ⟨hbox, hbox, htab, hbox, hbox, hrt, htw, trivial⟩ 107 rfl (by kernel_rfl) (by kernel_rfl) rfl rfl 14 rfl ?q2obl ?q2fin
  case q2obl =>
    refine And.intro ?q2o0 (And.intro ?q2o1 (And.intro ?q2o2 (And.intro ?q2o3 (And.intro ?q2o4 (And.intro ?q2o5 (And.intro ?q2o6 (And.intro ?q2o7 (And.intro ?q2o8 (And.intro ?q2o9 (And.intro ?q2o10 (And.intro ?q2o11 (And.intro ?q2o12 (And.intro ?q2o13 (True.intro))))))))))))))
    case q2o0 =>
      intro w1 hI
      go_light
      refine turn2_on (by rfl) ?_
      intro K hK
      go_simp
      refine hK _ _ ⟨rfl, Kept.refl _, ?_⟩
      show _ = _
      simp only [List.getD_cons_zero, List.getD_cons_succ, Array.getD_eq_getD_getElem?, List.getElem?_toArray, List.getElem?_cons_zero, List.getElem?_cons_succ, Option.getD_some]
      rfl
    case q2o1 =>
      intro w1 hI
      go_light
      refine turn2_on (by rfl) ?_
      intro K hK
      go_simp
      refine hK _ _ ⟨rfl, Kept.refl _, ?_⟩
      show _ = _
      simp only [List.getD_cons_zero, List.getD_cons_succ, Array.getD_eq_getD_getElem?, List.getElem?_toArray, List.getElem?_cons_zero, List.getElem?_cons_succ, Option.getD_some]
      rfl
    case q2o2 =>
      intro w1 hI
      go_light
      replace hI : (fun w5 => w5.heap[ab]? = some (.cells #[.int .i64 3, .int .i64 ky, .int .i64 E, .int .i64 N] 33 (0, 0))) w1 := hI
      intro v1 h1
      change _ = _ at h1
      subst v1
      refine turn2_on (by rfl) ?_
      intro K hK
      simp only [List.getD_cons_zero, List.getD_cons_succ, List.setIfInBounds_toArray, List.set_cons_zero, List.set_cons_succ]
      obtain ⟨y0, y1, y2, y3⟩ := cells4a hI
      go_simp
      refine hK _ _ ⟨rfl, Kept.refl _, ?_⟩
      show _ = _
      simp only [List.getD_cons_zero, List.getD_cons_succ, Array.getD_eq_getD_getElem?, List.getElem?_toArray, List.getElem?_cons_zero, List.getElem?_cons_succ, Option.getD_some]
      rfl
    case q2o3 =>
      intro w1 hI
      go_light
      refine turn2_on (by rfl) ?_
      intro K hK
      go_simp
      refine hK _ _ ⟨rfl, Kept.refl _, ?_⟩
      show _ = _
      simp only [List.getD_cons_zero, List.getD_cons_succ, Array.getD_eq_getD_getElem?, List.getElem?_toArray, List.getElem?_cons_zero, List.getElem?_cons_succ, Option.getD_some]
      rfl
    case q2o4 =>
      intro w1 hI
      go_light
      replace hI : (fun w5 => w5.heap[ab]? = some (.cells #[.int .i64 3, .int .i64 ky, .int .i64 E, .int .i64 N] 33 (0, 0))) w1 := hI
      intro v3 h3
      change _ = _ at h3
      subst v3
      refine turn2_on (by rfl) ?_
      intro K hK
      simp only [List.getD_cons_zero, List.getD_cons_succ, List.setIfInBounds_toArray, List.set_cons_zero, List.set_cons_succ]
      obtain ⟨y0, y1, y2, y3⟩ := cells4a hI
      go_simp
      refine hK _ _ ⟨rfl, Kept.refl _, ?_⟩
      show _ = _
      simp only [List.getD_cons_zero, List.getD_cons_succ, Array.getD_eq_getD_getElem?, List.getElem?_toArray, List.getElem?_cons_zero, List.getElem?_cons_succ, Option.getD_some]
      rfl
    case q2o5 =>
      intro w1 hI
      go_light
      replace hI : (fun w5 => TbIn w5 d mb L) w1 := hI
      intro v0 h0
      change _ = _ at h0
      subst v0
      intro v2 h2
      change _ = _ at h2
      subst v2
      intro v4 h4
      change _ = _ at h4
      subst v4
      refine turn2_on (by rfl) ?_
      intro K hK
      simp only [List.getD_cons_zero, List.getD_cons_succ, List.setIfInBounds_toArray, List.set_cons_zero, List.set_cons_succ]
      go_simp
      refine Calls.mono (hold_any d mb L ky E w1 hI) ?_
      rintro e w9 ⟨rfl, ht9, hg9⟩
      refine hK _ _ ⟨rfl, hg9, ?_⟩
      refine ⟨?_, ht9⟩
      simp only [List.getD_cons_zero, List.getD_cons_succ, Array.getD_eq_getD_getElem?, List.getElem?_toArray, List.getElem?_cons_zero, List.getElem?_cons_succ, Option.getD_some]
    case q2o6 =>
      intro w1 hI
      go_light
      refine turn2_on (by rfl) ?_
      intro K hK
      go_simp
      refine hK _ _ ⟨rfl, Kept.refl _, ?_⟩
      show _ = _
      simp only [List.getD_cons_zero, List.getD_cons_succ, Array.getD_eq_getD_getElem?, List.getElem?_toArray, List.getElem?_cons_zero, List.getElem?_cons_succ, Option.getD_some]
      rfl
    case q2o7 =>
      intro w1 hI
      go_light
      refine turn2_on (by rfl) ?_
      intro K hK
      go_simp
      refine hK _ _ ⟨rfl, Kept.refl _, ?_⟩
      show _ = _
      simp only [List.getD_cons_zero, List.getD_cons_succ, Array.getD_eq_getD_getElem?, List.getElem?_toArray, List.getElem?_cons_zero, List.getElem?_cons_succ, Option.getD_some]
      rfl
    case q2o8 =>
      intro w1 hI
      go_light
      replace hI : (fun w5 => w5.heap[ab]? = some (.cells #[.int .i64 3, .int .i64 ky, .int .i64 E, .int .i64 N] 33 (0, 0))) w1 := hI
      intro v7 h7
      change _ = _ at h7
      subst v7
      refine turn2_on (by rfl) ?_
      intro K hK
      simp only [List.getD_cons_zero, List.getD_cons_succ, List.setIfInBounds_toArray, List.set_cons_zero, List.set_cons_succ]
      obtain ⟨y0, y1, y2, y3⟩ := cells4a hI
      go_simp
      refine hK _ _ ⟨rfl, Kept.refl _, ?_⟩
      show _ = _
      simp only [List.getD_cons_zero, List.getD_cons_succ, Array.getD_eq_getD_getElem?, List.getElem?_toArray, List.getElem?_cons_zero, List.getElem?_cons_succ, Option.getD_some]
      rfl
    case q2o9 =>
      intro w1 hI
      go_light
      refine turn2_on (by rfl) ?_
      intro K hK
      go_simp
      refine hK _ _ ⟨rfl, Kept.refl _, ?_⟩
      show _ = _
      simp only [List.getD_cons_zero, List.getD_cons_succ, Array.getD_eq_getD_getElem?, List.getElem?_toArray, List.getElem?_cons_zero, List.getElem?_cons_succ, Option.getD_some]
      rfl
    case q2o10 =>
      intro w1 hI
      go_light
      replace hI : (fun w5 => w5.heap[ab]? = some (.cells #[.int .i64 3, .int .i64 ky, .int .i64 E, .int .i64 N] 33 (0, 0))) w1 := hI
      intro v9 h9
      change _ = _ at h9
      subst v9
      refine turn2_on (by rfl) ?_
      intro K hK
      simp only [List.getD_cons_zero, List.getD_cons_succ, List.setIfInBounds_toArray, List.set_cons_zero, List.set_cons_succ]
      obtain ⟨y0, y1, y2, y3⟩ := cells4a hI
      go_simp
      refine hK _ _ ⟨rfl, Kept.refl _, ?_⟩
      show _ = _
      simp only [List.getD_cons_zero, List.getD_cons_succ, Array.getD_eq_getD_getElem?, List.getElem?_toArray, List.getElem?_cons_zero, List.getElem?_cons_succ, Option.getD_some]
      rfl
    case q2o11 =>
      intro w1 hI
      go_light
      replace hI : (fun w5 => RtIn w5 rd g L) w1 := hI
      intro v6 h6
      change _ = _ at h6
      subst v6
      intro v8 h8
      change _ = _ at h8
      subst v8
      intro v10 h10
      change _ = _ at h10
      subst v10
      refine turn2_on (by rfl) ?_
      intro K hK
      simp only [List.getD_cons_zero, List.getD_cons_succ, List.setIfInBounds_toArray, List.set_cons_zero, List.set_cons_succ]
      go_simp
      refine Calls.mono (refhold_any rd g L ky E w1 hI) ?_
      rintro e w9 ⟨rfl, ht9, hg9⟩
      refine hK _ _ ⟨rfl, hg9, ?_⟩
      refine ⟨?_, ht9⟩
      simp only [List.getD_cons_zero, List.getD_cons_succ, Array.getD_eq_getD_getElem?, List.getElem?_toArray, List.getElem?_cons_zero, List.getElem?_cons_succ, Option.getD_some]
    case q2o12 =>
      intro w1 hI
      go_light
      intro v5 h5
      obtain ⟨rfl, h5⟩ := h5
      intro v11 h11
      obtain ⟨rfl, h11⟩ := h11
      refine turn2_on (by rfl) ?_
      intro K hK
      simp only [List.getD_cons_zero, List.getD_cons_succ, List.setIfInBounds_toArray, List.set_cons_zero, List.set_cons_succ]
      go_simp
      refine hK _ _ ⟨rfl, Kept.refl _, ?_⟩
      show _ = _
      simp only [List.getD_cons_zero, List.getD_cons_succ, Array.getD_eq_getD_getElem?, List.getElem?_toArray, List.getElem?_cons_zero, List.getElem?_cons_succ, Option.getD_some]
      rfl
    case q2o13 =>
      intro w1 hI
      go_light
      intro v12 h12
      change _ = _ at h12
      subst v12
      refine turn2_on (by rfl) ?_
      intro K hK
      simp only [List.getD_cons_zero, List.getD_cons_succ, List.setIfInBounds_toArray, List.set_cons_zero, List.set_cons_succ]
      go_simp
      refine hK _ _ ⟨rfl, Kept.refl _, ?_⟩
      show _ = _
      simp only [List.getD_cons_zero, List.getD_cons_succ, Array.getD_eq_getD_getElem?, List.getElem?_toArray, List.getElem?_cons_zero, List.getElem?_cons_succ, Option.getD_some]
      rfl
  intro w4 hI
  replace hI : (fun w5 => Tw mb g w2 w5) w4 := hI
  intro v0 h0
  change _ = _ at h0
  subst v0
  intro v1 h1
  change _ = _ at h1
  subst v1
  intro v2 h2
  change _ = _ at h2
  subst v2
  intro v3 h3
  change _ = _ at h3
  subst v3
  intro v4 h4
  change _ = _ at h4
  subst v4
  intro v5 h5
  obtain ⟨rfl, h5⟩ := h5
  intro v6 h6
  change _ = _ at h6
  subst v6
  intro v7 h7
  change _ = _ at h7
  subst v7
  intro v8 h8
  change _ = _ at h8
  subst v8
  intro v9 h9
  change _ = _ at h9
  subst v9
  intro v10 h10
  change _ = _ at h10
  subst v10
  intro v11 h11
  obtain ⟨rfl, h11⟩ := h11
  intro v12 h12
  change _ = _ at h12
  subst v12
  intro v13 h13
  change _ = _ at h13
  subst v13
  simp only [Given, List.getD_cons_zero, List.getD_cons_succ, List.setIfInBounds_toArray, List.set_cons_zero, List.set_cons_succ]
  have HF1 := Lib.hid h5
  have HF2 := Lib.hid h11
  have HF3 := Lib.hid (HTW.out.trans hI)
  clear h5 h11 hI hbox htab hrt htw
  go_wp2_with fail
  go_ret
  exact ⟨rfl, HF1.out, HF2.out, HF3.out⟩
set_option linter.unusedSimpArgs false in
set_option linter.unusedVariables false in
set_option maxRecDepth 100000 in
set_option maxHeartbeats 2000000 in
theorem step_add (d mb rd g : Nat) (L : List Ent) (op ky E N : Int) (w : World) (ht : TbIn w d mb L) (hr : RtIn w rd g L) (hk : (Lit.int .i64 ky).wf = true) (ho : op = 5) :
    Calls Try.prog 19 #[.pointer (some ⟨d, 0, none⟩), .pointer (some ⟨rd, 0, none⟩), .agg #[.int .i64 op, .int .i64 ky, .int .i64 E, .int .i64 N]] w fun e w' => e = .returned (.bool true) ∧ TbIn w' d mb (addS L ky N) ∧ RtIn w' rd g (addS L ky N) ∧ Tw mb g w w' := by
  have hba := (Below.refl w.heap.size w).alloc (Nat.le_refl _) (.cells #[.int .i64 op, .int .i64 ky, .int .i64 E, .int .i64 N] 33)
  have hrow := heap_alloc_new w (.cells #[.int .i64 op, .int .i64 ky, .int .i64 E, .int .i64 N] 33)
  obtain ⟨w2, hw2⟩ : ∃ z, w.alloc (.cells #[.int .i64 op, .int .i64 ky, .int .i64 E, .int .i64 N] 33) = z := ⟨_, rfl⟩
  obtain ⟨ab, hab⟩ : ∃ z, w.heap.size = z := ⟨_, rfl⟩
  have T2 := ht.below hba
  have R2 := hr.below hba
  have NAM : ab ≠ mb := fun e => by have := ht.map.lt; omega
  have NAG : ab ≠ g := fun e => by have := hr.lt2; omega
  have HTW := Lib.hid (Tw.of_below (mb := mb) (g := g) hba)
  rw [hw2] at hba hrow T2 R2 HTW
  rw [hab] at hrow
  obtain ⟨NDG, NMG, NRM, NGM⟩ := apart T2 R2
  obtain ⟨y0, y1, y2, y3⟩ := cells4a hrow
  have HT := Lib.hid T2
  have HR := Lib.hid R2
  have HA := Lib.hid hrow
  have HAB := Lib.hid hab
  have HW2 := Lib.hid hw2
  have HK := Lib.hid hk
  subst ho
  clear hba hrow T2 R2 hab hw2 ht hr
  go_enter Try.func19, Try.ntmps19
  go_wp2_with (first | (rw [HW2.out, HAB.out]) | fail)
  have hbox : w2.drew.heap[ab]? = some (.cells #[.int .i64 5, .int .i64 ky, .int .i64 E, .int .i64 N] 33 (0, 0)) := HA.out
  have htab : TbIn w2.drew d mb L := HT.out.at0 rfl
  have hrt : RtIn w2.drew rd g L := HR.out.below (w' := w2.drew) ⟨rfl, rfl, rfl, Nat.le_refl _, fun _ _ => rfl⟩
  have htw : Tw mb g w2 w2.drew := Tw.of_below ⟨rfl, rfl, rfl, Nat.le_refl _, fun _ _ => rfl⟩
  clear y0 y1 y2 y3
  refine' reg_order [eqV _, eqV _, eqV _, eqV _, eqV _, (fun v w5 => v = .int .i64 (addX L ky N) ∧ TbIn w5 d mb (addS L ky N)), eqV _, eqV _, eqV _, eqV _, eqV _, (fun v w5 => v = .int .i64 (addX L ky N) ∧ RtIn w5 rd g (addS L ky N)), eqV _, eqV _] [(5, fun w w' => World.grownBy w w' (some mb)), (11, fun w w' => World.grownBy w w' (some g))] [(2, fun w5 => w5.heap[ab]? = some (.cells #[.int .i64 5, .int .i64 ky, .int .i64 E, .int .i64 N] 33 (0, 0))), (4, fun w5 => w5.heap[ab]? = some (.cells #[.int .i64 5, .int .i64 ky, .int .i64 E, .int .i64 N] 33 (0, 0))), (5, fun w5 => TbIn w5 d mb L), (8, fun w5 => w5.heap[ab]? = some (.cells #[.int .i64 5, .int .i64 ky, .int .i64 E, .int .i64 N] 33 (0, 0))), (10, fun w5 => w5.heap[ab]? = some (.cells #[.int .i64 5, .int .i64 ky, .int .i64 E, .int .i64 N] 33 (0, 0))), (11, fun w5 => RtIn w5 rd g L), (14, fun w5 => Tw mb g w2 w5)] [94, 95, 96, 97, 98, 99, 100, 101, 102, 103, 104, 105, 106, 6] [[], [], [1], [], [3], [0, 2, 4], [], [], [7], [], [9], [6, 8, 10], [5, 11], [12]] [0, 1, 2, 3, 4, 5, 6, 7, 8, 9, 10, 11, 12, 13] 14 (by kernel_rfl) ⟨eqV_stays _, eqV_stays _, eqV_stays _, eqV_stays _, eqV_stays _, fun _ _ _ p b => ⟨p.1, TbIn.below p.2 b⟩, eqV_stays _, eqV_stays _, eqV_stays _, eqV_stays _, eqV_stays _, fun _ _ _ p b => ⟨p.1, RtIn.below p.2 b⟩, eqV_stays _, eqV_stays _, trivial⟩ ⟨⟨.inl (eqV_stays _), .inl (eqV_stays _), .inl (eqV_stays _), .inl (eqV_stays _), .inl (eqV_stays _), .inr (.inr rfl), .inl (eqV_stays _), .inl (eqV_stays _), .inl (eqV_stays _), .inl (eqV_stays _), .inl (eqV_stays _), .inr (.inl (by kernel_rfl)), .inl (eqV_stays _), .inl (eqV_stays _), trivial⟩, ⟨.inl (eqV_stays _), .inl (eqV_stays _), .inl (eqV_stays _), .inl (eqV_stays _), .inl (eqV_stays _), .inl (fun _ _ _ p q => ⟨p.1, TbIn.grown p.2 q (fun e => NDG (by injection e)) (fun e => NMG (by injection e))⟩), .inl (eqV_stays _), .inl (eqV_stays _), .inl (eqV_stays _), .inl (eqV_stays _), .inl (eqV_stays _), .inr (.inr rfl), .inl (eqV_stays _), .inl (eqV_stays _), trivial⟩, trivial⟩ ⟨fun _ _ p b => row_keep p b, fun _ _ p b => row_keep p b, fun _ _ p b => TbIn.below p b, fun _ _ p b => row_keep p b, fun _ _ p b => row_keep p b, fun _ _ p b => RtIn.below p b, fun _ _ p b => Tw.below p b, trivial⟩ ⟨⟨.inr (.inl (by kernel_rfl)), .inr (.inl (by kernel_rfl)), .inr (.inr rfl), .inl (fun _ _ p q => (World.grownBy.block q ab (Array.getElem?_eq_some_iff.1 p).1 (fun e => NAM (by injection e))).trans p), .inl (fun _ _ p q => (World.grownBy.block q ab (Array.getElem?_eq_some_iff.1 p).1 (fun e => NAM (by injection e))).trans p), .inl (fun _ _ p q => RtIn.grown p q (fun e => NRM (by injection e)) (fun e => NGM (by injection e))), .inl (fun _ _ p q => Tw.lft p q), trivial⟩, ⟨.inr (.inl (by kernel_rfl)), .inr (.inl (by kernel_rfl)), .inr (.inl (by kernel_rfl)), .inr (.inl (by kernel_rfl)), .inr (.inl (by kernel_rfl)), .inr (.inr rfl), .inl (fun _ _ p q => Tw.rgt p q), trivial⟩, trivial⟩ ⟨hbox, hbox, htab, hbox, hbox, hrt, htw, trivial⟩ 107 rfl (by kernel_rfl) (by kernel_rfl) rfl rfl 14 rfl ?q3obl ?q3fin
  case q3obl =>
    refine And.intro ?q3o0 (And.intro ?q3o1 (And.intro ?q3o2 (And.intro ?q3o3 (And.intro ?q3o4 (And.intro ?q3o5 (And.intro ?q3o6 (And.intro ?q3o7 (And.intro ?q3o8 (And.intro ?q3o9 (And.intro ?q3o10 (And.intro ?q3o11 (And.intro ?q3o12 (And.intro ?q3o13 (True.intro))))))))))))))
    case q3o0 =>
      intro w1 hI
      go_light
      refine turn2_on (by rfl) ?_
      intro K hK
      go_simp
      refine hK _ _ ⟨rfl, Kept.refl _, ?_⟩
      show _ = _
      simp only [List.getD_cons_zero, List.getD_cons_succ, Array.getD_eq_getD_getElem?, List.getElem?_toArray, List.getElem?_cons_zero, List.getElem?_cons_succ, Option.getD_some]
      rfl
    case q3o1 =>
      intro w1 hI
      go_light
      refine turn2_on (by rfl) ?_
      intro K hK
      go_simp
      refine hK _ _ ⟨rfl, Kept.refl _, ?_⟩
      show _ = _
      simp only [List.getD_cons_zero, List.getD_cons_succ, Array.getD_eq_getD_getElem?, List.getElem?_toArray, List.getElem?_cons_zero, List.getElem?_cons_succ, Option.getD_some]
      rfl
    case q3o2 =>
      intro w1 hI
      go_light
      replace hI : (fun w5 => w5.heap[ab]? = some (.cells #[.int .i64 5, .int .i64 ky, .int .i64 E, .int .i64 N] 33 (0, 0))) w1 := hI
      intro v1 h1
      change _ = _ at h1
      subst v1
      refine turn2_on (by rfl) ?_
      intro K hK
      simp only [List.getD_cons_zero, List.getD_cons_succ, List.setIfInBounds_toArray, List.set_cons_zero, List.set_cons_succ]
      obtain ⟨y0, y1, y2, y3⟩ := cells4a hI
      go_simp
      refine hK _ _ ⟨rfl, Kept.refl _, ?_⟩
      show _ = _
      simp only [List.getD_cons_zero, List.getD_cons_succ, Array.getD_eq_getD_getElem?, List.getElem?_toArray, List.getElem?_cons_zero, List.getElem?_cons_succ, Option.getD_some]
      rfl
    case q3o3 =>
      intro w1 hI
      go_light
      refine turn2_on (by rfl) ?_
      intro K hK
      go_simp
      refine hK _ _ ⟨rfl, Kept.refl _, ?_⟩
      show _ = _
      simp only [List.getD_cons_zero, List.getD_cons_succ, Array.getD_eq_getD_getElem?, List.getElem?_toArray, List.getElem?_cons_zero, List.getElem?_cons_succ, Option.getD_some]
      rfl
    case q3o4 =>
      intro w1 hI
      go_light
      replace hI : (fun w5 => w5.heap[ab]? = some (.cells #[.int .i64 5, .int .i64 ky, .int .i64 E, .int .i64 N] 33 (0, 0))) w1 := hI
      intro v3 h3
      change _ = _ at h3
      subst v3
      refine turn2_on (by rfl) ?_
      intro K hK
      simp only [List.getD_cons_zero, List.getD_cons_succ, List.setIfInBounds_toArray, List.set_cons_zero, List.set_cons_succ]
      obtain ⟨y0, y1, y2, y3⟩ := cells4a hI
      go_simp
      refine hK _ _ ⟨rfl, Kept.refl _, ?_⟩
      show _ = _
      simp only [List.getD_cons_zero, List.getD_cons_succ, Array.getD_eq_getD_getElem?, List.getElem?_toArray, List.getElem?_cons_zero, List.getElem?_cons_succ, Option.getD_some]
      rfl
    case q3o5 =>
      intro w1 hI
      go_light
      replace hI : (fun w5 => TbIn w5 d mb L) w1 := hI
      intro v0 h0
      change _ = _ at h0
      subst v0
      intro v2 h2
      change _ = _ at h2
      subst v2
      intro v4 h4
      change _ = _ at h4
      subst v4
      refine turn2_on (by rfl) ?_
      intro K hK
      simp only [List.getD_cons_zero, List.getD_cons_succ, List.setIfInBounds_toArray, List.set_cons_zero, List.set_cons_succ]
      go_simp
      refine Calls.mono (add_any d mb L ky N w1 hI HK.out) ?_
      rintro e w9 ⟨rfl, ht9, hg9⟩
      refine hK _ _ ⟨rfl, hg9, ?_⟩
      refine ⟨?_, ht9⟩
      simp only [List.getD_cons_zero, List.getD_cons_succ, Array.getD_eq_getD_getElem?, List.getElem?_toArray, List.getElem?_cons_zero, List.getElem?_cons_succ, Option.getD_some]
    case q3o6 =>
      intro w1 hI
      go_light
      refine turn2_on (by rfl) ?_
      intro K hK
      go_simp
      refine hK _ _ ⟨rfl, Kept.refl _, ?_⟩
      show _ = _
      simp only [List.getD_cons_zero, List.getD_cons_succ, Array.getD_eq_getD_getElem?, List.getElem?_toArray, List.getElem?_cons_zero, List.getElem?_cons_succ, Option.getD_some]
      rfl
    case q3o7 =>
      intro w1 hI
      go_light
      refine turn2_on (by rfl) ?_
      intro K hK
      go_simp
      refine hK _ _ ⟨rfl, Kept.refl _, ?_⟩
      show _ = _
      simp only [List.getD_cons_zero, List.getD_cons_succ, Array.getD_eq_getD_getElem?, List.getElem?_toArray, List.getElem?_cons_zero, List.getElem?_cons_succ, Option.getD_some]
      rfl
    case q3o8 =>
      intro w1 hI
      go_light
      replace hI : (fun w5 => w5.heap[ab]? = some (.cells #[.int .i64 5, .int .i64 ky, .int .i64 E, .int .i64 N] 33 (0, 0))) w1 := hI
      intro v7 h7
      change _ = _ at h7
      subst v7
      refine turn2_on (by rfl) ?_
      intro K hK
      simp only [List.getD_cons_zero, List.getD_cons_succ, List.setIfInBounds_toArray, List.set_cons_zero, List.set_cons_succ]
      obtain ⟨y0, y1, y2, y3⟩ := cells4a hI
      go_simp
      refine hK _ _ ⟨rfl, Kept.refl _, ?_⟩
      show _ = _
      simp only [List.getD_cons_zero, List.getD_cons_succ, Array.getD_eq_getD_getElem?, List.getElem?_toArray, List.getElem?_cons_zero, List.getElem?_cons_succ, Option.getD_some]
      rfl
    case q3o9 =>
      intro w1 hI
      go_light
      refine turn2_on (by rfl) ?_
      intro K hK
      go_simp
      refine hK _ _ ⟨rfl, Kept.refl _, ?_⟩
      show _ = _
      simp only [List.getD_cons_zero, List.getD_cons_succ, Array.getD_eq_getD_getElem?, List.getElem?_toArray, List.getElem?_cons_zero, List.getElem?_cons_succ, Option.getD_some]
      rfl
    case q3o10 =>
      intro w1 hI
      go_light
      replace hI : (fun w5 => w5.heap[ab]? = some (.cells #[.int .i64 5, .int .i64 ky, .int .i64 E, .int .i64 N] 33 (0, 0))) w1 := hI
      intro v9 h9
      change _ = _ at h9
      subst v9
      refine turn2_on (by rfl) ?_
      intro K hK
      simp only [List.getD_cons_zero, List.getD_cons_succ, List.setIfInBounds_toArray, List.set_cons_zero, List.set_cons_succ]
      obtain ⟨y0, y1, y2, y3⟩ := cells4a hI
      go_simp
      refine hK _ _ ⟨rfl, Kept.refl _, ?_⟩
      show _ = _
      simp only [List.getD_cons_zero, List.getD_cons_succ, Array.getD_eq_getD_getElem?, List.getElem?_toArray, List.getElem?_cons_zero, List.getElem?_cons_succ, Option.getD_some]
      rfl
    case q3o11 =>
      intro w1 hI
      go_light
      replace hI : (fun w5 => RtIn w5 rd g L) w1 := hI
      intro v6 h6
      change _ = _ at h6
      subst v6
      intro v8 h8
      change _ = _ at h8
      subst v8
      intro v10 h10
      change _ = _ at h10
      subst v10
      refine turn2_on (by rfl) ?_
      intro K hK
      simp only [List.getD_cons_zero, List.getD_cons_succ, List.setIfInBounds_toArray, List.set_cons_zero, List.set_cons_succ]
      go_simp
      refine Calls.mono (refadd_any rd g L ky N w1 hI) ?_
      rintro e w9 ⟨rfl, ht9, hg9⟩
      refine hK _ _ ⟨rfl, hg9, ?_⟩
      refine ⟨?_, ht9⟩
      simp only [List.getD_cons_zero, List.getD_cons_succ, Array.getD_eq_getD_getElem?, List.getElem?_toArray, List.getElem?_cons_zero, List.getElem?_cons_succ, Option.getD_some]
    case q3o12 =>
      intro w1 hI
      go_light
      intro v5 h5
      obtain ⟨rfl, h5⟩ := h5
      intro v11 h11
      obtain ⟨rfl, h11⟩ := h11
      refine turn2_on (by rfl) ?_
      intro K hK
      simp only [List.getD_cons_zero, List.getD_cons_succ, List.setIfInBounds_toArray, List.set_cons_zero, List.set_cons_succ]
      go_simp
      refine hK _ _ ⟨rfl, Kept.refl _, ?_⟩
      show _ = _
      simp only [List.getD_cons_zero, List.getD_cons_succ, Array.getD_eq_getD_getElem?, List.getElem?_toArray, List.getElem?_cons_zero, List.getElem?_cons_succ, Option.getD_some]
      rfl
    case q3o13 =>
      intro w1 hI
      go_light
      intro v12 h12
      change _ = _ at h12
      subst v12
      refine turn2_on (by rfl) ?_
      intro K hK
      simp only [List.getD_cons_zero, List.getD_cons_succ, List.setIfInBounds_toArray, List.set_cons_zero, List.set_cons_succ]
      go_simp
      refine hK _ _ ⟨rfl, Kept.refl _, ?_⟩
      show _ = _
      simp only [List.getD_cons_zero, List.getD_cons_succ, Array.getD_eq_getD_getElem?, List.getElem?_toArray, List.getElem?_cons_zero, List.getElem?_cons_succ, Option.getD_some]
      rfl
  intro w4 hI
  replace hI : (fun w5 => Tw mb g w2 w5) w4 := hI
  intro v0 h0
  change _ = _ at h0
  subst v0
  intro v1 h1
  change _ = _ at h1
  subst v1
  intro v2 h2
  change _ = _ at h2
  subst v2
  intro v3 h3
  change _ = _ at h3
  subst v3
  intro v4 h4
  change _ = _ at h4
  subst v4
  intro v5 h5
  obtain ⟨rfl, h5⟩ := h5
  intro v6 h6
  change _ = _ at h6
  subst v6
  intro v7 h7
  change _ = _ at h7
  subst v7
  intro v8 h8
  change _ = _ at h8
  subst v8
  intro v9 h9
  change _ = _ at h9
  subst v9
  intro v10 h10
  change _ = _ at h10
  subst v10
  intro v11 h11
  obtain ⟨rfl, h11⟩ := h11
  intro v12 h12
  change _ = _ at h12
  subst v12
  intro v13 h13
  change _ = _ at h13
  subst v13
  simp only [Given, List.getD_cons_zero, List.getD_cons_succ, List.setIfInBounds_toArray, List.set_cons_zero, List.set_cons_succ]
  have HF1 := Lib.hid h5
  have HF2 := Lib.hid h11
  have HF3 := Lib.hid (HTW.out.trans hI)
  clear h5 h11 hI hbox htab hrt htw
  go_wp2_with fail
  go_ret
  exact ⟨rfl, HF1.out, HF2.out, HF3.out⟩
set_option linter.unusedSimpArgs false in
set_option linter.unusedVariables false in
set_option maxRecDepth 100000 in
set_option maxHeartbeats 2000000 in
theorem step_rel (d mb rd g : Nat) (L : List Ent) (op ky E N : Int) (w : World) (ht : TbIn w d mb L) (hr : RtIn w rd g L) (hk : (Lit.int .i64 ky).wf = true) (ho : op = 4) :
    Calls Try.prog 19 #[.pointer (some ⟨d, 0, none⟩), .pointer (some ⟨rd, 0, none⟩), .agg #[.int .i64 op, .int .i64 ky, .int .i64 E, .int .i64 N]] w fun e w' => e = .returned (.bool true) ∧ TbIn w' d mb (relS L E) ∧ RtIn w' rd g (relS L E) ∧ Tw mb g w w' := by
  have hba := (Below.refl w.heap.size w).alloc (Nat.le_refl _) (.cells #[.int .i64 op, .int .i64 ky, .int .i64 E, .int .i64 N] 33)
  have hrow := heap_alloc_new w (.cells #[.int .i64 op, .int .i64 ky, .int .i64 E, .int .i64 N] 33)
  obtain ⟨w2, hw2⟩ : ∃ z, w.alloc (.cells #[.int .i64 op, .int .i64 ky, .int .i64 E, .int .i64 N] 33) = z := ⟨_, rfl⟩
  obtain ⟨ab, hab⟩ : ∃ z, w.heap.size = z := ⟨_, rfl⟩
  have T2 := ht.below hba
  have R2 := hr.below hba
  have NAM : ab ≠ mb := fun e => by have := ht.map.lt; omega
  have NAG : ab ≠ g := fun e => by have := hr.lt2; omega
  have HTW := Lib.hid (Tw.of_below (mb := mb) (g := g) hba)
  rw [hw2] at hba hrow T2 R2 HTW
  rw [hab] at hrow
  obtain ⟨NDG, NMG, NRM, NGM⟩ := apart T2 R2
  obtain ⟨y0, y1, y2, y3⟩ := cells4a hrow
  have HT := Lib.hid T2
  have HR := Lib.hid R2
  have HA := Lib.hid hrow
  have HAB := Lib.hid hab
  have HW2 := Lib.hid hw2
  subst ho
  clear hba hrow T2 R2 hab hw2 ht hr
  go_enter Try.func19, Try.ntmps19
  go_wp2_with (first | (rw [HW2.out, HAB.out]) | fail)
  refine (release_any d mb L E w2 HT.out).mono ?_
  rintro e w3 ⟨v3, rfl, ho3, ht, hg⟩
  obtain ⟨M, hM⟩ : ∃ M, relL L E = M := ⟨_, rfl⟩
  obtain ⟨mm, hmm⟩ : ∃ mm, M.length = mm := ⟨_, rfl⟩
  have hml : mm ≤ 1000000 := by
    have h1 := HT.out.ok.n
    rw [← hmm, ← hM]
    unfold relL
    rw [List.length_map]
    have h2 := List.length_filter_le (fun (k : Nat) => goes E (getE L (k : Int))) (List.range L.length)
    rw [List.length_range] at h2
    omega
  have HM := Lib.hid hM
  rw [hM] at ho3
  obtain ⟨xa, xc, rfl⟩ := ho3.shapeN mm hmm
  have HT3 := Lib.hid ht
  have HR3 := Lib.hid (HR.out.grown hg (fun e => NRM (by injection e)) (fun e => NGM (by injection e)))
  have HW3 := Lib.hid (HTW.out.lft hg)
  have hac : w3.cell? ⟨ab, 2, none⟩ = some (.int .i64 E) := cell_of_row w3 ab 2 _ _ _ ((hg.block ab (Array.getElem?_eq_some_iff.1 HA.out).1 (fun e => NAM (by injection e))).trans HA.out)
  have HX3 := Lib.hid ho3
  have hlow := HR.out.lt2
  clear ht hg ho3 y0 y1 y2 y3 hM
  go_wp2_with fail
  refine (refrelease_any rd g L E w3 HR3.out).mono ?_
  rintro e w4 ⟨v4, rfl, ho4, hr, hg⟩
  rw [HM.out] at ho4
  obtain ⟨ya, yc, rfl⟩ := ho4.shapeN mm hmm
  have HX4 := Lib.hid ((HX3.out.grown hg (fun q hq e => by have := (HX3.out.at_base q hq).1; injection e with e; omega)).rd)
  have HY4 := Lib.hid ho4.rd
  have HR4 := Lib.hid hr
  have HT4 := Lib.hid (HT3.out.grown hg (fun e => NDG (by injection e)) (fun e => NMG (by injection e)))
  have HW4 := Lib.hid (HW3.out.rgt hg)
  clear hr hg ho4 hac hlow hmm
  go_wp2_with fail
  go_loopw [13] (fun z wz => ∃ j : Nat, j ≤ mm ∧ z = .int .i64 j ∧ ∃ nq, w4.drewN nq = wz) (fun z _ => mm - (intOf z).toNat)
  case atStart => exact ⟨0, by omega, rfl, 0, rfl⟩
  case round =>
    obtain ⟨j, hj, rfl, nz, rfl⟩ := hrel
    by_cases hjm : j < mm
    · obtain ⟨gx, ox, ex, hcx⟩ := HX4.out.cell j hjm
      obtain ⟨gy, oy, ey, hcy⟩ := HY4.out.cell j hjm
      subst ex ey
      obtain ⟨y, hy⟩ : ∃ y, nth M j = y := ⟨_, rfl⟩
      rw [hy] at hcx hcy
      have hcx2 : (w4.drewN nz).cell? ⟨gx, ox + j, none⟩ = some (.int .i64 y) := hcx
      have hcy2 : (w4.drewN nz).cell? ⟨gy, oy + j, none⟩ = some (.int .i64 y) := hcy
      clear hy
      go_wp2
      go_quiet (fail)
      go_wp2
      go_roundw
      case rel => exact ⟨j + 1, by omega, by go_num, nz + nq, rfl⟩
      case measure => simp [intOf] <;> omega
    · obtain rfl : j = mm := by omega
      have hb : Below w4.heap.size w4 (w4.drewN nz) := ⟨rfl, rfl, rfl, Nat.le_refl _, fun _ _ => rfl⟩
      have HB := Lib.hid hb
      clear hb
      go_wp2
      go_ret
      exact ⟨rfl, HT4.out.below HB.out, HR4.out.below HB.out, HW4.out.below HB.out⟩
set_option linter.unusedSimpArgs false in
set_option linter.unusedVariables false in
set_option maxRecDepth 100000 in
set_option maxHeartbeats 2000000 in
theorem step_none (d mb rd g : Nat) (L : List Ent) (op ky E N : Int) (w : World) (ht : TbIn w d mb L) (hr : RtIn w rd g L) (hk : (Lit.int .i64 ky).wf = true) (h1 : op ≠ 1) (h2 : op ≠ 2) (h3 : op ≠ 3) (h4 : op ≠ 4) (h5 : op ≠ 5) :
    Calls Try.prog 19 #[.pointer (some ⟨d, 0, none⟩), .pointer (some ⟨rd, 0, none⟩), .agg #[.int .i64 op, .int .i64 ky, .int .i64 E, .int .i64 N]] w fun e w' => e = .returned (.bool true) ∧ TbIn w' d mb (L) ∧ RtIn w' rd g (L) ∧ Tw mb g w w' := by
  have hba := (Below.refl w.heap.size w).alloc (Nat.le_refl _) (.cells #[.int .i64 op, .int .i64 ky, .int .i64 E, .int .i64 N] 33)
  have hrow := heap_alloc_new w (.cells #[.int .i64 op, .int .i64 ky, .int .i64 E, .int .i64 N] 33)
  obtain ⟨w2, hw2⟩ : ∃ z, w.alloc (.cells #[.int .i64 op, .int .i64 ky, .int .i64 E, .int .i64 N] 33) = z := ⟨_, rfl⟩
  obtain ⟨ab, hab⟩ : ∃ z, w.heap.size = z := ⟨_, rfl⟩
  have T2 := ht.below hba
  have R2 := hr.below hba
  have NAM : ab ≠ mb := fun e => by have := ht.map.lt; omega
  have NAG : ab ≠ g := fun e => by have := hr.lt2; omega
  have HTW := Lib.hid (Tw.of_below (mb := mb) (g := g) hba)
  rw [hw2] at hba hrow T2 R2 HTW
  rw [hab] at hrow
  obtain ⟨NDG, NMG, NRM, NGM⟩ := apart T2 R2
  obtain ⟨y0, y1, y2, y3⟩ := cells4a hrow
  have HT := Lib.hid T2
  have HR := Lib.hid R2
  have HA := Lib.hid hrow
  have HAB := Lib.hid hab
  have HW2 := Lib.hid hw2
  have e1 : (op == 1) = false := by simpa using h1
  have e2 : (op == 2) = false := by simpa using h2
  have e3 : (op == 3) = false := by simpa using h3
  have e4 : (op == 4) = false := by simpa using h4
  have e5 : (op == 5) = false := by simpa using h5
  clear hba hrow T2 R2 hab hw2 ht hr
  go_enter Try.func19, Try.ntmps19
  go_wp2_with (first | (rw [HW2.out, HAB.out]) | fail)
  go_ret
  exact ⟨rfl, HT.out, HR.out, HTW.out⟩
/-- What an act leaves. -/
def actS (L : List Ent) (a : ActS) : List Ent := if a.op = 1 then takeS L else if a.op = 2 then fillS L a.k else if a.op = 3 then holdS L a.k a.ep else if a.op = 4 then relS L a.ep else if a.op = 5 then addS L a.k a.n else L
set_option maxRecDepth 100000 in
theorem step_any (d mb rd g : Nat) (L : List Ent) (a : ActS) (w : World) (ht : TbIn w d mb L) (hr : RtIn w rd g L) (hk : a.Wf) :
    Calls Try.prog 19 #[.pointer (some ⟨d, 0, none⟩), .pointer (some ⟨rd, 0, none⟩), .agg #[.int .i64 a.op, .int .i64 a.k, .int .i64 a.ep, .int .i64 a.n]] w fun e w' => e = .returned (.bool true) ∧ TbIn w' d mb (actS L a) ∧ RtIn w' rd g (actS L a) ∧ Tw mb g w w' := by
  obtain ⟨op, ky, E, N⟩ := a
  unfold actS
  dsimp only
  by_cases h1 : op = 1
  · rw [if_pos h1]; exact step_take d mb rd g L op ky E N w ht hr hk.k h1
  rw [if_neg h1]
  by_cases h2 : op = 2
  · rw [if_pos h2]; exact step_fill d mb rd g L op ky E N w ht hr hk.k h2
  rw [if_neg h2]
  by_cases h3 : op = 3
  · rw [if_pos h3]; exact step_hold d mb rd g L op ky E N w ht hr hk.k h3
  rw [if_neg h3]
  by_cases h4 : op = 4
  · rw [if_pos h4]; exact step_rel d mb rd g L op ky E N w ht hr hk.k h4
  rw [if_neg h4]
  by_cases h5 : op = 5
  · rw [if_pos h5]; exact step_add d mb rd g L op ky E N w ht hr hk.k h5
  rw [if_neg h5]
  exact step_none d mb rd g L op ky E N w ht hr hk.k h1 h2 h3 h4 h5
end Go.Proofs.Ythikpggndjfeaaa
