/- segs: Release. -/
import Derived.Test.YthikpggndjfeaaaSgC
import Derived.Test.YthikpggndjfeaaaSgSort
import Derived.OwnWalk
namespace Go.Proofs.Ythikpggndjfeaaa
open Go.RowKit
set_option linter.unusedSimpArgs false in
set_option linter.unusedVariables false in
set_option maxRecDepth 100000 in
set_option maxHeartbeats 2000000 in
theorem release_any (d mb : Nat) (L : List Ent) (p : Int) (w : World) (h : TbIn w d mb L) :
    Calls Try.prog 12 #[.pointer (some ⟨d, 0, none⟩), .int .i64 p] w fun e w' => ∃ v, e = .returned v ∧ Owns .i64 3 w' w.heap.size v (relL L p) ∧ TbIn w' d mb (relS L p) ∧ w.grownBy w' (some mb) := by
  have H := Lib.hid h
  have c1 := h.c1
  have hd := h.lt
  have hmb := h.map.lt
  obtain ⟨w0, hrun, hit, hg0, hs0⟩ := me_range h.map
  have hst : RelSt w d mb w.heap.size L p w0 (.slice none 0 0) (fun s => (fL L s).isSome) [] := by
    refine ⟨hit.congr (rem_start L p), (hg0.block d hd (by simp)).trans h.row, Owns.nil _ _ _ _, by simp, fun k => ?_, World.grownBy.but hg0 _, fun k hk e => by rw [e] at hk; cases hk⟩
    constructor
    · intro hk; cases hk
    · rintro ⟨h1, h2⟩
      rw [(goes_in h2).2] at h1
      cases h1
  have ST := Lib.hid hst
  clear hit hg0 hs0 hst h
  go_enter Try.func12, Try.ntmps12
  go_wp2_with fail
  go_loopw [5] (fun v wr => ∃ left ks, Hid (RelSt w d mb w.heap.size L p wr v left ks)) (fun _ wr => toCome wr mb w.heap.size)
  case atStart => exact ⟨_, _, ST⟩
  case round =>
    clear ST hrun c1
    obtain ⟨left, ks, HR⟩ := hrel
    rcases it_next HR.out.it 0 with ⟨hl, hnx⟩ | ⟨s, i, wn, hls, hfs, hwf, hnx, hit1, hg1, hs1, hlt, hen⟩
    · have HL : Hid (∀ s, left s = false) := hl
      clear hl
      go_wp2_with fail
      refine (sortI_any (w.heap.size + 1) _ ks wr HR.out.own (by have h1 := HR.out.few; have h2 := H.out.ok.n; omega)).mono ?_
      rintro e w2 ⟨rfl, ho2, row2, hg2, hr2⟩
      rw [rel_sorted (L := L) (p := p) HR.out.dis (fun k => by rw [HR.out.mem k, HL.out k]; simp)] at ho2
      have HO := Lib.hid ho2
      have hT : TbIn w2 d mb (relS L p) := by
        have hT1 : TbIn wr d mb (relS L p) := ⟨by rw [show (relS L p).length = L.length by unfold relS; rw [List.length_map]]; exact HR.out.row, HR.out.it.map.congr (rem_end HL.out), relS_ok H.out.ok p⟩
        exact hT1.grown hg2 (fun e => by have := hr2 d e.symm; omega) (fun e => by have := hr2 mb e.symm; omega)
      have HT := Lib.hid hT
      have HG := Lib.hid (World.grownBy.andThen HR.out.grown hg2 (fun j e => .inl (by have := hr2 j e; omega)))
      clear hT ho2 hg2 hr2
      go_wp2_with fail
      go_ret
      exact ⟨_, rfl, HO.out.mono (by omega), HT.out, HG.out⟩
    · obtain ⟨st, us, ep⟩ := i
      replace hnx : (Instr.next (.pointer (some ⟨w.heap.size, 0, none⟩)) false 0).run Try.prog wr = .ok (.tuple #[.bool true, .agg #[.int .i64 s], .agg #[.int .i64 st, .int .i64 us, .int .i64 ep]]) wn := hnx
      replace hen : (Instr.entry (.pointer (some ⟨w.heap.size, 0, none⟩))).run Try.prog wn = .ok (.tuple #[.agg #[.int .i64 s], .agg #[.int .i64 st, .int .i64 us, .int .i64 ep]]) wn := hen
      have hge : getE L s = ⟨st, us, ep⟩ := by
        unfold rem at hfs
        rw [hls] at hfs
        rw [if_neg (by simp)] at hfs
        unfold fL at hfs
        split at hfs
        · cases hfs
        · injection hfs
      have hgo : goes p (getE L s) = (decide (st = 3) && decide (ep ≤ p)) := by rw [hge]; rfl
      have HGO := Lib.hid hgo
      have HLS := Lib.hid hls
      have HIT : Hid (IterE wn mb w.heap.size (rem L p left) (less left s)) := hit1
      have HG1 := Lib.hid hg1
      have HLT := Lib.hid hlt
      have HWF := Lib.hid hwf
      have hlr := HR.out.it.lt
      obtain ⟨nb, hnb⟩ : ∃ z, wn.heap.size = z := ⟨_, rfl⟩
      have hba : Below wn.heap.size wn ((wn.alloc (.cells #[.int .i64 s] 63)).alloc (.cells #[.int .i64 st, .int .i64 us, .int .i64 ep] 61)) := ((Below.refl _ _).alloc (Nat.le_refl _) _).alloc (by simp) _
      have hrn : ((wn.alloc (.cells #[.int .i64 s] 63)).alloc (.cells #[.int .i64 st, .int .i64 us, .int .i64 ep] 61)).heap[wn.heap.size]? = some (.cells #[.int .i64 s] 63 (0, 0)) := row_keep (heap_alloc_new wn (.cells #[.int .i64 s] 63)) ((Below.refl _ _).alloc (Nat.le_refl _) _)
      have hre : ((wn.alloc (.cells #[.int .i64 s] 63)).alloc (.cells #[.int .i64 st, .int .i64 us, .int .i64 ep] 61)).heap[wn.heap.size + 1]? = some (.cells #[.int .i64 st, .int .i64 us, .int .i64 ep] 61 (0, 0)) := by
        have := heap_alloc_new (wn.alloc (.cells #[.int .i64 s] 63)) (.cells #[.int .i64 st, .int .i64 us, .int .i64 ep] 61)
        simpa using this
      obtain ⟨w2, hw2⟩ : ∃ z, ((wn.alloc (.cells #[.int .i64 s] 63)).alloc (.cells #[.int .i64 st, .int .i64 us, .int .i64 ep] 61)) = z := ⟨_, rfl⟩
      rw [hw2] at hba hrn hre
      rw [hnb] at hrn hre
      obtain ⟨e0, e1, e2⟩ := cells3 hre
      have n0 : w2.cell? ⟨nb, 0, none⟩ = some (.int .i64 s) := cell_of_row w2 nb 0 _ _ _ hrn
      have HBA := Lib.hid hba
      have HRN := Lib.hid hrn
      have HW2 := Lib.hid hw2
      have HNB := Lib.hid hnb
      have HLR := Lib.hid hlr
      have hIT2 := HIT.out.below hba
      have hcome : toCome w2 mb w.heap.size = toCome wn mb w.heap.size := toCome_at (hba.block mb HIT.out.map.lt) (hba.block w.heap.size HIT.out.lt)
      have hgr2 : wr.grownBy w2 (some w.heap.size) := grownB hg1 hba
      have HIT2 := Lib.hid hIT2
      have HCO := Lib.hid hcome
      have HGR2 := Lib.hid hgr2
      have HE12 := Lib.hid (And.intro e0 (And.intro e1 e2))
      clear hgo hge hfs hls hwf hit1 hg1 hs1 hlt hba hrn hre hw2 hlr hIT2 hcome hgr2 hnb
      have stay : goes p (getE L s) = false → RelSt w d mb w.heap.size L p w2 u5 (less left s) ks := fun hg => HR.out.stay HLS.out hg HIT2.out HGR2.out hd
      have STAY := Lib.hid stay
      clear stay
      by_cases h3 : st = 3
      rotate_left
      · have d3 : (st == 3) = false := by simpa using h3
        have hR2 := STAY.out (by rw [HGO.out, decide_eq_false h3]; rfl)
        have HR2 := Lib.hid hR2
        clear hR2 h3
        go_wp2_with (first | (rw [HW2.out, HNB.out]) | fail)
        go_roundw
        case rel => exact ⟨_, _, HR2⟩
        case measure => rw [HCO.out]; exact HLT.out
      subst h3
      by_cases h4 : ep ≤ p
      rotate_left
      · have d4 : decide (ep ≤ p) = false := decide_eq_false h4
        have hR2 := STAY.out (by rw [HGO.out, decide_eq_false h4, Bool.and_false])
        have HR2 := Lib.hid hR2
        clear hR2 h4
        go_wp2_with (first | (rw [HW2.out, HNB.out]) | fail)
        go_roundw
        case rel => exact ⟨_, _, HR2⟩
        case measure => rw [HCO.out]; exact HLT.out
      · have d4 : decide (ep ≤ p) = true := decide_eq_true h4
        have hgo : goes p (getE L s) = true := by rw [HGO.out, decide_eq_true h4]; rfl
        have HGT := Lib.hid hgo
        have OW := Lib.hid ((HR.out.own.grown HG1.out (fun g hg' e => by have := (HR.out.own.at_base g hg').1; injection e with e; omega)).below HBA.out)
        have HQ := Lib.hid (Nat.le_trans HR.out.few H.out.ok.n.2)
        have HSZ : Hid (w.heap.size + 1 ≤ w2.heap.size) := by show _ ≤ _; exact HIT2.out.lt
        clear h4 hgo
        go_wp2_with (first | (rw [HW2.out, HNB.out]) | (at_builtin; refine app_one i64Ts i64Is (by decide) rfl (.tmp 27) (.tmp 30) rfl _ (w.heap.size + 1) _ ks rfl OW.out _ rfl HWF.out (by have := HQ.out; omega) HSZ.out ?_; intro x3 w3 ho3 hg3))
        have hroom : ∀ g, room u5 = some g → w.heap.size + 1 ≤ g ∧ g < wr.heap.size := fun g hg' => HR.out.own.at_base g hg'
        have hsz := HG1.out.size
        have hrow3 : w3.heap[d]? = some (.cells #[.int .i64 L.length, .map (some mb)] 59 (0, 0)) :=
          (hg3.1.block d (by have := HSZ.out; omega) (fun e => by have := (hroom d e.symm).1; omega)).trans ((HGR2.out.block d (by have := HLR.out; omega) (fun e => by injection e with e; omega)).trans HR.out.row)
        have hnr3 : w3.heap[nb]? = some (.cells #[.int .i64 s] 63 (0, 0)) :=
          (hg3.1.block nb (Array.getElem?_eq_some_iff.1 HRN.out).1 (fun e => by have := (hroom nb e.symm).2; have := HNB.out; omega)).trans HRN.out
        have hmr : some mb ≠ room u5 := fun e => by have := (hroom mb e.symm).1; omega
        have hrr : some w.heap.size ≠ room u5 := fun e => by have := (hroom _ e.symm).1; omega
        have hit3 := HIT2.out.grown hg3.1 hmr hrr
        have hco3 : toCome w3 mb w.heap.size = toCome wn mb w.heap.size := (toCome_at (hg3.1.block mb HIT2.out.map.lt hmr) (hg3.1.block w.heap.size HIT2.out.lt hrr)).trans HCO.out
        have hgw3 := (HR.out.grown.andThen HGR2.out (fun j e => .inl (by injection e with e; omega))).andThen hg3.1 (fun j e => .inl (by have := (hroom j e).1; omega))
        have ROW3 := Lib.hid hrow3
        have GW3 := Lib.hid hgw3
        have OW3 := Lib.hid ho3
        have hrow : w3.drew.heap[d]? = some (.cells #[.int .i64 L.length, .map (some mb)] 59 (0, 0)) := hrow3
        have hnrow : w3.drew.heap[nb]? = some (.cells #[.int .i64 s] 63 (0, 0)) := hnr3
        have hit5 : IterE w3.drew mb w.heap.size (rem L p left) (less left s) ∧ toCome w3.drew mb w.heap.size ≤ toCome wn mb w.heap.size := ⟨hit3.grown (w' := w3.drew) (row := none) ⟨rfl, rfl, rfl, Nat.le_refl _, fun _ _ _ => rfl⟩ (by simp) (by simp), Nat.le_of_eq hco3⟩
        have hgrw : World.grownBy w3 w3.drew (some mb) := ⟨rfl, rfl, rfl, Nat.le_refl _, fun _ _ _ => rfl⟩
        clear hroom hsz hrow3 hnr3 hmr hrr hit3 hco3 hgw3 ho3 hg3 STAY HGR2 HE12 e0 e1 e2 n0
        refine' reg_order [eqV _, eqV _, eqV _, eqV _, eqV _, (fun _ w5 => IterE w5 mb w.heap.size (delE (rem L p left) s) (less left s) ∧ toCome w5 mb w.heap.size ≤ toCome wn mb w.heap.size)] [(5, fun w w' => World.grownBy w w' (some mb))] [(3, fun w5 => w5.heap[d]? = some (.cells #[.int .i64 L.length, .map (some mb)] 59 (0, 0))), (4, fun w5 => w5.heap[nb]? = some (.cells #[.int .i64 s] 63 (0, 0))), (5, fun w5 => IterE w5 mb w.heap.size (rem L p left) (less left s) ∧ toCome w5 mb w.heap.size ≤ toCome wn mb w.heap.size), (6, fun w5 => World.grownBy w3 w5 (some mb))] [32, 33, 34, 35, 36, 45] [[], [0], [1], [2], [], [3, 4]] [0, 1, 2, 3, 4, 5] 6 (by kernel_rfl) ⟨eqV_stays _, eqV_stays _, eqV_stays _, eqV_stays _, eqV_stays _, fun _ _ _ p b => ⟨IterE.below p.1 b, by rw [toCome_at (b.block mb p.1.map.lt) (b.block w.heap.size p.1.lt)]; exact p.2⟩, trivial⟩ ⟨⟨.inl (eqV_stays _), .inl (eqV_stays _), .inl (eqV_stays _), .inl (eqV_stays _), .inl (eqV_stays _), .inr (.inr rfl), trivial⟩, trivial⟩ ⟨fun _ _ p b => row_keep p b, fun _ _ p b => row_keep p b, fun _ _ p b => ⟨IterE.below p.1 b, by rw [toCome_at (b.block mb p.1.map.lt) (b.block w.heap.size p.1.lt)]; exact p.2⟩, fun _ _ p b => grownB p b, trivial⟩ ⟨⟨.inr (.inl (by kernel_rfl)), .inr (.inl (by kernel_rfl)), .inr (.inr rfl), .inl (fun _ _ p g => grown_one p g), trivial⟩, trivial⟩ ⟨hrow, hnrow, hit5, hgrw, trivial⟩ 40 rfl (by kernel_rfl) (by kernel_rfl) rfl rfl 6 rfl ?q1obl ?q1fin
        case q1obl =>
          refine And.intro ?q1o0 (And.intro ?q1o1 (And.intro ?q1o2 (And.intro ?q1o3 (And.intro ?q1o4 (And.intro ?q1o5 (True.intro))))))
          case q1o0 =>
            intro w1 hI
            refine turn2_on (by rfl) ?_
            intro K hK
            go_simp
            refine hK _ _ ⟨rfl, Kept.refl _, ?_⟩
            show _ = _
            simp only [List.getD_cons_zero, List.getD_cons_succ, Array.getD_eq_getD_getElem?, List.getElem?_toArray, List.getElem?_cons_zero, List.getElem?_cons_succ, Option.getD_some]
            rfl
          case q1o1 =>
            intro w1 hI
            intro v0 h0
            change _ = _ at h0
            subst v0
            refine turn2_on (by rfl) ?_
            intro K hK
            simp only [List.getD_cons_zero, List.getD_cons_succ, List.setIfInBounds_toArray, List.set_cons_zero, List.set_cons_succ]
            go_simp
            refine hK _ _ ⟨rfl, Kept.refl _, ?_⟩
            show _ = _
            simp only [List.getD_cons_zero, List.getD_cons_succ, Array.getD_eq_getD_getElem?, List.getElem?_toArray, List.getElem?_cons_zero, List.getElem?_cons_succ, Option.getD_some]
            rfl
          case q1o2 =>
            intro w1 hI
            intro v1 h1
            change _ = _ at h1
            subst v1
            refine turn2_on (by rfl) ?_
            intro K hK
            simp only [List.getD_cons_zero, List.getD_cons_succ, List.setIfInBounds_toArray, List.set_cons_zero, List.set_cons_succ]
            go_simp
            refine hK _ _ ⟨rfl, Kept.refl _, ?_⟩
            show _ = _
            simp only [List.getD_cons_zero, List.getD_cons_succ, Array.getD_eq_getD_getElem?, List.getElem?_toArray, List.getElem?_cons_zero, List.getElem?_cons_succ, Option.getD_some]
            rfl
          case q1o3 =>
            intro w1 hI
            replace hI : (fun w5 => w5.heap[d]? = some (.cells #[.int .i64 L.length, .map (some mb)] 59 (0, 0))) w1 := hI
            intro v2 h2
            change _ = _ at h2
            subst v2
            refine turn2_on (by rfl) ?_
            intro K hK
            simp only [List.getD_cons_zero, List.getD_cons_succ, List.setIfInBounds_toArray, List.set_cons_zero, List.set_cons_succ]
            have c1 : w1.cell? ⟨d, 1, none⟩ = some (.map (some mb)) := cell_of_row w1 d 1 _ _ _ hI
            go_simp
            refine hK _ _ ⟨rfl, Kept.refl _, ?_⟩
            show _ = _
            simp only [List.getD_cons_zero, List.getD_cons_succ, Array.getD_eq_getD_getElem?, List.getElem?_toArray, List.getElem?_cons_zero, List.getElem?_cons_succ, Option.getD_some]
            rfl
          case q1o4 =>
            intro w1 hI
            replace hI : (fun w5 => w5.heap[nb]? = some (.cells #[.int .i64 s] 63 (0, 0))) w1 := hI
            refine turn2_on (by rfl) ?_
            intro K hK
            have c0 : w1.cell? ⟨nb, 0, none⟩ = some (.int .i64 s) := cell_of_row w1 nb 0 _ _ _ hI
            go_simp
            refine hK _ _ ⟨rfl, Kept.refl _, ?_⟩
            show _ = _
            simp only [List.getD_cons_zero, List.getD_cons_succ, Array.getD_eq_getD_getElem?, List.getElem?_toArray, List.getElem?_cons_zero, List.getElem?_cons_succ, Option.getD_some]
            rfl
          case q1o5 =>
            intro w1 hI
            replace hI : (fun w5 => IterE w5 mb w.heap.size (rem L p left) (less left s) ∧ toCome w5 mb w.heap.size ≤ toCome wn mb w.heap.size) w1 := hI
            intro v3 h3
            change _ = _ at h3
            subst v3
            intro v4 h4
            change _ = _ at h4
            subst v4
            refine turn2_on (by rfl) ?_
            intro K hK
            simp only [List.getD_cons_zero, List.getD_cons_succ, List.setIfInBounds_toArray, List.set_cons_zero, List.set_cons_succ]
            obtain ⟨w9, hrun9, hit9, hg9, _, hle9⟩ := it_del hI.1 s HWF.out (by unfold less; simp) 0
            go_simp
            refine hK _ _ ⟨rfl, hg9, ?_⟩
            exact ⟨hit9, Nat.le_trans hle9 hI.2⟩
        intro w4 hI
        replace hI : (fun w5 => World.grownBy w3 w5 (some mb)) w4 := hI
        intro v0 h0
        change _ = _ at h0
        subst v0
        intro v1 h1
        change _ = _ at h1
        subst v1
        intro v2 h2
        change _ = _ at h2
        subst v2
        intro v3 h3
        change _ = _ at h3
        subst v3
        intro v4 h4
        change _ = _ at h4
        subst v4
        intro v5 h5
        simp only [Given, List.getD_cons_zero, List.getD_cons_succ, List.setIfInBounds_toArray, List.set_cons_zero, List.set_cons_succ]
        have HF := Lib.hid h5
        have hR4 : RelSt w d mb w.heap.size L p w4 x3 (less left s) (ks ++ [s]) := HR.out.more HLS.out HGT.out HF.out.1
          ((hI.block d (Array.getElem?_eq_some_iff.1 ROW3.out).1 (fun e => by have := H.out.ne; injection e with e; exact this e)).trans ROW3.out)
          (OW3.out.grown hI (fun g hg' e => by have := (OW3.out.at_base g hg').1; injection e with e; omega)) (GW3.out.andThen hI (fun j e => .inr e))
        have HR4 := Lib.hid hR4
        clear hR4 h5 hI
        go_wp2
        go_roundw
        case rel =>
          repeat apply Exists.intro
          exact ⟨⟨_, _, HR4⟩, rfl⟩
        case measure => exact Nat.lt_of_le_of_lt HF.out.2 HLT.out
end Go.Proofs.Ythikpggndjfeaaa
