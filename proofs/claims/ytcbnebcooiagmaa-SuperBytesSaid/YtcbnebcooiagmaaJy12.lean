/- Joined: The reference's Encode of superblocks. super: Encode at every block; Slot, Newer; slices.Equal; several cells stored. codec's Reader: the contracts of count and of the closures that are tried. codec's try: Between, Bytes, List. The reference's Reader of records: Between, count, Bytes, List. -/
import Derived.Test.YtcbnebcooiagmaaJy11
import Derived.Deep.QuietTactic
import Derived.BigQuiet
import Derived.Test.YtcbnebcooiagmaaJy2
namespace Go.Proofs.Ytcbnebcooiagmaa
open Go.RowKit
/-- A slice's length. -/
def lenOf (v : Value) : Nat := match v with | .slice _ n _ => n | _ => 0
set_option linter.unusedSimpArgs false in
set_option linter.unusedVariables false in
set_option maxRecDepth 100000 in
set_option maxHeartbeats 8000000 in
theorem refenc_yes (ep f0 f1 f2 f3 f4 f5 f6 f7 f8 rs rn sq : Int) (w : World) (hw : Blk.Wf ⟨ep, f0, f1, f2, f3, f4, f5, f6, f7, f8, rs, rn, sq⟩) (h : supArg ⟨ep, f0, f1, f2, f3, f4, f5, f6, f7, f8, rs, rn, sq⟩ = true) :
    Calls Try.prog 10 #[.agg #[.int .u64 ep, .int .i64 f0, .int .i64 f1, .int .i64 f2, .int .i64 f3, .int .i64 f4, .int .i64 f5, .int .i64 f6, .int .i64 f7, .int .i64 f8, .int .i64 rs, .int .i64 rn, .int .u64 sq]] w fun e w' => ∃ v, e = .returned (.tuple #[v, .int .i64 (supE ⟨ep, f0, f1, f2, f3, f4, f5, f6, f7, f8, rs, rn, sq⟩)]) ∧ Owns .u8 5 w' w.heap.size v (supV ⟨ep, f0, f1, f2, f3, f4, f5, f6, f7, f8, rs, rn, sq⟩) ∧ Below w.heap.size w w' := by
  have hck : chkB f0 f1 f2 f3 f4 f5 f6 f7 f8 = true := by
    unfold supArg Blk.chk at h
    simp only [Bool.and_eq_true] at h
    exact h.1.1
  have hrs : 0 ≤ rs ∧ 0 ≤ rn := by
    unfold supArg at h
    simp only [Bool.and_eq_true, decide_eq_true_eq] at h
    exact ⟨h.1.2, h.2⟩
  have HCK : Hid (chkN f0 f1 f2 f3 f4 f5 f6 f7 f8 = 0) := by show _ = _; unfold chkN; rw [if_pos hck]
  have hc1 : 64 ≤ f1 ∧ f1 ≤ 4096 := (chk_bd (b := ⟨ep, f0, f1, f2, f3, f4, f5, f6, f7, f8, rs, rn, sq⟩) hck).2
  have HSA := Lib.hid h
  have HW := Lib.hid hw
  have d1 : decide (rs < 0) = false := decide_eq_false (by omega)
  have d2 : decide (rn < 0) = false := decide_eq_false (by omega)
  obtain ⟨N, hN⟩ := Int.eq_ofNat_of_zero_le (show 0 ≤ f1 by omega)
  subst hN
  have hN1 : 64 ≤ N := by omega
  have hN2 : N ≤ 4096 := by omega
  clear h hck hc1
  have hba : Below w.heap.size w (w.alloc (.cells #[.int .u64 ep, .int .i64 f0, .int .i64 (N : Int), .int .i64 f2, .int .i64 f3, .int .i64 f4, .int .i64 f5, .int .i64 f6, .int .i64 f7, .int .i64 f8, .int .i64 rs, .int .i64 rn, .int .u64 sq] 36)) := (Below.refl _ _).alloc (Nat.le_refl _) _
  have hrow := heap_alloc_new w (.cells #[.int .u64 ep, .int .i64 f0, .int .i64 (N : Int), .int .i64 f2, .int .i64 f3, .int .i64 f4, .int .i64 f5, .int .i64 f6, .int .i64 f7, .int .i64 f8, .int .i64 rs, .int .i64 rn, .int .u64 sq] 36)
  obtain ⟨hb, hhb⟩ : ∃ hb, w.heap.size = hb := ⟨_, rfl⟩
  obtain ⟨wa, hwa⟩ : ∃ wa, w.alloc (.cells #[.int .u64 ep, .int .i64 f0, .int .i64 (N : Int), .int .i64 f2, .int .i64 f3, .int .i64 f4, .int .i64 f5, .int .i64 f6, .int .i64 f7, .int .i64 f8, .int .i64 rs, .int .i64 rn, .int .u64 sq] 36) = wa := ⟨_, rfl⟩
  rw [hwa, hhb] at hba hrow
  have HBA := Lib.hid hba
  have HROW := Lib.hid hrow
  have HHB := Lib.hid hhb
  have HWA := Lib.hid hwa
  have hlt : hb < wa.heap.size := (Array.getElem?_eq_some_iff.1 hrow).1
  clear hba hrow hhb hwa
  go_enter Try.func10, Try.ntmps10
  go_wp2_with fail
  try rw [HWA.out, HHB.out]
  refine (refcheck_any f0 (N : Int) f2 f3 f4 f5 f6 f7 f8 _).mono ?_
  rintro e w1 ⟨rfl, hb1⟩
  rw [HCK.out]
  have BW1 := Lib.hid (Below.trans HBA.out (hb1.mono (Nat.le_of_lt hlt)))
  have ROW1 : Hid (w1.heap[hb]? = some (.cells #[.int .u64 ep, .int .i64 f0, .int .i64 (N : Int), .int .i64 f2, .int .i64 f3, .int .i64 f4, .int .i64 f5, .int .i64 f6, .int .i64 f7, .int .i64 f8, .int .i64 rs, .int .i64 rn, .int .u64 sq] 36 (0, 0))) := by show _ = _; rw [hb1.block hb hlt]; exact HROW.out
  clear hb1
  obtain ⟨z0, z1, z2, z3, z4, z5, z6, z7, z8, z9, z10, z11, z12⟩ := cells13 ROW1.out
  obtain ⟨B1, hB1⟩ : ∃ B1, w1.heap.size = B1 := ⟨_, rfl⟩
  have HB1 : Hid (B1 ≤ w1.drew.heap.size) := by show B1 ≤ w1.heap.size; omega
  have HLB1 : Hid (hb < B1) := by show _ < _; rw [← hB1]; exact (Array.getElem?_eq_some_iff.1 ROW1.out).1
  clear hB1
  go_wp2_with fail
  refine' reg_kill [(1, 0), (7, 0), (7, 1), (7, 4)] [(fun v w3 => ∃ q, v = Value.slice (some ⟨q, 0, none⟩) 8 8 ∧ B1 ≤ q ∧ w3.heap[q]? = some (.cells (magicL.map (Value.int .u8)).toArray 5 (0, 0))), (fun v w3 => ∃ q, v = Value.slice (some ⟨q, 0, none⟩) 8 8 ∧ RdAt .u8 w3 (some ⟨q, 0, none⟩) 8 8 magicL), eqV _, eqV _, (fun v w3 => Owns .u8 5 w3 B1 v (magicL ++ putL ep 8)), eqV _, eqV _, (fun v w3 => Owns .u8 5 w3 (hb + 1) v (supHead ⟨ep, f0, (N : Int), f2, f3, f4, f5, f6, f7, f8, rs, rn, sq⟩)), (fun v w3 => Owns .u8 5 w3 (hb + 1) v (supHead ⟨ep, f0, (N : Int), f2, f3, f4, f5, f6, f7, f8, rs, rn, sq⟩))] [(1, fun w5 w6 => Below B1 w5 w6), (7, fun w5 w6 => Below B1 w5 w6)] [(0, fun w => B1 ≤ w.heap.size), (3, fun w => w.heap[hb]? = some (.cells #[.int .u64 ep, .int .i64 f0, .int .i64 (N : Int), .int .i64 f2, .int .i64 f3, .int .i64 f4, .int .i64 f5, .int .i64 f6, .int .i64 f7, .int .i64 f8, .int .i64 rs, .int .i64 rn, .int .u64 sq] 36 (0, 0))), (4, fun w => B1 ≤ w.heap.size), (6, fun w => w.heap[hb]? = some (.cells #[.int .u64 ep, .int .i64 f0, .int .i64 (N : Int), .int .i64 f2, .int .i64 f3, .int .i64 f4, .int .i64 f5, .int .i64 f6, .int .i64 f7, .int .i64 f8, .int .i64 rs, .int .i64 rn, .int .u64 sq] 36 (0, 0))), (7, fun w => B1 ≤ w.heap.size), (9, fun w3 => (w3.heap[hb]? = some (.cells #[.int .u64 ep, .int .i64 f0, .int .i64 (N : Int), .int .i64 f2, .int .i64 f3, .int .i64 f4, .int .i64 f5, .int .i64 f6, .int .i64 f7, .int .i64 f8, .int .i64 rs, .int .i64 rn, .int .u64 sq] 36 (0, 0))) ∧ Below hb w w3)] [21, 22, 23, 24, 25, 26, 27, 28, 4] [[], [0], [], [2], [1, 3], [], [5], [4, 6], [7]] [0, 1, 2, 3, 4, 5, 6, 7, 8] 9 (by kernel_rfl) (by kernel_rfl) ⟨fun _ _ _ ⟨q, e, h1, h2⟩ b => ⟨q, e, h1, row_keep h2 b⟩, fun _ _ _ ⟨q, e, h⟩ b => ⟨q, e, h.below b⟩, eqV_stays _, eqV_stays _, fun _ _ _ p b => Owns.below p b, eqV_stays _, eqV_stays _, fun _ _ _ p b => Owns.below p b, fun _ _ _ p b => Owns.below p b, trivial⟩ ⟨⟨.inr (.inr (.inr (by kernel_rfl))), .inr (.inr (.inl rfl)), .inl (eqV_stays _), .inl (eqV_stays _), .inr (.inl (by kernel_rfl)), .inl (eqV_stays _), .inl (eqV_stays _), .inr (.inl (by kernel_rfl)), .inr (.inl (by kernel_rfl)), trivial⟩, ⟨.inr (.inr (.inr (by kernel_rfl))), .inr (.inr (.inr (by kernel_rfl))), .inl (eqV_stays _), .inl (eqV_stays _), .inr (.inr (.inr (by kernel_rfl))), .inl (eqV_stays _), .inl (eqV_stays _), .inr (.inr (.inl rfl)), .inr (.inl (by kernel_rfl)), trivial⟩, trivial⟩ ⟨fun _ _ p b => Nat.le_trans p b.size, fun _ _ p b => row_keep p b, fun _ _ p b => Nat.le_trans p b.size, fun _ _ p b => row_keep p b, fun _ _ p b => Nat.le_trans p b.size, fun _ _ p b => ⟨row_keep p.1 b, Below.trans p.2 (b.mono (Nat.le_of_lt (Array.getElem?_eq_some_iff.1 p.1).1))⟩, trivial⟩ ⟨⟨.inr (.inl (by kernel_rfl)), .inl (fun _ _ p b => (Below.block b hb HLB1.out).trans p), .inl (fun _ _ p b => Nat.le_trans p b.size), .inl (fun _ _ p b => (Below.block b hb HLB1.out).trans p), .inl (fun _ _ p b => Nat.le_trans p b.size), .inl (fun _ _ p b => ⟨(Below.block b hb HLB1.out).trans p.1, Below.trans p.2 (Below.mono b (Nat.le_of_lt HLB1.out))⟩), trivial⟩, ⟨.inr (.inl (by kernel_rfl)), .inr (.inl (by kernel_rfl)), .inr (.inl (by kernel_rfl)), .inr (.inl (by kernel_rfl)), .inr (.inr rfl), .inl (fun _ _ p b => ⟨(Below.block b hb HLB1.out).trans p.1, Below.trans p.2 (Below.mono b (Nat.le_of_lt HLB1.out))⟩), trivial⟩, trivial⟩ ⟨HB1.out, ROW1.out, HB1.out, ROW1.out, HB1.out, ⟨ROW1.out, below_drew1 BW1.out⟩, trivial⟩ 62 rfl (by kernel_rfl) (by kernel_rfl) rfl rfl 9 rfl ?q1obl ?q1fin
  case q1obl =>
    refine And.intro ?q1o0 (And.intro ?q1o1 (And.intro ?q1o2 (And.intro ?q1o3 (And.intro ?q1o4 (And.intro ?q1o5 (And.intro ?q1o6 (And.intro ?q1o7 (And.intro ?q1o8 (True.intro)))))))))
    case q1o0 =>
      intro w1 hI
      replace hI : (fun w => B1 ≤ w.heap.size) w1 := hI
      refine turn2_on (by rfl) ?_
      intro K hK
      go_simp
      refine hK _ _ ⟨rfl, (Below.refl _ _).alloc (Nat.le_refl _) _, ?_⟩
      show ∃ q, _ = Value.slice (some ⟨q, 0, none⟩) 8 8 ∧ _ ∧ _
      simp only [List.getD_cons_zero, List.getD_cons_succ, Array.getD_eq_getD_getElem?, List.getElem?_toArray, List.getElem?_cons_zero, List.getElem?_cons_succ, Option.getD_some]
      exact ⟨_, rfl, hI, heap_alloc_new _ _⟩
    case q1o1 =>
      intro w1 hI
      intro v0 h0
      obtain ⟨q0, rfl, hq0, h0⟩ := h0
      refine turn2_on (by rfl) ?_
      intro K hK
      simp only [List.getD_cons_zero, List.getD_cons_succ, List.setIfInBounds_toArray, List.set_cons_zero, List.set_cons_succ]
      refine wp_mark 22 rfl u8T s8 _ rfl rfl h0 ?_
      intro w9 hr9 hg9
      have hq9 := (Array.getElem?_eq_some_iff.1 h0).1
      refine hK _ _ ⟨rfl, (Below.refl B1 w1).grown hg9 (by omega) (fun k hk => by injection hk with hk; omega), ?_⟩
      show ∃ q, _ = Value.slice (some ⟨q, 0, none⟩) 8 8 ∧ _
      simp only [List.getD_cons_zero, List.getD_cons_succ, Array.getD_eq_getD_getElem?, List.getElem?_toArray, List.getElem?_cons_zero, List.getElem?_cons_succ, Option.getD_some]
      exact ⟨_, rfl, rd_row hr9 (by decide) (by decide)⟩
    case q1o2 =>
      intro w1 hI
      refine turn2_on (by rfl) ?_
      intro K hK
      go_simp
      refine hK _ _ ⟨rfl, Kept.refl _, ?_⟩
      show _ = _
      simp only [List.getD_cons_zero, List.getD_cons_succ, Array.getD_eq_getD_getElem?, List.getElem?_toArray, List.getElem?_cons_zero, List.getElem?_cons_succ, Option.getD_some]
      rfl
    case q1o3 =>
      intro w1 hI
      replace hI : (fun w => w.heap[hb]? = some (.cells #[.int .u64 ep, .int .i64 f0, .int .i64 (N : Int), .int .i64 f2, .int .i64 f3, .int .i64 f4, .int .i64 f5, .int .i64 f6, .int .i64 f7, .int .i64 f8, .int .i64 rs, .int .i64 rn, .int .u64 sq] 36 (0, 0))) w1 := hI
      intro v2 h2
      change _ = _ at h2
      subst v2
      refine turn2_on (by rfl) ?_
      intro K hK
      simp only [List.getD_cons_zero, List.getD_cons_succ, List.setIfInBounds_toArray, List.set_cons_zero, List.set_cons_succ]
      obtain ⟨z0, z1, z2, z3, z4, z5, z6, z7, z8, z9, z10, z11, z12⟩ := cells13 hI
      go_simp
      refine hK _ _ ⟨rfl, Kept.refl _, ?_⟩
      show _ = _
      simp only [List.getD_cons_zero, List.getD_cons_succ, Array.getD_eq_getD_getElem?, List.getElem?_toArray, List.getElem?_cons_zero, List.getElem?_cons_succ, Option.getD_some]
      rfl
    case q1o4 =>
      intro w1 hI
      replace hI : (fun w => B1 ≤ w.heap.size) w1 := hI
      intro v1 h1
      obtain ⟨q1, rfl, h1⟩ := h1
      intro v3 h3
      change _ = _ at h3
      subst v3
      refine turn2_on (by rfl) ?_
      intro K hK
      simp only [List.getD_cons_zero, List.getD_cons_succ, List.setIfInBounds_toArray, List.set_cons_zero, List.set_cons_succ]
      go_simp
      refine Calls.mono (rput_full _ 8 magicL ep w1 h1 (by decide) HW.out.ep.1 HW.out.ep.2) ?_
      rintro e w2 ⟨vv, rfl, hov, hbx⟩
      refine hK _ _ ⟨rfl, hbx, ?_⟩
      show Owns _ _ _ _ _ _
      simp only [List.getD_cons_zero, List.getD_cons_succ, Array.getD_eq_getD_getElem?, List.getElem?_toArray, List.getElem?_cons_zero, List.getElem?_cons_succ, Option.getD_some]
      exact hov.mono hI
    case q1o5 =>
      intro w1 hI
      refine turn2_on (by rfl) ?_
      intro K hK
      go_simp
      refine hK _ _ ⟨rfl, Kept.refl _, ?_⟩
      show _ = _
      simp only [List.getD_cons_zero, List.getD_cons_succ, Array.getD_eq_getD_getElem?, List.getElem?_toArray, List.getElem?_cons_zero, List.getElem?_cons_succ, Option.getD_some]
      rfl
    case q1o6 =>
      intro w1 hI
      replace hI : (fun w => w.heap[hb]? = some (.cells #[.int .u64 ep, .int .i64 f0, .int .i64 (N : Int), .int .i64 f2, .int .i64 f3, .int .i64 f4, .int .i64 f5, .int .i64 f6, .int .i64 f7, .int .i64 f8, .int .i64 rs, .int .i64 rn, .int .u64 sq] 36 (0, 0))) w1 := hI
      intro v5 h5
      change _ = _ at h5
      subst v5
      refine turn2_on (by rfl) ?_
      intro K hK
      simp only [List.getD_cons_zero, List.getD_cons_succ, List.setIfInBounds_toArray, List.set_cons_zero, List.set_cons_succ]
      obtain ⟨z0, z1, z2, z3, z4, z5, z6, z7, z8, z9, z10, z11, z12⟩ := cells13 hI
      go_simp
      refine hK _ _ ⟨rfl, Kept.refl _, ?_⟩
      show _ = _
      simp only [List.getD_cons_zero, List.getD_cons_succ, Array.getD_eq_getD_getElem?, List.getElem?_toArray, List.getElem?_cons_zero, List.getElem?_cons_succ, Option.getD_some]
      rfl
    case q1o7 =>
      intro w1 hI
      replace hI : (fun w => B1 ≤ w.heap.size) w1 := hI
      intro v4 h4
      intro v6 h6
      change _ = _ at h6
      subst v6
      refine turn2_on (by rfl) ?_
      intro K hK
      simp only [List.getD_cons_zero, List.getD_cons_succ, List.setIfInBounds_toArray, List.set_cons_zero, List.set_cons_succ]
      go_simp
      refine Calls.mono (rput_any v4 (magicL ++ putL ep 8) sq 8 w1 B1 h4 hI (by rw [List.length_append, putL_len]; simp [magicL]) HW.out.sq.1 HW.out.sq.2 (by omega) (by omega)) ?_
      rintro e w2 ⟨vv, rfl, hov, hgx⟩
      refine hK _ _ ⟨rfl, hgx.below hI (fun g hg => (h4.at_base g hg).1), ?_⟩
      show Owns _ _ _ _ _ _
      simp only [List.getD_cons_zero, List.getD_cons_succ, Array.getD_eq_getD_getElem?, List.getElem?_toArray, List.getElem?_cons_zero, List.getElem?_cons_succ, Option.getD_some]
      rw [show putN 8 = 8 from rfl] at hov
      exact hov.mono (by have := HLB1.out; omega)
    case q1o8 =>
      intro w1 hI
      intro v7 h7
      refine turn2_on (by rfl) ?_
      intro K hK
      simp only [List.getD_cons_zero, List.getD_cons_succ, List.setIfInBounds_toArray, List.set_cons_zero, List.set_cons_succ]
      go_simp
      refine hK _ _ ⟨rfl, Kept.refl _, ?_⟩
      show Owns _ _ _ _ _ _
      simp only [List.getD_cons_zero, List.getD_cons_succ, Array.getD_eq_getD_getElem?, List.getElem?_toArray, List.getElem?_cons_zero, List.getElem?_cons_succ, Option.getD_some]
      exact h7
  intro w2 hI
  replace hI : (fun w3 => (w3.heap[hb]? = some (.cells #[.int .u64 ep, .int .i64 f0, .int .i64 (N : Int), .int .i64 f2, .int .i64 f3, .int .i64 f4, .int .i64 f5, .int .i64 f6, .int .i64 f7, .int .i64 f8, .int .i64 rs, .int .i64 rn, .int .u64 sq] 36 (0, 0))) ∧ Below hb w w3) w2 := hI
  intro v0 _
  intro v1 _
  intro v2 h2
  replace h2 := h2 (by kernel_rfl)
  change _ = _ at h2
  subst v2
  intro v3 h3
  replace h3 := h3 (by kernel_rfl)
  change _ = _ at h3
  subst v3
  intro v4 _
  intro v5 h5
  replace h5 := h5 (by kernel_rfl)
  change _ = _ at h5
  subst v5
  intro v6 h6
  replace h6 := h6 (by kernel_rfl)
  change _ = _ at h6
  subst v6
  intro v7 h7
  replace h7 := h7 (by kernel_rfl)
  intro v8 h8
  replace h8 := h8 (by kernel_rfl)
  simp only [Given, List.getD_cons_zero, List.getD_cons_succ, List.setIfInBounds_toArray, List.set_cons_zero, List.set_cons_succ]
  have RO2 := Lib.hid hI.1
  have BW2 := Lib.hid hI.2
  have OH := Lib.hid h8
  clear h8 hI z0 z1 z2 z3 z4 z5 z6 z7 z8 z9 z10 z11 z12 BW1 ROW1 HB1 HLB1
  obtain ⟨a8, c8, rfl⟩ := OH.out.shapeN 24 (supHead_len _)
  obtain ⟨z0, z1, z2, z3, z4, z5, z6, z7, z8, z9, z10, z11, z12⟩ := cells13 RO2.out
  have hl2 := (Array.getElem?_eq_some_iff.1 RO2.out).1
  go_wp2_with fail
  refine (renc_any f0 (N : Int) f2 f3 f4 f5 f6 f7 f8 w2 HW.out.w0 HW.out.w1 HW.out.w2 HW.out.w3 HW.out.w4 HW.out.w5 HW.out.w6 HW.out.w7 HW.out.w8).mono ?_
  rintro e w3 ⟨v3, rfl, ho3, hb3⟩
  have hel := encL_len [f0, (N : Int), f2, f3, f4, f5, f6, f7, f8]
  simp only [List.length_cons, List.length_nil] at hel
  obtain ⟨n3, hn3⟩ : ∃ n3, (encL [f0, (N : Int), f2, f3, f4, f5, f6, f7, f8]).length = n3 := ⟨_, rfl⟩
  obtain ⟨a3, c3, rfl⟩ := ho3.shapeN n3 hn3
  rw [hn3] at hel
  have HN3 := Lib.hid hn3
  have O3 := Lib.hid ho3
  have RO3 := Lib.hid (row_keep RO2.out hb3)
  have BW3 := Lib.hid (Below.trans BW2.out (hb3.mono (Nat.le_of_lt hl2)))
  have OH3 := Lib.hid (OH.out.below hb3)
  have hs3 := hb3.size
  have HAT := Lib.hid (fun g hg => OH.out.at_base g hg)
  clear ho3 hb3 hn3 z0 z1 z2 z3 z4 z5 z6 z7 z8 z9 z10 z11 z12
  go_wp2_with fail
  refine (rcbytes_any _ _ a3 n3 c3 _ w3 (hb + 1) OH3.out (by omega) (by rw [supHead_len]; omega) (by omega) O3.out.rd (fun x hx hn e => by have h1 := HAT.out _ e.symm; have h2 := owns_ge (q := x) (by rw [← hx]; exact O3.out) hn; omega)).mono ?_
  rintro e w4 ⟨v4, rfl, ho4, hg4⟩
  have hl4 : (supHead ⟨ep, f0, (N : Int), f2, f3, f4, f5, f6, f7, f8, rs, rn, sq⟩ ++ varF 9 (zigI (encL [f0, (N : Int), f2, f3, f4, f5, f6, f7, f8]).length) ++ encL [f0, (N : Int), f2, f3, f4, f5, f6, f7, f8]).length ≤ 24 + 10 + 90 := by
    have h1 := (varF_len 9 (zigI (encL [f0, (N : Int), f2, f3, f4, f5, f6, f7, f8]).length)).2
    have h2 := HN3.out
    rw [List.length_append, List.length_append, supHead_len]
    omega
  have HLL4 : Hid ((supHead ⟨ep, f0, (N : Int), f2, f3, f4, f5, f6, f7, f8, rs, rn, sq⟩ ++ varF 9 (zigI (encL [f0, (N : Int), f2, f3, f4, f5, f6, f7, f8]).length) ++ encL [f0, (N : Int), f2, f3, f4, f5, f6, f7, f8]).length ≤ 1000000000) := by show _ ≤ _; omega
  have HLL5 : Hid ((supHead ⟨ep, f0, (N : Int), f2, f3, f4, f5, f6, f7, f8, rs, rn, sq⟩ ++ varF 9 (zigI (encL [f0, (N : Int), f2, f3, f4, f5, f6, f7, f8]).length) ++ encL [f0, (N : Int), f2, f3, f4, f5, f6, f7, f8] ++ varF 9 (zigI rs)).length ≤ 1000000000) := by
    show _ ≤ _
    have h1 := (varF_len 9 (zigI rs)).2
    rw [List.length_append]
    omega
  rw [← HN3.out] at ho4
  obtain ⟨n4, hn4⟩ : ∃ n4, (supHead ⟨ep, f0, (N : Int), f2, f3, f4, f5, f6, f7, f8, rs, rn, sq⟩ ++ varF 9 (zigI (encL [f0, (N : Int), f2, f3, f4, f5, f6, f7, f8]).length) ++ encL [f0, (N : Int), f2, f3, f4, f5, f6, f7, f8]).length = n4 := ⟨_, rfl⟩
  obtain ⟨a4, c4, rfl⟩ := ho4.shapeN n4 hn4
  have O4 := Lib.hid ho4
  have hs4 := hg4.1.size
  have HS4 : Hid (hb + 1 ≤ w4.heap.size) := by show _ ≤ _; omega
  have ROW4 := Lib.hid ((hg4.1.block hb (by omega) (fun e => by have := (HAT.out hb e.symm).1; omega)).trans RO3.out)
  have BW4 : Hid (Below hb w w4) := Below.trans BW3.out (hg4.below (by omega) (fun g hg => by have := (HAT.out g hg).1; omega))
  clear ho4 hg4 hl4 hn4
  go_wp2_with fail
  refine' reg_kill [(8, 4)] [eqV _, eqV _, eqV _, eqV _, (fun v w3 => Owns .u8 5 w3 (hb + 1) v (supHead ⟨ep, f0, (N : Int), f2, f3, f4, f5, f6, f7, f8, rs, rn, sq⟩ ++ varF 9 (zigI (encL [f0, (N : Int), f2, f3, f4, f5, f6, f7, f8]).length) ++ encL [f0, (N : Int), f2, f3, f4, f5, f6, f7, f8] ++ varF 9 (zigI rs))), eqV _, eqV _, eqV _, (fun v w3 => Owns .u8 5 w3 (hb + 1) v (supHead ⟨ep, f0, (N : Int), f2, f3, f4, f5, f6, f7, f8, rs, rn, sq⟩ ++ varF 9 (zigI (encL [f0, (N : Int), f2, f3, f4, f5, f6, f7, f8]).length) ++ encL [f0, (N : Int), f2, f3, f4, f5, f6, f7, f8] ++ varF 9 (zigI rs) ++ varF 9 (zigI rn))), (fun v w3 => Owns .u8 5 w3 (hb + 1) v (supHead ⟨ep, f0, (N : Int), f2, f3, f4, f5, f6, f7, f8, rs, rn, sq⟩ ++ varF 9 (zigI (encL [f0, (N : Int), f2, f3, f4, f5, f6, f7, f8]).length) ++ encL [f0, (N : Int), f2, f3, f4, f5, f6, f7, f8] ++ varF 9 (zigI rs) ++ varF 9 (zigI rn)))] [(4, fun w5 w6 => Below (hb + 1) w5 w6), (8, fun w5 w6 => Below (hb + 1) w5 w6)] [(3, fun w => w.heap[hb]? = some (.cells #[.int .u64 ep, .int .i64 f0, .int .i64 (N : Int), .int .i64 f2, .int .i64 f3, .int .i64 f4, .int .i64 f5, .int .i64 f6, .int .i64 f7, .int .i64 f8, .int .i64 rs, .int .i64 rn, .int .u64 sq] 36 (0, 0))), (4, fun w => Owns .u8 5 w (hb + 1) (.slice a4 n4 c4) (supHead ⟨ep, f0, (N : Int), f2, f3, f4, f5, f6, f7, f8, rs, rn, sq⟩ ++ varF 9 (zigI (encL [f0, (N : Int), f2, f3, f4, f5, f6, f7, f8]).length) ++ encL [f0, (N : Int), f2, f3, f4, f5, f6, f7, f8]) ∧ hb + 1 ≤ w.heap.size), (7, fun w => w.heap[hb]? = some (.cells #[.int .u64 ep, .int .i64 f0, .int .i64 (N : Int), .int .i64 f2, .int .i64 f3, .int .i64 f4, .int .i64 f5, .int .i64 f6, .int .i64 f7, .int .i64 f8, .int .i64 rs, .int .i64 rn, .int .u64 sq] 36 (0, 0))), (8, fun w => hb + 1 ≤ w.heap.size), (10, fun w3 => (w3.heap[hb]? = some (.cells #[.int .u64 ep, .int .i64 f0, .int .i64 (N : Int), .int .i64 f2, .int .i64 f3, .int .i64 f4, .int .i64 f5, .int .i64 f6, .int .i64 f7, .int .i64 f8, .int .i64 rs, .int .i64 rn, .int .u64 sq] 36 (0, 0))) ∧ Below hb w w3)] [34, 35, 36, 37, 38, 39, 40, 41, 42, 4] [[], [], [1], [2], [0, 3], [], [5], [6], [4, 7], [8]] [0, 1, 2, 3, 4, 5, 6, 7, 8, 9] 10 (by kernel_rfl) (by kernel_rfl) ⟨eqV_stays _, eqV_stays _, eqV_stays _, eqV_stays _, fun _ _ _ p b => Owns.below p b, eqV_stays _, eqV_stays _, eqV_stays _, fun _ _ _ p b => Owns.below p b, fun _ _ _ p b => Owns.below p b, trivial⟩ ⟨⟨.inl (eqV_stays _), .inl (eqV_stays _), .inl (eqV_stays _), .inl (eqV_stays _), .inr (.inr (.inl rfl)), .inl (eqV_stays _), .inl (eqV_stays _), .inl (eqV_stays _), .inr (.inl (by kernel_rfl)), .inr (.inl (by kernel_rfl)), trivial⟩, ⟨.inl (eqV_stays _), .inl (eqV_stays _), .inl (eqV_stays _), .inl (eqV_stays _), .inr (.inr (.inr (by kernel_rfl))), .inl (eqV_stays _), .inl (eqV_stays _), .inl (eqV_stays _), .inr (.inr (.inl rfl)), .inr (.inl (by kernel_rfl)), trivial⟩, trivial⟩ ⟨fun _ _ p b => row_keep p b, fun _ _ p b => ⟨Owns.below p.1 b, Nat.le_trans p.2 b.size⟩, fun _ _ p b => row_keep p b, fun _ _ p b => Nat.le_trans p b.size, fun _ _ p b => ⟨row_keep p.1 b, Below.trans p.2 (b.mono (Nat.le_of_lt (Array.getElem?_eq_some_iff.1 p.1).1))⟩, trivial⟩ ⟨⟨.inr (.inl (by kernel_rfl)), .inr (.inr rfl), .inl (fun _ _ p b => (Below.block b hb (Nat.lt_succ_self hb)).trans p), .inl (fun _ _ p b => Nat.le_trans p b.size), .inl (fun _ _ p b => ⟨(Below.block b hb (Nat.lt_succ_self hb)).trans p.1, Below.trans p.2 (Below.mono b (Nat.le_succ hb))⟩), trivial⟩, ⟨.inr (.inl (by kernel_rfl)), .inr (.inl (by kernel_rfl)), .inr (.inl (by kernel_rfl)), .inr (.inr rfl), .inl (fun _ _ p b => ⟨(Below.block b hb (Nat.lt_succ_self hb)).trans p.1, Below.trans p.2 (Below.mono b (Nat.le_succ hb))⟩), trivial⟩, trivial⟩ ⟨ROW4.out, ⟨O4.out, HS4.out⟩, ROW4.out, HS4.out, ⟨ROW4.out, below_drew1 BW4.out⟩, trivial⟩ 62 rfl (by kernel_rfl) (by kernel_rfl) rfl rfl 10 rfl ?q2obl ?q2fin
  case q2obl =>
    refine And.intro ?q2o0 (And.intro ?q2o1 (And.intro ?q2o2 (And.intro ?q2o3 (And.intro ?q2o4 (And.intro ?q2o5 (And.intro ?q2o6 (And.intro ?q2o7 (And.intro ?q2o8 (And.intro ?q2o9 (True.intro))))))))))
    case q2o0 =>
      intro w1 hI
      refine turn2_on (by rfl) ?_
      intro K hK
      go_simp
      refine hK _ _ ⟨rfl, Kept.refl _, ?_⟩
      show _ = _
      simp only [List.getD_cons_zero, List.getD_cons_succ, Array.getD_eq_getD_getElem?, List.getElem?_toArray, List.getElem?_cons_zero, List.getElem?_cons_succ, Option.getD_some]
      rfl
    case q2o1 =>
      intro w1 hI
      refine turn2_on (by rfl) ?_
      intro K hK
      go_simp
      refine hK _ _ ⟨rfl, Kept.refl _, ?_⟩
      show _ = _
      simp only [List.getD_cons_zero, List.getD_cons_succ, Array.getD_eq_getD_getElem?, List.getElem?_toArray, List.getElem?_cons_zero, List.getElem?_cons_succ, Option.getD_some]
      rfl
    case q2o2 =>
      intro w1 hI
      intro v1 h1
      change _ = _ at h1
      subst v1
      refine turn2_on (by rfl) ?_
      intro K hK
      simp only [List.getD_cons_zero, List.getD_cons_succ, List.setIfInBounds_toArray, List.set_cons_zero, List.set_cons_succ]
      go_simp
      refine hK _ _ ⟨rfl, Kept.refl _, ?_⟩
      show _ = _
      simp only [List.getD_cons_zero, List.getD_cons_succ, Array.getD_eq_getD_getElem?, List.getElem?_toArray, List.getElem?_cons_zero, List.getElem?_cons_succ, Option.getD_some]
      rfl
    case q2o3 =>
      intro w1 hI
      replace hI : (fun w => w.heap[hb]? = some (.cells #[.int .u64 ep, .int .i64 f0, .int .i64 (N : Int), .int .i64 f2, .int .i64 f3, .int .i64 f4, .int .i64 f5, .int .i64 f6, .int .i64 f7, .int .i64 f8, .int .i64 rs, .int .i64 rn, .int .u64 sq] 36 (0, 0))) w1 := hI
      intro v2 h2
      change _ = _ at h2
      subst v2
      refine turn2_on (by rfl) ?_
      intro K hK
      simp only [List.getD_cons_zero, List.getD_cons_succ, List.setIfInBounds_toArray, List.set_cons_zero, List.set_cons_succ]
      obtain ⟨z0, z1, z2, z3, z4, z5, z6, z7, z8, z9, z10, z11, z12⟩ := cells13 hI
      go_simp
      refine hK _ _ ⟨rfl, Kept.refl _, ?_⟩
      show _ = _
      simp only [List.getD_cons_zero, List.getD_cons_succ, Array.getD_eq_getD_getElem?, List.getElem?_toArray, List.getElem?_cons_zero, List.getElem?_cons_succ, Option.getD_some]
      rfl
    case q2o4 =>
      intro w1 hI
      replace hI : (fun w => Owns .u8 5 w (hb + 1) (.slice a4 n4 c4) (supHead ⟨ep, f0, (N : Int), f2, f3, f4, f5, f6, f7, f8, rs, rn, sq⟩ ++ varF 9 (zigI (encL [f0, (N : Int), f2, f3, f4, f5, f6, f7, f8]).length) ++ encL [f0, (N : Int), f2, f3, f4, f5, f6, f7, f8]) ∧ hb + 1 ≤ w.heap.size) w1 := hI
      intro v0 h0
      change _ = _ at h0
      subst v0
      intro v3 h3
      change _ = _ at h3
      subst v3
      refine turn2_on (by rfl) ?_
      intro K hK
      simp only [List.getD_cons_zero, List.getD_cons_succ, List.setIfInBounds_toArray, List.set_cons_zero, List.set_cons_succ]
      go_simp
      refine Calls.mono (rcint_any (.slice a4 n4 c4) _ rs w1 (hb + 1) hI.1 hI.2 HLL4.out HW.out.rs.1 HW.out.rs.2) ?_
      rintro e w9 ⟨vv, rfl, hov, hgx⟩
      refine hK _ _ ⟨rfl, hgx.below hI.2 (fun g hg => (hI.1.at_base g hg).1), ?_⟩
      show Owns _ _ _ _ _ _
      simp only [List.getD_cons_zero, List.getD_cons_succ, Array.getD_eq_getD_getElem?, List.getElem?_toArray, List.getElem?_cons_zero, List.getElem?_cons_succ, Option.getD_some]
      exact hov
    case q2o5 =>
      intro w1 hI
      refine turn2_on (by rfl) ?_
      intro K hK
      go_simp
      refine hK _ _ ⟨rfl, Kept.refl _, ?_⟩
      show _ = _
      simp only [List.getD_cons_zero, List.getD_cons_succ, Array.getD_eq_getD_getElem?, List.getElem?_toArray, List.getElem?_cons_zero, List.getElem?_cons_succ, Option.getD_some]
      rfl
    case q2o6 =>
      intro w1 hI
      intro v5 h5
      change _ = _ at h5
      subst v5
      refine turn2_on (by rfl) ?_
      intro K hK
      simp only [List.getD_cons_zero, List.getD_cons_succ, List.setIfInBounds_toArray, List.set_cons_zero, List.set_cons_succ]
      go_simp
      refine hK _ _ ⟨rfl, Kept.refl _, ?_⟩
      show _ = _
      simp only [List.getD_cons_zero, List.getD_cons_succ, Array.getD_eq_getD_getElem?, List.getElem?_toArray, List.getElem?_cons_zero, List.getElem?_cons_succ, Option.getD_some]
      rfl
    case q2o7 =>
      intro w1 hI
      replace hI : (fun w => w.heap[hb]? = some (.cells #[.int .u64 ep, .int .i64 f0, .int .i64 (N : Int), .int .i64 f2, .int .i64 f3, .int .i64 f4, .int .i64 f5, .int .i64 f6, .int .i64 f7, .int .i64 f8, .int .i64 rs, .int .i64 rn, .int .u64 sq] 36 (0, 0))) w1 := hI
      intro v6 h6
      change _ = _ at h6
      subst v6
      refine turn2_on (by rfl) ?_
      intro K hK
      simp only [List.getD_cons_zero, List.getD_cons_succ, List.setIfInBounds_toArray, List.set_cons_zero, List.set_cons_succ]
      obtain ⟨z0, z1, z2, z3, z4, z5, z6, z7, z8, z9, z10, z11, z12⟩ := cells13 hI
      go_simp
      refine hK _ _ ⟨rfl, Kept.refl _, ?_⟩
      show _ = _
      simp only [List.getD_cons_zero, List.getD_cons_succ, Array.getD_eq_getD_getElem?, List.getElem?_toArray, List.getElem?_cons_zero, List.getElem?_cons_succ, Option.getD_some]
      rfl
    case q2o8 =>
      intro w1 hI
      replace hI : (fun w => hb + 1 ≤ w.heap.size) w1 := hI
      intro v4 h4
      intro v7 h7
      change _ = _ at h7
      subst v7
      refine turn2_on (by rfl) ?_
      intro K hK
      simp only [List.getD_cons_zero, List.getD_cons_succ, List.setIfInBounds_toArray, List.set_cons_zero, List.set_cons_succ]
      go_simp
      refine Calls.mono (rcint_any v4 _ rn w1 (hb + 1) h4 hI HLL5.out HW.out.rn.1 HW.out.rn.2) ?_
      rintro e w9 ⟨vv, rfl, hov, hgx⟩
      refine hK _ _ ⟨rfl, hgx.below hI (fun g hg => (h4.at_base g hg).1), ?_⟩
      show Owns _ _ _ _ _ _
      simp only [List.getD_cons_zero, List.getD_cons_succ, Array.getD_eq_getD_getElem?, List.getElem?_toArray, List.getElem?_cons_zero, List.getElem?_cons_succ, Option.getD_some]
      exact hov
    case q2o9 =>
      intro w1 hI
      intro v8 h8
      refine turn2_on (by rfl) ?_
      intro K hK
      simp only [List.getD_cons_zero, List.getD_cons_succ, List.setIfInBounds_toArray, List.set_cons_zero, List.set_cons_succ]
      go_simp
      refine hK _ _ ⟨rfl, Kept.refl _, ?_⟩
      show Owns _ _ _ _ _ _
      simp only [List.getD_cons_zero, List.getD_cons_succ, Array.getD_eq_getD_getElem?, List.getElem?_toArray, List.getElem?_cons_zero, List.getElem?_cons_succ, Option.getD_some]
      exact h8
  intro w5 hI
  replace hI : (fun w3 => (w3.heap[hb]? = some (.cells #[.int .u64 ep, .int .i64 f0, .int .i64 (N : Int), .int .i64 f2, .int .i64 f3, .int .i64 f4, .int .i64 f5, .int .i64 f6, .int .i64 f7, .int .i64 f8, .int .i64 rs, .int .i64 rn, .int .u64 sq] 36 (0, 0))) ∧ Below hb w w3) w5 := hI
  intro v0 h0
  replace h0 := h0 (by kernel_rfl)
  change _ = _ at h0
  subst v0
  intro v1 h1
  replace h1 := h1 (by kernel_rfl)
  change _ = _ at h1
  subst v1
  intro v2 h2
  replace h2 := h2 (by kernel_rfl)
  change _ = _ at h2
  subst v2
  intro v3 h3
  replace h3 := h3 (by kernel_rfl)
  change _ = _ at h3
  subst v3
  intro v4 _
  intro v5 h5
  replace h5 := h5 (by kernel_rfl)
  change _ = _ at h5
  subst v5
  intro v6 h6
  replace h6 := h6 (by kernel_rfl)
  change _ = _ at h6
  subst v6
  intro v7 h7
  replace h7 := h7 (by kernel_rfl)
  change _ = _ at h7
  subst v7
  intro v8 h8
  replace h8 := h8 (by kernel_rfl)
  intro v9 h9
  replace h9 := h9 (by kernel_rfl)
  simp only [Given, List.getD_cons_zero, List.getD_cons_succ, List.setIfInBounds_toArray, List.set_cons_zero, List.set_cons_succ]
  have OO : Hid (Owns .u8 5 w5 (hb + 1) v9 (supOut ⟨ep, f0, (N : Int), f2, f3, f4, f5, f6, f7, f8, rs, rn, sq⟩)) := by
    show Owns _ _ _ _ _ _
    have e : supOut ⟨ep, f0, (N : Int), f2, f3, f4, f5, f6, f7, f8, rs, rn, sq⟩ = supHead ⟨ep, f0, (N : Int), f2, f3, f4, f5, f6, f7, f8, rs, rn, sq⟩ ++ varF 9 (zigI (encL [f0, (N : Int), f2, f3, f4, f5, f6, f7, f8]).length) ++ encL [f0, (N : Int), f2, f3, f4, f5, f6, f7, f8] ++ varF 9 (zigI rs) ++ varF 9 (zigI rn) := by
      unfold supOut supBody
      simp only [List.append_assoc]
      rfl
    rw [e]
    exact h9
  have ROW6 := Lib.hid hI.1
  have BW6 := Lib.hid hI.2
  have h6l := supOut_len ⟨ep, f0, (N : Int), f2, f3, f4, f5, f6, f7, f8, rs, rn, sq⟩
  obtain ⟨n6, hn6⟩ : ∃ n6, (supOut ⟨ep, f0, (N : Int), f2, f3, f4, f5, f6, f7, f8, rs, rn, sq⟩).length = n6 := ⟨_, rfl⟩
  obtain ⟨a6, c6, rfl⟩ := OO.out.shapeN n6 hn6
  rw [hn6] at h6l
  have HN6 := Lib.hid hn6
  have hl6 := (Array.getElem?_eq_some_iff.1 ROW6.out).1
  have hE : supE ⟨ep, f0, (N : Int), f2, f3, f4, f5, f6, f7, f8, rs, rn, sq⟩ = if (N : Int) - 4 < n6 then 24 else 0 := by
    unfold supE
    rw [HSA.out, hn6]
    rfl
  clear hn6 h8 h9 hI
  obtain ⟨z0, z1, z2, z3, z4, z5, z6, z7, z8, z9, z10, z11, z12⟩ := cells13 ROW6.out
  by_cases q6 : (N : Int) - 4 < n6
  · have HE : Hid (supE ⟨ep, f0, (N : Int), f2, f3, f4, f5, f6, f7, f8, rs, rn, sq⟩ = 24) := by show _ = _; rw [hE, if_pos q6]
    have HVN : Hid (supV ⟨ep, f0, (N : Int), f2, f3, f4, f5, f6, f7, f8, rs, rn, sq⟩ = []) := supV_nil (by rw [HE.out]; decide)
    have d6 : decide ((N : Int) - 4 < n6) = true := decide_eq_true q6
    clear hE
    go_wp2_with fail
    go_ret2
    rw [HHB.out, HE.out, HVN.out]
    exact ⟨_, rfl, Owns.nil _ _ _ _, BW6.out⟩
  · have HE : Hid (supE ⟨ep, f0, (N : Int), f2, f3, f4, f5, f6, f7, f8, rs, rn, sq⟩ = 0) := by show _ = _; rw [hE, if_neg q6]
    have hk : n6 ≤ N - 4 := by omega
    have HVN : Hid (supV ⟨ep, f0, (N : Int), f2, f3, f4, f5, f6, f7, f8, rs, rn, sq⟩ = sealL (supOut ⟨ep, f0, (N : Int), f2, f3, f4, f5, f6, f7, f8, rs, rn, sq⟩ ++ List.replicate (N - 4 - n6) 0)) := by
      show _ = _
      unfold supV
      rw [if_pos HE.out]
      unfold supZ
      rw [HN6.out, show ((N : Int) - 4 - n6).toNat = N - 4 - n6 by omega]
    have d6 : decide ((N : Int) - 4 < n6) = false := decide_eq_false q6
    clear hE z0 z1 z2 z3 z4 z5 z6 z7 z8 z9 z10 z11 z12
    have ST : Hid (Owns .u8 5 w5 (hb + 1) (.slice a6 n6 c6) (supOut ⟨ep, f0, (N : Int), f2, f3, f4, f5, f6, f7, f8, rs, rn, sq⟩ ++ List.replicate 0 0)) := by show Owns _ _ _ _ _ _; rw [List.replicate_zero, List.append_nil]; exact OO.out
    obtain ⟨z0, z1, z2, z3, z4, z5, z6, z7, z8, z9, z10, z11, z12⟩ := cells13 ROW6.out
    go_wp2_with fail
    clear z0 z1 z2 z3 z4 z5 z6 z7 z8 z9 z10 z11 z12
    go_loopw [4] (fun x wr => ∃ (k : Nat) (a7 : Option Addr) (c7 : Nat), n6 + k ≤ N - 4 ∧ x = .slice a7 (n6 + k) c7 ∧ Hid (Owns .u8 5 wr (hb + 1) (.slice a7 (n6 + k) c7) (supOut ⟨ep, f0, (N : Int), f2, f3, f4, f5, f6, f7, f8, rs, rn, sq⟩ ++ List.replicate k 0)) ∧ Hid (wr.heap[hb]? = some (.cells #[.int .u64 ep, .int .i64 f0, .int .i64 (N : Int), .int .i64 f2, .int .i64 f3, .int .i64 f4, .int .i64 f5, .int .i64 f6, .int .i64 f7, .int .i64 f8, .int .i64 rs, .int .i64 rn, .int .u64 sq] 36 (0, 0))) ∧ Hid (Below hb w wr)) (fun x _ => N - 4 - lenOf x)
    case atStart => exact ⟨0, a6, c6, hk, rfl, ST, ROW6, BW6⟩
    case round =>
      clear ST OO ROW6 BW6 hl6
      obtain ⟨k, a7, c7, hk7, rfl, O7, ROW7, BW7⟩ := hrel
      obtain ⟨z0, z1, z2, z3, z4, z5, z6, z7, z8, z9, z10, z11, z12⟩ := cells13 ROW7.out
      have hl7 := (Array.getElem?_eq_some_iff.1 ROW7.out).1
      by_cases q7 : n6 + k < N - 4
      · have d7 : decide (((n6 + k : Nat) : Int) < (N : Int) - 4) = true := decide_eq_true (by omega)
        have d8 : decide ((n6 : Int) + k < (N : Int) - 4) = true := decide_eq_true (by omega)
        go_wp2_with (at_builtin; refine app_one u8T u8I (by decide) rfl (.tmp 57) (.tmp 58) rfl _ (hb + 1) _ _ rfl O7.out 0 rfl (by decide) (by rw [List.length_append, HN6.out, List.length_replicate]; omega) (by omega) ?_; intro x8 w8 ho8 hg8; have ROW8 := Lib.hid ((hg8.1.block hb hl7 (fun e => by have := (O7.out.at_base hb e.symm).1; omega)).trans ROW7.out); have BW8 : Hid (Below hb w w8) := Below.trans BW7.out (hg8.below (by omega) (fun g hg => by have := (O7.out.at_base g hg).1; omega)); rw [List.append_assoc, ← List.replicate_succ'] at ho8; obtain ⟨a8, c8, rfl⟩ := ho8.shapeN (n6 + (k + 1)) (by rw [List.length_append, HN6.out, List.length_replicate]); have O8 := Lib.hid ho8; clear ho8 hg8)
        go_roundw
        case rel => exact ⟨k + 1, a8, c8, by omega, rfl, O8, ROW8, BW8⟩
        case measure => simp [lenOf] <;> omega
      · have d7 : decide (((n6 + k : Nat) : Int) < (N : Int) - 4) = false := decide_eq_false (by omega)
        have d8 : decide ((n6 : Int) + k < (N : Int) - 4) = false := decide_eq_false (by omega)
        have hkk : k = N - 4 - n6 := by omega
        have HVK : Hid (supV ⟨ep, f0, (N : Int), f2, f3, f4, f5, f6, f7, f8, rs, rn, sq⟩ = sealL (supOut ⟨ep, f0, (N : Int), f2, f3, f4, f5, f6, f7, f8, rs, rn, sq⟩ ++ List.replicate k 0)) := by show _ = _; rw [HVN.out, hkk]
        clear hkk
        go_wp2_with fail
        refine (refseal_any _ _ _ _ _ O7.out.rd (by omega)).mono ?_
        rintro e w8 ⟨v8, rfl, ho8, hb8⟩
        obtain ⟨n8, hn8⟩ : ∃ n8, (sealL (supOut ⟨ep, f0, (N : Int), f2, f3, f4, f5, f6, f7, f8, rs, rn, sq⟩ ++ List.replicate k 0)).length = n8 := ⟨_, rfl⟩
        obtain ⟨a9, c9, rfl⟩ := ho8.shapeN n8 hn8
        have O8 := Lib.hid ho8
        have B8 := Lib.hid hb8
        clear ho8 hb8 hn8 z0 z1 z2 z3 z4 z5 z6 z7 z8 z9 z10 z11 z12
        go_wp2_with fail
        go_ret2
        rw [HHB.out, HE.out, HVK.out]
        exact ⟨_, rfl, O8.out.mono (by omega), Below.trans BW7.out (Below.mono B8.out (by omega))⟩
end Go.Proofs.Ytcbnebcooiagmaa
namespace Go.Proofs.Ytcbnebcooiagmaa
open Go.RowKit
/-- How Encode ends. -/
def GivesSec (b : Blk) (w : World) (e : Ending) (w' : World) : Prop := ∃ v, e = .returned (.tuple #[v, .int .i64 (supE b)]) ∧ Owns .u8 5 w' w.heap.size v (supV b) ∧ Below w.heap.size w w'
theorem supE_no {b : Blk} (h : supArg b = false) : supE b = 1 := by unfold supE; rw [if_pos h]
set_option maxRecDepth 100000 in
theorem supenc_any (b : Blk) (w : World) (hw : b.Wf) : Calls Try.prog 9 #[b.val] w (GivesSec b w) := by
  cases h : supArg b with
  | true => exact supenc_yes b.ep b.c0 b.c1 b.c2 b.c3 b.c4 b.c5 b.c6 b.c7 b.c8 b.rs b.rn b.sq w hw h
  | false =>
    refine (supenc_no b.ep b.c0 b.c1 b.c2 b.c3 b.c4 b.c5 b.c6 b.c7 b.c8 b.rs b.rn b.sq w h).mono ?_
    rintro e w' ⟨rfl, hb⟩
    have hE := supE_no h
    exact ⟨_, by rw [hE], by rw [supV_nil (by rw [hE]; decide)]; exact Owns.nil _ _ _ _, hb⟩
set_option maxRecDepth 100000 in
theorem refenc_any (b : Blk) (w : World) (hw : b.Wf) : Calls Try.prog 10 #[b.val] w (GivesSec b w) := by
  cases h : supArg b with
  | true => exact refenc_yes b.ep b.c0 b.c1 b.c2 b.c3 b.c4 b.c5 b.c6 b.c7 b.c8 b.rs b.rn b.sq w hw h
  | false =>
    refine (refenc_no b.ep b.c0 b.c1 b.c2 b.c3 b.c4 b.c5 b.c6 b.c7 b.c8 b.rs b.rn b.sq w h).mono ?_
    rintro e w' ⟨rfl, hb⟩
    have hE := supE_no h
    exact ⟨_, by rw [hE], by rw [supV_nil (by rw [hE]; decide)]; exact Owns.nil _ _ _ _, hb⟩
/-- Several cells of a block stored. -/
def sets (w : World) (b : Nat) : List (Nat × Value) → World
  | [] => w
  | p :: r => sets (w.setCell ⟨b, p.1, none⟩ p.2) b r
theorem sets_row {T : TypeId} {b : Nat} : ∀ (L : List (Nat × Value)) {w : World} {cs : Array Value}, w.heap[b]? = some (.cells cs T (0, 0)) → (sets w b L).heap[b]? = some (.cells (L.foldl (fun c p => c.setIfInBounds p.1 p.2) cs) T (0, 0))
  | [], _, _, h => h
  | p :: r, w, cs, h => sets_row r (heap_setCell_same w b p.1 cs T p.2 h)
theorem grown_one {w w1 w2 : World} {b : Nat} (h : w.grownBy w1 (some b)) (k : w1.grownBy w2 (some b)) : w.grownBy w2 (some b) :=
  ⟨k.os.trans h.os, k.tape.trans h.tape, k.output.trans h.output, Nat.le_trans h.size k.size, fun i hi hn => (k.block i (Nat.lt_of_lt_of_le hi h.size) hn).trans (h.block i hi hn)⟩
theorem sets_grown {b : Nat} : ∀ (L : List (Nat × Value)) (w : World), w.grownBy (sets w b L) (some b)
  | [], _ => World.grownBy.refl _ _
  | p :: r, w => grown_one (rcell_grown w b p.1 p.2) (sets_grown r _)
set_option linter.unusedSimpArgs false in
set_option linter.unusedVariables false in
set_option maxRecDepth 100000 in
set_option maxHeartbeats 1000000 in
theorem equal_any (a : Option Addr) (n c : Nat) (l : List Int) (a' : Option Addr) (n' c' : Nat) (l' : List Int) (w : World) (h : RdAt .u8 w a n c l) (h' : RdAt .u8 w a' n' c' l') :
    Calls Try.prog 53 #[.slice a n c, .slice a' n' c'] w fun e w' => e = .returned (.bool (decide (l = l'))) ∧ Below w.heap.size w w' := by
  have H := Lib.hid h
  have H' := Lib.hid h'
  have HLN := Lib.hid h.len
  have HLN' := Lib.hid h'.len
  have hmax := h.max
  have hcap := h.cap
  have hmax' := h'.max
  have hcap' := h'.cap
  unfold maxLen at hmax hmax'
  clear h h'
  by_cases hn : n = n'
  · subst hn
    obtain ⟨D, hD⟩ : ∃ D : Bool, decide (l = l') = D := ⟨_, rfl⟩
    rw [hD]
    have HD := Lib.hid hD
    clear hD
    go_enter Try.func53, Try.ntmps53
    go_wp2_with fail
    go_loopw [13] (fun i wr => ∃ (k : Nat), k ≤ n ∧ i = .int .i64 k ∧ Hid (Below w.heap.size w wr) ∧ Hid (l.take k = l'.take k)) (fun i _ => n - (intOf i).toNat)
    case atStart => exact ⟨0, by omega, rfl, Below.refl _ _, rfl⟩
    case round =>
      obtain ⟨k, hk, rfl, HB, HT⟩ := hrel
      by_cases hkn : k < n
      · obtain ⟨b, o, rfl, hc⟩ := (H.out.below HB.out).cell k hkn
        obtain ⟨b', o', rfl, hc'⟩ := (H'.out.below HB.out).cell k hkn
        obtain ⟨x, hx⟩ : ∃ x, nth l k = x := ⟨_, rfl⟩
        obtain ⟨y, hy⟩ : ∃ y, nth l' k = y := ⟨_, rfl⟩
        rw [hx] at hc
        rw [hy] at hc'
        have HX := Lib.hid hx
        have HY := Lib.hid hy
        clear hx hy
        by_cases hxy : x = y
        · subst hxy
          have HT2 : Hid (l.take (k + 1) = l'.take (k + 1)) := by
            show _ = _
            have h1 := HLN.out
            have h2 := HLN'.out
            rw [List.take_add_one, List.take_add_one, HT.out, List.getElem?_eq_getElem (by omega), List.getElem?_eq_getElem (by omega), ← nth_eq (by omega), ← nth_eq (by omega), HX.out, HY.out]
          go_wp2_with fail
          go_quiet (fail)
          go_wp2_with fail
          go_roundw
          case rel => exact ⟨k + 1, by omega, by go_num, ⟨HB.out.os, HB.out.tape, HB.out.output, HB.out.size, HB.out.block⟩, HT2⟩
          case measure => simp [intOf] <;> omega
        · have hxy2 : (x == y) = false := by simpa using hxy
          have hxy3 : (x != y) = true := by simpa using hxy
          have HF : Hid (D = false) := by
            show _ = _
            rw [← HD.out]
            refine decide_eq_false (fun e => hxy ?_)
            rw [← HX.out, ← HY.out, e]
          clear hxy
          go_wp2_with fail
          go_quiet (fail)
          go_wp2_with fail
          go_ret
          rw [HF.out]
          exact ⟨rfl, ⟨HB.out.os, HB.out.tape, HB.out.output, HB.out.size, HB.out.block⟩⟩
      · obtain rfl : k = n := by omega
        have HF : Hid (D = true) := by
          show _ = _
          rw [← HD.out]
          refine decide_eq_true ?_
          have h1 := HT.out
          rwa [List.take_of_length_le (by rw [HLN.out]; omega), List.take_of_length_le (by rw [HLN'.out]; omega)] at h1
        go_wp2_with fail
        go_ret
        rw [HF.out]
        exact ⟨rfl, HB.out⟩
  · have hD : decide (l = l') = false := decide_eq_false (fun e => hn (by rw [← HLN.out, ← HLN'.out, e]))
    have hn2 : (n == n') = false := by simpa using hn
    have hn3 : ((n : Int) == (n' : Int)) = false := by simp; omega
    have hn4 : ((n : Int) != (n' : Int)) = true := by simp; omega
    rw [hD]
    clear hD hn
    go_enter Try.func53, Try.ntmps53
    go_wp2_with fail
    go_ret
    exact ⟨rfl, Below.refl _ _⟩
set_option maxRecDepth 100000 in
theorem slot_any (n : Int) (w : World) (h : 0 ≤ n ∧ n ≤ 18446744073709551615) : Calls Try.prog 16 #[.int .u64 n] w fun e w' => e = .returned (.int .i64 (n % 2)) ∧ w = w' := by
  have hb : bits .and .u64 n 1 = n % 2 := by
    obtain ⟨k, rfl⟩ := Int.eq_ofNat_of_zero_le h.1
    have := Nat.and_one_is_mod k
    show IntKind.u64.wrap ((BitVec.ofInt 64 (k : Int) &&& BitVec.ofInt 64 (1 : Int)).toNat : Int) = _
    rw [BitVec.toNat_and, BitVec.ofInt_natCast, BitVec.toNat_ofNat, Nat.mod_eq_of_lt (by omega), show (BitVec.ofInt 64 (1 : Int)).toNat = 1 from rfl, this, IntKind.wrap_u64]
    omega
  have hm : 0 ≤ n % 2 ∧ n % 2 ≤ 1 := by omega
  go_enter Try.func16, Try.ntmps16
  go_wp2
  go_ret
  exact ⟨rfl, rfl⟩
set_option maxRecDepth 100000 in
theorem newer_any (b c : Blk) (w : World) : Calls Try.prog 17 #[b.val, c.val] w fun e w' => e = .returned (.bool (decide (c.ep < b.ep))) ∧ Below w.heap.size w w' := by
  obtain ⟨e0, x1, x2, x3, x4, x5, x6, x7, x8, x9, x10, x11, x12⟩ := b
  obtain ⟨y0, y1, y2, y3, y4, y5, y6, y7, y8, y9, y10, y11, y12⟩ := c
  unfold Blk.val
  go_enter Try.func17, Try.ntmps17
  go_wp2
  go_ret
  exact ⟨rfl, ((Below.refl _ _).alloc (Nat.le_refl _) _).alloc (by simp) _⟩
end Go.Proofs.Ytcbnebcooiagmaa
namespace Go.Proofs.Ytcbnebcooiagmaa
open Go.RowKit
variable {B : Nat}
set_option linter.unusedSimpArgs false in
set_option linter.unusedVariables false in
set_option maxRecDepth 100000 in
set_option maxHeartbeats 1000000 in
theorem count_any (h : Nat) (most : Int) (l : List Int) (w : World) (r : RIn B w h l 0) :
    Calls Try.prog 85 #[.pointer (some ⟨h, 0, none⟩), .int .i64 most] w (RPost B isI h (rdBetween 0 most l) w) := by
  have hbd := rdInt_bd r.wf
  go_enter Try.func85, Try.ntmps85
  go_wp2_with fail
  refine (int_post h l w r).mono ?_
  rintro e w1 ⟨hg, hr, hcase⟩
  obtain ⟨N, hN⟩ : ∃ N, (rdInt l).v = N := ⟨_, rfl⟩
  rcases hcase with ⟨h0, v, rfl, hv⟩ | ⟨h1, rfl⟩
  · replace hv : v = .int .i64 (rdInt l).v := hv
    rw [hN] at hv hbd
    subst hv
    have HN := Lib.hid hN
    have H0 := Lib.hid h0
    clear hN h0
    by_cases q1 : N < 0
    · have d1 : decide (N < 0) = true := decide_eq_true q1
      have HB : Hid (rdBetween 0 most l = ⟨22, 0, (rdInt l).l⟩) := by show _ = _; unfold rdBetween; rw [if_neg (by simpa using H0.out), HN.out, if_pos (.inl q1)]
      go_wp2_with fail
      refine (refuse_yes 22 _).mono ?_
      rintro e w2 ⟨rfl, rfl⟩
      refine ⟨rfl, ?_⟩
      rw [HB.out]
      exact ⟨hg, hr, .inr ⟨(show (22 : Int) ≠ 0 by decide), rfl⟩⟩
    · have d1 : decide (N < 0) = false := decide_eq_false q1
      by_cases q2 : most < N
      · have d2 : decide (most < N) = true := decide_eq_true q2
        have HB : Hid (rdBetween 0 most l = ⟨22, 0, (rdInt l).l⟩) := by show _ = _; unfold rdBetween; rw [if_neg (by simpa using H0.out), HN.out, if_pos (.inr q2)]
        go_wp2_with fail
        refine (refuse_yes 22 _).mono ?_
        rintro e w2 ⟨rfl, rfl⟩
        refine ⟨rfl, ?_⟩
        rw [HB.out]
        exact ⟨hg, hr, .inr ⟨(show (22 : Int) ≠ 0 by decide), rfl⟩⟩
      · have d2 : decide (most < N) = false := decide_eq_false q2
        have HB : Hid (rdBetween 0 most l = rdInt l) := by show _ = _; unfold rdBetween; rw [if_neg (by simpa using H0.out), HN.out, if_neg (by omega)]
        go_wp2_with fail
        refine (refuse_no 22 _).mono ?_
        rintro e w2 ⟨rfl, rfl⟩
        go_wp2_with fail
        go_ret
        rw [HB.out]
        exact ⟨hg, hr, .inl ⟨H0.out, _, rfl, by rw [HN.out]; rfl⟩⟩
  · have HB : Hid (rdBetween 0 most l = ⟨(rdInt l).e, 0, (rdInt l).l⟩) := by show _ = _; unfold rdBetween; rw [if_pos h1]
    refine ⟨rfl, ?_⟩
    rw [HB.out]
    exact ⟨hg, hr, .inr ⟨h1, rfl⟩⟩
set_option linter.unusedSimpArgs false in
set_option linter.unusedVariables false in
set_option maxRecDepth 100000 in
set_option maxHeartbeats 1000000 in
theorem bytes1_any (h R M : Nat) (most : Int) (l : List Int) (w : World) (r : RIn B w h l 0) (hR : w.heap[R]? = some (.cells #[.pointer (some ⟨h, 0, none⟩)] 93 (0, 0))) (hM : w.heap[M]? = some (.cells #[.int .i64 most] 3 (0, 0))) (kR : R ≠ h) (kM : M ≠ h) (hl : l.length ≤ 1000000) :
    Calls Try.prog 84 #[.pointer (some ⟨R, 0, none⟩), .pointer (some ⟨M, 0, none⟩)] w (RPost B isB h (rdBytes most l) w) := by
  have cR0 := one_cell hR
  have cM0 := one_cell hM
  have hR0 := Lib.hid hR
  clear hR
  go_enter Try.func84, Try.ntmps84
  go_wp2_with fail
  refine (count_any h most l w r).mono ?_
  rintro e w1 ⟨hg, hr, hcase⟩
  have hR1 := Lib.hid (heap_kept hR0.out hg kR)
  have cR := one_cell hR1.out
  clear cR0 cM0
  rcases hcase with ⟨h0, v, rfl, hv⟩ | ⟨h1, rfl⟩
  · replace hv : v = .int .i64 (rdBetween 0 most l).v := hv
    obtain ⟨hb1, hb2, hb3, hb4⟩ := rdBetween_ok h0
    have hsh := rdInt_len hb2
    rw [← hb1] at hb3 hb4 hsh
    obtain ⟨N, hN⟩ : ∃ N, (rdBetween 0 most l).v = N := ⟨_, rfl⟩
    obtain ⟨l1, hl1⟩ : ∃ l1, (rdBetween 0 most l).l = l1 := ⟨_, rfl⟩
    rw [hN] at hv hb3 hb4
    rw [hl1] at hr hsh
    subst hv
    obtain ⟨k, rfl⟩ := Int.eq_ofNat_of_zero_le hb3
    have HN := Lib.hid hN
    have HL1 := Lib.hid hl1
    have H0 := Lib.hid h0
    obtain ⟨a, n, c, hc⟩ := hr
    obtain ⟨c0, c1, cf⟩ := hc.cells
    have hln := hc.rd.len
    rw [hln] at hsh
    have hcap := hc.rd.cap
    have hmax := hc.rd.max
    unfold maxLen at hmax
    have HC := Lib.hid hc
    have HLN := Lib.hid hln
    clear hN hl1 h0 hb1 hb2 hc hln
    by_cases q : n < k
    · have d1 : decide ((n : Int) < k) = true := decide_eq_true (by omega)
      have d1n : decide (n < k) = true := decide_eq_true q
      have HB : Hid (rdBytes most l = ⟨21, [], l1⟩) := by show _ = _; unfold rdBytes; rw [if_neg (by simpa using H0.out), HN.out, HL1.out, HLN.out, if_pos (by omega)]
      go_wp2_with fail
      refine (refuse_yes 21 _).mono ?_
      rintro e w2 ⟨rfl, rfl⟩
      refine ⟨rfl, ?_⟩
      rw [HB.out]
      exact ⟨hg, ⟨_, _, _, HC.out⟩, .inr ⟨(show (21 : Int) ≠ 0 by decide), rfl⟩⟩
    · have d1 : decide ((n : Int) < k) = false := decide_eq_false (by omega)
      have d1n : decide (n < k) = false := decide_eq_false q
      have hkn : k ≤ n := by omega
      have hkc : k ≤ c := by omega
      have HB : Hid (rdBytes most l = ⟨0, l1.take k, l1.drop k⟩) := by show _ = _; unfold rdBytes; rw [if_neg (by simpa using H0.out), HN.out, HL1.out, HLN.out, if_neg (by omega)]; rfl
      have hrt := rd_takeR HC.out.rd k c (by omega) (by omega) (Nat.le_refl _) HC.out.rd.void
      have HRT := Lib.hid hrt
      clear hrt
      go_wp2_with fail
      refine (refuse_no 21 _).mono ?_
      rintro e w2 ⟨rfl, rfl⟩
      go_wp2_with fail
      refine (clone_any _ _ _ (l1.take k) _ HRT.out (by omega)).mono ?_
      rintro e w3 ⟨v3, rfl, ho3, hb3'⟩
      have HO3 := Lib.hid ho3
      have HC3 := Lib.hid (HC.out.below hb3')
      have HG3 : Hid (w.grownBy w3 (some h)) := grown_trans hg (below_grown hb3' HC.out.lt)
      have hR3 := Lib.hid (below_row hR1.out hb3')
      have cR3 := one_cell hR3.out
      have HSZ := Lib.hid hb3'.size
      clear c0 c1 cf cR ho3 hb3'
      obtain ⟨c0, c1, cf⟩ := HC3.out.cells
      obtain ⟨q3, hq3⟩ : ∃ q3, (l1.take k).length = q3 := ⟨_, rfl⟩
      obtain ⟨a3, k3, rfl⟩ := HO3.out.shapeN q3 hq3
      clear hq3
      have hGsz := hg.size
      cases a with
      | none =>
        obtain rfl : c = 0 := HC.out.rd.void rfl
        obtain rfl : n = 0 := by omega
        obtain rfl : k = 0 := by omega
        go_wp2_with fail
        go_region
        go_wp2_with fail
        go_ret
        rw [HB.out]
        refine ⟨grown_trans HG3.out (grown_drew (rcell_grown _ _ _ _)), ⟨_, _, _, crdr_drew (HC3.out.setB (l' := l1.drop 0) (by rw [List.drop_zero]; exact HC3.out.rd) HC3.out.lo HC3.out.sp HC3.out.hi)⟩, .inl ⟨rfl, _, rfl, ?_⟩⟩
        exact (HO3.out.grown (rcell_grown _ _ _ _) (fun g hg' e => by have h1 := (HO3.out.at_base g hg').1; have h2 := HC.out.lt; injection e with e; omega)).mono hGsz
      | some ad =>
        obtain ⟨b, o, rfl⟩ : ∃ b o, ad = ⟨b, o, none⟩ := by
          obtain ⟨b, o, sp⟩ := ad
          have := HC.out.sp _ rfl
          exact ⟨b, o, by rw [show sp = none from this]⟩
        have hif : ∀ (A B : Option Addr), (if c = k then A else B) = pkr c k A B := fun _ _ => rfl
        have R4 := Lib.hid (rd_pkr HC3.out.rd k (by omega))
        go_wp2_with fail
        go_region
        go_wp2_with fail
        go_ret
        rw [HB.out]
        refine ⟨grown_trans HG3.out (grown_drew (rcell_grown _ _ _ _)), ⟨_, _, _, crdr_drew (HC3.out.setB R4.out (fun q hq hn => by rw [pkr_block hq]; exact HC.out.lo _ rfl (by omega)) (fun q hq => pkr_spot hq) (fun q hq hn => by rw [pkr_block hq]; exact HC.out.hi _ rfl (by omega)))⟩, .inl ⟨rfl, _, rfl, ?_⟩⟩
        exact (HO3.out.grown (rcell_grown _ _ _ _) (fun g hg' e => by have h1 := (HO3.out.at_base g hg').1; have h2 := HC.out.lt; injection e with e; omega)).mono hGsz
  · have HB : Hid (rdBytes most l = ⟨(rdBetween 0 most l).e, [], (rdBetween 0 most l).l⟩) := by show _ = _; unfold rdBytes; rw [if_pos h1]
    refine ⟨rfl, ?_⟩
    rw [HB.out]
    exact ⟨hg, hr, .inr ⟨h1, rfl⟩⟩
set_option maxRecDepth 100000 in
theorem i64I3 : elemInfo Try.prog 3 .i64 8 := by unfold elemInfo; kernel_rfl
set_option maxRecDepth 100000 in
theorem i64T3 : Try.prog.underlying 129 = some (.slice 3) := Try.underlying129
theorem rdInts_bad {k : Nat} {l : List Int} (h : (rdInt l).e ≠ 0) : rdInts (k + 1) l = ⟨(rdInt l).e, [], (rdInt l).l⟩ := by rw [rdInts, if_pos h]
/-- What so many numbers come to, when some have been read. -/
def accR (acc : List Int) (r : Rd (List Int)) : Rd (List Int) := if r.e ≠ 0 then ⟨r.e, [], r.l⟩ else ⟨0, acc ++ r.v, r.l⟩
theorem acc_step {acc : List Int} {k : Nat} {l : List Int} (h : (rdInt l).e = 0) : accR acc (rdInts (k + 1) l) = accR (acc ++ [(rdInt l).v]) (rdInts k (rdInt l).l) := by
  rw [rdInts, if_neg (by simpa using h)]
  unfold accR
  by_cases h2 : (rdInts k (rdInt l).l).e = 0
  · rw [if_neg (show ¬ (rdInts k (rdInt l).l).e ≠ 0 by simpa using h2)]
    simp [h2]
  · rw [if_pos h2]
    simp [h2]
end Go.Proofs.Ytcbnebcooiagmaa
namespace Go.Proofs.Ytcbnebcooiagmaa
open Go.RowKit
variable {B : Nat}
set_option linter.unusedSimpArgs false in
set_option linter.unusedVariables false in
set_option maxRecDepth 100000 in
set_option maxHeartbeats 1000000 in
theorem tryB_catch (O P h : Nat) (x : Value) (E : Int) (a : Option Addr) (n c : Nat) (l : List Int) (w : World) (hP : w.heap[P]? = some (.cells #[.pointer (some ⟨h, 0, none⟩)] 93 (0, 0))) (hO : w.heap[O]? = some (.cells #[x] 29 (0, 0))) (r : CRdr B w h a n c l 0) :
    CallsD Try.prog 100 #[.pointer (some ⟨P, 0, none⟩), .pointer (some ⟨O, 0, none⟩)] (.panicking ({ v := .iface 31 (.int .i64 E), recovered := false } :: [])) w fun e u' w' =>
      e = .returned (.tuple #[]) ∧ u' = .panicking ({ v := .iface 31 (.int .i64 E), recovered := true } :: []) ∧ w' = (w.setCell ⟨h, 1, none⟩ (.int .i64 E)).setCell ⟨O, 0, none⟩ (.slice none 0 0) := by
  have c0 := one_cell hP
  have f1 : ∀ i, w.frozen? ⟨O, i, none⟩ = false := fun i => frozen_of_row w _ i _ _ hO
  have cO := one_cell hO
  obtain ⟨_, c1, cf⟩ := r.cells
  refine callsD_of_wpS Try.func100 rfl fun c₀ cs hu => ?_
  simp only [Try.ntmps100, List.size_toArray, List.length_cons, List.length_nil, Nat.reduceAdd, Nat.reduceSub, Array.replicate_succ, Array.replicate_zero, List.push_toArray, List.append_toArray, List.nil_append, List.cons_append]
  apply wpS_seq
  apply wpS_region
  simp [wpOpsS, go_sem, recoverD, hu, ta_yes, Exit.thenS]
  refine wpS_of_wp ?_
  clear hP hO r
  go_wp2
  exact ⟨rfl, _, rfl, _, results_none rfl _ _ _, rfl, rfl, rfl⟩
set_option maxRecDepth 100000 in
theorem tryB_idle (O P : Nat) (w : World) :
    CallsD Try.prog 100 #[.pointer (some ⟨P, 0, none⟩), .pointer (some ⟨O, 0, none⟩)] .returning w fun e u' w' => e = .returned (.tuple #[]) ∧ u' = .returning ∧ w' = w := by
  refine callsD_of_wpS Try.func100 rfl fun c₀ cs hu => ?_
  simp only [Try.ntmps100, List.size_toArray, List.length_cons, List.length_nil, Nat.reduceAdd, Nat.reduceSub, Array.replicate_succ, Array.replicate_zero, List.push_toArray, List.append_toArray, List.nil_append, List.cons_append]
  apply wpS_seq
  apply wpS_region
  simp [wpOpsS, go_sem, recoverD, hu, ta_no, Exit.thenS]
  refine wpS_of_wp ?_
  go_wp2
  exact ⟨rfl, .returning, by rw [← hu], _, results_none rfl _ _ _, rfl, rfl, rfl⟩
set_option linter.unusedSimpArgs false in
set_option linter.unusedVariables false in
set_option maxRecDepth 100000 in
set_option maxHeartbeats 1000000 in
theorem tryB_bytes (h : Nat) (R M : Nat) (most : Int) (l : List Int) (e0 : Int) (w : World) (r : RIn B w h l e0) (hR : w.heap[R]? = some (.cells #[.pointer (some ⟨h, 0, none⟩)] 93 (0, 0))) (hM : w.heap[M]? = some (.cells #[.int .i64 most] 3 (0, 0))) (kR : R ≠ h) (kM : M ≠ h) (hl : l.length ≤ 1000000) :
    Calls Try.prog 83 #[.pointer (some ⟨h, 0, none⟩), .func (.func 84) #[] #[.pointer (some ⟨R, 0, none⟩), .pointer (some ⟨M, 0, none⟩)]] w (EPost B isB h (rdFrom e0 [] l (rdBytes most l)) w) := by
  have hmf : ∀ (fn : Fn) (first cap : Array Value) (w : World), (Instr.makeFunc fn first cap).run Try.prog w = .ok (.func fn first cap) w := fun _ _ _ _ => rfl
  have hlt := r.lt
  obtain ⟨a0, n0, c0, hcr⟩ := r
  obtain ⟨cb, ce, cf⟩ := hcr.cells
  have r : RIn B w h l e0 := ⟨a0, n0, c0, hcr⟩
  have hb1 : Below w.heap.size w ((w.alloc (.cells #[.pointer (some ⟨h, 0, none⟩)] 93)).alloc (.cells #[.slice none 0 0] 29)) := ((Below.refl _ _).alloc (Nat.le_refl _) _).alloc (by simp) _
  obtain ⟨w1, hw1⟩ : ∃ w1, (w.alloc (.cells #[.pointer (some ⟨h, 0, none⟩)] 93)).alloc (.cells #[.slice none 0 0] 29) = w1 := ⟨_, rfl⟩
  have hP : w1.heap[w.heap.size]? = some (.cells #[.pointer (some ⟨h, 0, none⟩)] 93 (0, 0)) := by
    rw [← hw1]
    show ((w.heap.push _).push _)[w.heap.size]? = _
    simp [Array.getElem?_push]
  have hO : w1.heap[w.heap.size + 1]? = some (.cells #[.slice none 0 0] 29 (0, 0)) := by
    rw [← hw1]
    have := heap_alloc_new (w.alloc (.cells #[.pointer (some ⟨h, 0, none⟩)] 93)) (.cells #[.slice none 0 0] 29)
    simpa using this
  have hsz1 : w1.heap.size = w.heap.size + 2 := by rw [← hw1]; simp
  rw [hw1] at hb1
  have hr1 := r.below hb1
  have HRR := Lib.hid (below_row hR hb1)
  have HMM := Lib.hid (below_row hM hb1)
  clear hR hM
  have HR1 := Lib.hid hr1
  have HG1 : Hid (w.grownBy w1 (some h)) := below_grown hb1 hlt
  have HP := Lib.hid hP
  have HO := Lib.hid hO
  have HSZ := Lib.hid hsz1
  have HW1 := Lib.hid hw1
  clear r hr1 hP hO hsz1 hb1 hcr hw1
  by_cases h0 : e0 = 0
  · subst h0
    rw [rdFrom_ok]
    go_enter_defers Try.func83, Try.ntmps83
    go_wp2_with fail
    rw [HW1.out]
    have hl1 := HSZ.out
    refine (bytes1_any h R M most l _ HR1.out HRR.out HMM.out kR kM hl).mono ?_
    rintro e w2 ⟨hg, hr2, hcase⟩
    have HG2 := Lib.hid (grown_trans HG1.out hg)
    have hP2 := heap_kept HP.out hg (by omega)
    have hO2 := heap_kept HO.out hg (by omega)
    have HP2 := Lib.hid hP2
    have HO2 := Lib.hid hO2
    have cO2 := one_cell hO2
    have fO2 : ∀ i, w2.frozen? ⟨w.heap.size + 1, i, none⟩ = false := fun i => frozen_of_row w2 _ i _ _ hO2
    have HR2 := Lib.hid hr2
    have hs2 := hg.size
    clear hg hP2 hO2 hr2
    rcases hcase with ⟨hz, v, rfl, hv⟩ | ⟨hz, rfl⟩
    · have HZ := Lib.hid hz
      obtain ⟨q2, hq2⟩ : ∃ q2, (rdBytes most l).v.length = q2 := ⟨_, rfl⟩
      obtain ⟨a2, k2, rfl⟩ := Owns.shapeN hv q2 hq2
      have HV := Lib.hid hv
      clear hv hq2
      go_wp2_with fail
      refine leaves_cons (f := 100) (args := #[.pointer (some ⟨w.heap.size, 0, none⟩), .pointer (some ⟨w.heap.size + 1, 0, none⟩)]) (by simp) (by simp [go_sem]) ?_
      refine (tryB_idle (w.heap.size + 1) w.heap.size _).mono ?_
      rintro e u' w'' ⟨rfl, rfl, rfl⟩
      simp [Leaves, settle, results, Try.results83, go_sem, cO2]
      refine ⟨grown_more HG2.out (rcell_grown _ (w.heap.size + 1) 0 _) (fun g hg => by injection hg with hg; omega), ?_, _, rfl, (Owns.grown (HV.out) (rcell_grown _ (w.heap.size + 1) 0 _) (fun g hg e => by have h1 := (Owns.at_base (HV.out) g hg).1; injection e with e; omega)).mono (by omega)⟩
      rw [HZ.out]
      exact HR2.out.grown (rcell_grown _ (w.heap.size + 1) 0 _) (fun g hg => by injection hg with hg; omega)
    · show Leaves _ _ _ _ _ _ _
      refine leaves_cons (f := 100) (args := #[.pointer (some ⟨w.heap.size, 0, none⟩), .pointer (some ⟨w.heap.size + 1, 0, none⟩)]) (by simp) (by simp [go_sem]) ?_
      obtain ⟨a2, n2, c2, hc2⟩ := HR2.out
      refine (tryB_catch (w.heap.size + 1) w.heap.size h _ _ a2 n2 c2 _ _ HP2.out HO2.out hc2).mono ?_
      rintro e u' w'' ⟨rfl, rfl, rfl⟩
      have cO3 : (w2.setCell ⟨h, 1, none⟩ (.int .i64 (rdBytes most l).e)).cell? ⟨w.heap.size + 1, 0, none⟩ = some (.slice none 0 0) := by
        rw [World.cell?_of_block (a := ⟨w.heap.size + 1, 0, none⟩) (heap_setCell_other w2 ⟨h, 1, none⟩ (w.heap.size + 1) _ (by simp; omega))]; exact cO2
      simp [Leaves, settle, results, Try.results83, go_sem, cO3]
      exact ⟨grown_more (grown_trans HG2.out (rcell_grown _ h 1 _)) (rcell_grown _ (w.heap.size + 1) 0 _) (fun g hg => by injection hg with hg; omega), ⟨_, _, _, (hc2.setE _).grown (rcell_grown _ (w.heap.size + 1) 0 _) (fun g hg => by injection hg with hg; omega)⟩, _, rfl, by rw [rdBytes_z hz]; exact Owns.nil _ _ _ _⟩
  · have hne : (e0 != 0) = true := by simpa using h0
    rw [rdFrom_bad _ _ _ h0]
    go_enter_defers Try.func83, Try.ntmps83
    go_wp2_with fail
    refine ⟨.slice none 0 0, by simp [results, Try.results83, go_sem], ?_⟩
    rw [HW1.out]
    exact ⟨HG1.out, HR1.out, _, rfl, Owns.nil _ _ _ _⟩
set_option linter.unusedSimpArgs false in
set_option linter.unusedVariables false in
set_option maxRecDepth 100000 in
set_option maxHeartbeats 1000000 in
theorem rBytes_any (h : Nat) (most : Int) (l : List Int) (e0 : Int) (w : World) (r : RIn B w h l e0) (hl : l.length ≤ 1000000) :
    Calls Try.prog 50 #[.pointer (some ⟨h, 0, none⟩), .int .i64 most] w (EPost B isB h (rdFrom e0 [] l (rdBytes most l)) w) := by
  have hlt := r.lt
  have hb1 : Below w.heap.size w ((w.alloc (.cells #[.pointer (some ⟨h, 0, none⟩)] 93)).alloc (.cells #[.int .i64 most] 3)) := (((Below.refl w.heap.size w).alloc (Nat.le_refl _) _).alloc (by simp) _)
  obtain ⟨w1, hw1⟩ : ∃ w1, ((w.alloc (.cells #[.pointer (some ⟨h, 0, none⟩)] 93)).alloc (.cells #[.int .i64 most] 3)) = w1 := ⟨_, rfl⟩
  have hB0 : w1.heap[w.heap.size]? = some (.cells #[.pointer (some ⟨h, 0, none⟩)] 93 (0, 0)) := by
    rw [← hw1]
    rw [heap_old _ _ (by simp)]
    have := heap_alloc_new w (.cells #[.pointer (some ⟨h, 0, none⟩)] 93)
    simpa using this
  have hB1 : w1.heap[w.heap.size + 1]? = some (.cells #[.int .i64 most] 3 (0, 0)) := by
    rw [← hw1]
    have := heap_alloc_new (w.alloc (.cells #[.pointer (some ⟨h, 0, none⟩)] 93)) (.cells #[.int .i64 most] 3)
    simpa using this
  rw [hw1] at hb1
  have HR1 := Lib.hid (r.below hb1)
  have HG1 : Hid (w.grownBy w1 (some h)) := below_grown hb1 hlt
  have HSZ : Hid (w1.heap.size = w.heap.size + 2) := by show _ = _; rw [← hw1]; simp
  have HW1 := Lib.hid hw1
  have HB0 := Lib.hid hB0
  have HB1 := Lib.hid hB1
  clear r hb1 hw1 hB0 hB1
  go_enter Try.func50, Try.ntmps50
  have hmf : ∀ (fn : Fn) (first cap : Array Value) (w : World), (Instr.makeFunc fn first cap).run Try.prog w = .ok (.func fn first cap) w := fun _ _ _ _ => rfl
  go_wp2_with fail
  rw [HW1.out]
  refine (tryB_bytes h _ _ most l e0 _ HR1.out HB0.out HB1.out (by omega) (by omega) hl).mono ?_
  rintro e w2 ⟨hg, hr, v, rfl, hv⟩
  obtain ⟨q2, hq2⟩ : ∃ q2, (rdFrom e0 [] l (rdBytes most l)).v.length = q2 := ⟨_, rfl⟩
  obtain ⟨a2, k2, rfl⟩ := Owns.shapeN hv q2 hq2
  have HV := Lib.hid hv
  have HR := Lib.hid hr
  clear hr hv hq2
  go_wp2_with fail
  go_ret
  exact ⟨grown_trans HG1.out hg, HR.out, _, rfl, Owns.mono HV.out (by have := HSZ.out; omega)⟩
end Go.Proofs.Ytcbnebcooiagmaa
namespace Go.Proofs.Ytcbnebcooiagmaa
open Go.RowKit
def rbtw (lo hi : Int) (T : Rd Int) : Rd Int := if T.e ≠ 0 then ⟨T.e, 0, T.l⟩ else if T.v < lo ∨ hi < T.v then ⟨22, 0, T.l⟩ else T
theorem btw_eq (e0 lo hi : Int) (l : List Int) : rdFrom e0 0 l (rdBetween lo hi l) = rbtw lo hi (rdFrom e0 0 l (rdInt l)) := by
  by_cases h0 : e0 = 0
  · subst h0
    rw [rdFrom_ok, rdFrom_ok]
    rfl
  · rw [rdFrom_bad _ _ _ h0, rdFrom_bad _ _ _ h0]
    unfold rbtw
    rw [if_pos h0]
theorem grown_drewN {w w' : World} {row : Option Nat} (g : w.grownBy w' row) (n : Nat) : w.grownBy (w'.drewN n) row := ⟨g.os, g.tape, g.output, g.size, g.block⟩
theorem RRIn.drewN {w : World} {h : Nat} {l : List Int} {e : Int} (r : RRIn w h l e) (n : Nat) : RRIn (w.drewN n) h l e := r.below ⟨rfl, rfl, rfl, Nat.le_refl _, fun _ _ => rfl⟩
/-- How the count ends. -/
def CPost (h : Nat) (B : Rd Int) (w : World) (e : Ending) (w' : World) : Prop :=
  w.grownBy w' (some h) ∧ RRIn w' h B.l B.e ∧ ∃ V, e = .returned (.tuple #[.int .i64 V, .bool (decide (B.e = 0))]) ∧ (B.e = 0 → V = B.v)
set_option linter.unusedSimpArgs false in
set_option linter.unusedVariables false in
set_option maxRecDepth 100000 in
set_option maxHeartbeats 2000000 in
theorem rrcount_any (h : Nat) (most : Int) (l : List Int) (e0 : Int) (w : World) (r : RRIn w h l e0) :
    Calls Try.prog 91 #[.pointer (some ⟨h, 0, none⟩), .int .i64 most] w (CPost h (rdFrom e0 0 l (rdBetween 0 most l)) w) := by
  rw [btw_eq]
  have HW : Hid (∀ y ∈ l, (Lit.int .u8 y).wf = true) := r.wf
  have hbd : e0 = 0 → -9223372036854775808 ≤ (rdInt l).v ∧ (rdInt l).v ≤ 9223372036854775807 := fun _ => rdInt_bd r.wf
  obtain ⟨⟨E, V, l1⟩, hT⟩ : ∃ T, rdFrom e0 0 l (rdInt l) = T := ⟨_, rfl⟩
  have hV : -9223372036854775808 ≤ V ∧ V ≤ 9223372036854775807 := by
    by_cases h0 : e0 = 0
    · subst h0
      rw [rdFrom_ok] at hT
      have := rdInt_bd r.wf
      rw [hT] at this
      exact this
    · rw [rdFrom_bad _ _ _ h0] at hT
      injection hT with _ h1 _
      omega
  have hz : E ≠ 0 → V = 0 := fun h1 => by
    by_cases h0 : e0 = 0
    · subst h0
      rw [rdFrom_ok] at hT
      have := rdInt_z (l := l) (by rw [hT]; exact h1)
      rw [hT] at this
      exact this
    · rw [rdFrom_bad _ _ _ h0] at hT
      injection hT with _ h1 _
      exact h1.symm
  rw [hT]
  have HT := Lib.hid hT
  clear hT hbd
  by_cases hE : E = 0
  · subst hE
    by_cases hlo : V < 0
    · have HR : Hid (rbtw 0 most ⟨0, V, l1⟩ = ⟨22, 0, l1⟩) := by show _ = _; unfold rbtw; rw [if_neg (by simp), if_pos (.inl hlo)]
      have d1 : decide (V < 0) = true := decide_eq_true hlo
      go_enter Try.func91, Try.ntmps91
      go_wp2_with fail
      refine (rrInt_any h l e0 w r).mono ?_
      rintro e w1 ⟨hg, hr, v, rfl, hv⟩
      rw [HT.out] at hr hv
      replace hv : v = .int .i64 V := hv
      subst hv
      obtain ⟨a1, n1, c1, r1⟩ := hr
      obtain ⟨y0, y1, yf⟩ := r1.cells
      replace y1 : w1.cell? ⟨h, 1, none⟩ = some (.int .i64 0) := y1
      have R1 := Lib.hid r1
      have G1 := Lib.hid hg
      clear r1 hg
      go_wp2_with fail
      refine (fail_ok h l1 22 w1 ⟨_, _, _, R1.out⟩).mono ?_
      rintro e w2 ⟨rfl, hr2, hg2⟩
      obtain ⟨a2, n2, c2, r2⟩ := hr2
      obtain ⟨x0, x1, xf⟩ := r2.cells
      have R2 := Lib.hid r2
      have G2 := Lib.hid hg2
      clear r2 hg2 y0 y1 yf
      go_wp2_with fail
      go_quiet (fail)
      go_wp2_with fail
      go_ret2
      rw [HR.out]
      exact ⟨grown_drewN (G1.out.trans G2.out) nq, RRIn.drewN ⟨_, _, _, R2.out⟩ nq, _, rfl, fun h => absurd h (show ¬ (22 : Int) = 0 by decide)⟩
    · have d1 : decide (V < 0) = false := decide_eq_false hlo
      by_cases hhi : most < V
      · have HR : Hid (rbtw 0 most ⟨0, V, l1⟩ = ⟨22, 0, l1⟩) := by show _ = _; unfold rbtw; rw [if_neg (by simp), if_pos (.inr hhi)]
        have d2 : decide (most < V) = true := decide_eq_true hhi
        go_enter Try.func91, Try.ntmps91
        go_wp2_with fail
        refine (rrInt_any h l e0 w r).mono ?_
        rintro e w1 ⟨hg, hr, v, rfl, hv⟩
        rw [HT.out] at hr hv
        replace hv : v = .int .i64 V := hv
        subst hv
        obtain ⟨a1, n1, c1, r1⟩ := hr
        obtain ⟨y0, y1, yf⟩ := r1.cells
        replace y1 : w1.cell? ⟨h, 1, none⟩ = some (.int .i64 0) := y1
        have R1 := Lib.hid r1
        have G1 := Lib.hid hg
        clear r1 hg
        go_wp2_with fail
        refine (fail_ok h l1 22 w1 ⟨_, _, _, R1.out⟩).mono ?_
        rintro e w2 ⟨rfl, hr2, hg2⟩
        obtain ⟨a2, n2, c2, r2⟩ := hr2
        obtain ⟨x0, x1, xf⟩ := r2.cells
        have R2 := Lib.hid r2
        have G2 := Lib.hid hg2
        clear r2 hg2 y0 y1 yf
        go_wp2_with fail
        go_quiet (fail)
        go_wp2_with fail
        go_ret2
        rw [HR.out]
        exact ⟨grown_drewN (G1.out.trans G2.out) nq, RRIn.drewN ⟨_, _, _, R2.out⟩ nq, _, rfl, fun h => absurd h (show ¬ (22 : Int) = 0 by decide)⟩
      · have HR : Hid (rbtw 0 most ⟨0, V, l1⟩ = ⟨0, V, l1⟩) := by show _ = _; unfold rbtw; rw [if_neg (by simp), if_neg (by show ¬ (V < 0 ∨ most < V); omega)]
        have d2 : decide (most < V) = false := decide_eq_false hhi
        go_enter Try.func91, Try.ntmps91
        go_wp2_with fail
        refine (rrInt_any h l e0 w r).mono ?_
        rintro e w1 ⟨hg, hr, v, rfl, hv⟩
        rw [HT.out] at hr hv
        replace hv : v = .int .i64 V := hv
        subst hv
        obtain ⟨a1, n1, c1, r1⟩ := hr
        obtain ⟨y0, y1, yf⟩ := r1.cells
        replace y1 : w1.cell? ⟨h, 1, none⟩ = some (.int .i64 0) := y1
        have R1 := Lib.hid r1
        have G1 := Lib.hid hg
        clear r1 hg
        go_wp2_with fail
        go_quiet (fail)
        go_wp2_with fail
        go_ret2
        rw [HR.out]
        exact ⟨grown_drewN G1.out nq, RRIn.drewN ⟨_, _, _, R1.out⟩ nq, _, rfl, fun _ => rfl⟩
  · have HR : Hid (rbtw 0 most ⟨E, V, l1⟩ = ⟨E, 0, l1⟩) := by show _ = _; unfold rbtw; rw [if_pos hE]
    obtain rfl : V = 0 := hz hE
    have d0 : decide (E = 0) = false := decide_eq_false hE
    have d9 : (E == 0) = false := by simpa using hE
    have hE0 := Lib.hid hE
    clear hz
    go_enter Try.func91, Try.ntmps91
    go_wp2_with fail
    refine (rrInt_any h l e0 w r).mono ?_
    rintro e w1 ⟨hg, hr, v, rfl, hv⟩
    rw [HT.out] at hr hv
    replace hv : v = .int .i64 0 := hv
    subst hv
    obtain ⟨a1, n1, c1, r1⟩ := hr
    obtain ⟨y0, y1, yf⟩ := r1.cells
    replace y1 : w1.cell? ⟨h, 1, none⟩ = some (.int .i64 E) := y1
    have R1 := Lib.hid r1
    have G1 := Lib.hid hg
    clear r1 hg
    go_wp2_with fail
    go_quiet (fail)
    go_wp2_with fail
    go_ret2
    rw [HR.out]
    exact ⟨grown_drewN G1.out nq, RRIn.drewN ⟨_, _, _, R1.out⟩ nq, _, congrArg (fun b => Ending.returned (.tuple #[.int .i64 0, .bool b])) (decide_eq_false hE0.out).symm, fun h => absurd h hE0.out⟩
end Go.Proofs.Ytcbnebcooiagmaa
