/- Joined: super's Encode. The reference's Put to a slice that is full. -/
import Derived.Test.YtcbnebcooiagmaaJy10
namespace Go.Proofs.Ytcbnebcooiagmaa
open Go.RowKit
theorem below_drew1 {h : Nat} {w0 w : World} (b : Below h w0 w) : Below h w0 w.drew := ⟨b.os, b.tape, b.output, b.size, b.block⟩
theorem below_drewB {B0 : Nat} {w : World} (_ : B0 ≤ w.drew.heap.size) : Below B0 w w.drew := ⟨rfl, rfl, rfl, Nat.le_refl _, fun _ _ => rfl⟩
theorem rd_lit (w : World) (l : List Int) (e : Nat) (hl : l.length ≤ 1000) (hw : ∀ x ∈ l, (Lit.int .u8 x).wf = true) : RdAt .u8 (w.alloc (.cells (l.map (Value.int .u8)).toArray e)) (some ⟨w.heap.size, 0, none⟩) l.length l.length l :=
  ⟨rfl, Nat.le_refl _, by unfold maxLen; omega, fun i hi => ⟨_, _, rfl, by rw [cell_of_row _ _ _ _ _ _ (heap_alloc_new w _), Nat.zero_add, List.getElem?_toArray, List.getElem?_map, List.getElem?_eq_getElem hi, nth_eq hi]; rfl⟩, hw, fun h => by cases h⟩
/-- The value is a writer from block B0 on, in which these bytes lie. -/
def WAt (B0 : Nat) (L : List Int) (v : Value) (w : World) : Prop := ∃ h x, v = .pointer (some ⟨h, 0, none⟩) ∧ B0 ≤ h ∧ VarAt .u8 121 5 w h x L
theorem WAt.below {B0 : Nat} {L : List Int} {v : Value} {w w' : World} (p : WAt B0 L v w) (b : Kept w w') : WAt B0 L v w' := by
  obtain ⟨h, x, e, hB, o⟩ := p
  exact ⟨h, x, e, hB, o.below b⟩
theorem typed_var {w : World} {a : Option Addr} {n c h T : Nat} {l : List Int} {x0 : Option Addr} {x1 x2 : Nat} (r : RdAt .u8 w a n c l) (row : w.heap[h]? = some (.cells #[.slice x0 x1 x2] T (0, 0))) : ∀ q, a = some q → 0 < n → q.block ≠ h := by
  intro q hq hn hb
  obtain ⟨b, o, e1, hc⟩ := r.cell 0 hn
  rw [hq] at e1
  injection e1 with e1
  subst e1
  replace hb : b = h := hb
  subst hb
  rw [cell_of_row w _ _ _ _ _ row] at hc
  rcases o with _ | o
  · cases hc
  · cases hc
set_option maxRecDepth 100000 in
theorem i64T9 : Try.prog.underlying 3 = some (.int .i64) := Try.underlying3
set_option linter.unusedSimpArgs false in
set_option linter.unusedVariables false in
set_option maxRecDepth 100000 in
set_option maxHeartbeats 8000000 in
theorem supenc_yes (ep f0 f1 f2 f3 f4 f5 f6 f7 f8 rs rn sq : Int) (w : World) (hw : Blk.Wf ⟨ep, f0, f1, f2, f3, f4, f5, f6, f7, f8, rs, rn, sq⟩) (h : supArg ⟨ep, f0, f1, f2, f3, f4, f5, f6, f7, f8, rs, rn, sq⟩ = true) :
    Calls Try.prog 9 #[.agg #[.int .u64 ep, .int .i64 f0, .int .i64 f1, .int .i64 f2, .int .i64 f3, .int .i64 f4, .int .i64 f5, .int .i64 f6, .int .i64 f7, .int .i64 f8, .int .i64 rs, .int .i64 rn, .int .u64 sq]] w fun e w' => ∃ v, e = .returned (.tuple #[v, .int .i64 (supE ⟨ep, f0, f1, f2, f3, f4, f5, f6, f7, f8, rs, rn, sq⟩)]) ∧ Owns .u8 5 w' w.heap.size v (supV ⟨ep, f0, f1, f2, f3, f4, f5, f6, f7, f8, rs, rn, sq⟩) ∧ Below w.heap.size w w' := by
  have hck : chkB f0 f1 f2 f3 f4 f5 f6 f7 f8 = true := by
    unfold supArg Blk.chk at h
    simp only [Bool.and_eq_true] at h
    exact h.1.1
  have hrs : 0 ≤ rs ∧ 0 ≤ rn := by
    unfold supArg at h
    simp only [Bool.and_eq_true, decide_eq_true_eq] at h
    exact ⟨h.1.2, h.2⟩
  have HCK : Hid (chkN f0 f1 f2 f3 f4 f5 f6 f7 f8 = 0) := by show _ = _; unfold chkN; rw [if_pos hck]
  have hc1 : 64 ≤ f1 ∧ f1 ≤ 4096 := (chk_bd (b := ⟨ep, f0, f1, f2, f3, f4, f5, f6, f7, f8, rs, rn, sq⟩) hck).2
  have HSA := Lib.hid h
  have HW := Lib.hid hw
  have d1 : decide (rs < 0) = false := decide_eq_false (by omega)
  have d2 : decide (rn < 0) = false := decide_eq_false (by omega)
  obtain ⟨N, hN⟩ := Int.eq_ofNat_of_zero_le (show 0 ≤ f1 by omega)
  subst hN
  have hN1 : 64 ≤ N := by omega
  have hN2 : N ≤ 4096 := by omega
  clear h hck hc1
  have hba : Below w.heap.size w (w.alloc (.cells #[.int .u64 ep, .int .i64 f0, .int .i64 (N : Int), .int .i64 f2, .int .i64 f3, .int .i64 f4, .int .i64 f5, .int .i64 f6, .int .i64 f7, .int .i64 f8, .int .i64 rs, .int .i64 rn, .int .u64 sq] 28)) := (Below.refl _ _).alloc (Nat.le_refl _) _
  have hrow := heap_alloc_new w (.cells #[.int .u64 ep, .int .i64 f0, .int .i64 (N : Int), .int .i64 f2, .int .i64 f3, .int .i64 f4, .int .i64 f5, .int .i64 f6, .int .i64 f7, .int .i64 f8, .int .i64 rs, .int .i64 rn, .int .u64 sq] 28)
  obtain ⟨hb, hhb⟩ : ∃ hb, w.heap.size = hb := ⟨_, rfl⟩
  obtain ⟨wa, hwa⟩ : ∃ wa, w.alloc (.cells #[.int .u64 ep, .int .i64 f0, .int .i64 (N : Int), .int .i64 f2, .int .i64 f3, .int .i64 f4, .int .i64 f5, .int .i64 f6, .int .i64 f7, .int .i64 f8, .int .i64 rs, .int .i64 rn, .int .u64 sq] 28) = wa := ⟨_, rfl⟩
  rw [hwa, hhb] at hba hrow
  have HBA := Lib.hid hba
  have HROW := Lib.hid hrow
  have HHB := Lib.hid hhb
  have HWA := Lib.hid hwa
  have hlt : hb < wa.heap.size := (Array.getElem?_eq_some_iff.1 hrow).1
  clear hba hrow hhb hwa
  go_enter Try.func9, Try.ntmps9
  go_wp2_with fail
  try rw [HWA.out, HHB.out]
  refine (check_any f0 (N : Int) f2 f3 f4 f5 f6 f7 f8 _).mono ?_
  rintro e w1 ⟨rfl, hb1⟩
  rw [HCK.out]
  have BW1 := Lib.hid (Below.trans HBA.out (hb1.mono (Nat.le_of_lt hlt)))
  have ROW1 : Hid (w1.heap[hb]? = some (.cells #[.int .u64 ep, .int .i64 f0, .int .i64 (N : Int), .int .i64 f2, .int .i64 f3, .int .i64 f4, .int .i64 f5, .int .i64 f6, .int .i64 f7, .int .i64 f8, .int .i64 rs, .int .i64 rn, .int .u64 sq] 28 (0, 0))) := by show _ = _; rw [hb1.block hb hlt]; exact HROW.out
  clear hb1
  obtain ⟨z0, z1, z2, z3, z4, z5, z6, z7, z8, z9, z10, z11, z12⟩ := cells13 ROW1.out
  obtain ⟨B1, hB1⟩ : ∃ B1, w1.heap.size = B1 := ⟨_, rfl⟩
  have HB1 : Hid (B1 ≤ w1.drew.heap.size) := by show B1 ≤ w1.heap.size; omega
  have HLB1 : Hid (hb < B1) := by show _ < _; rw [← hB1]; exact (Array.getElem?_eq_some_iff.1 ROW1.out).1
  clear hB1
  go_wp2_with fail
  refine' reg_kill [(1, 0)] [(fun v w3 => ∃ q, v = Value.slice (some ⟨q, 0, none⟩) 8 8 ∧ B1 ≤ q ∧ w3.heap[q]? = some (.cells (magicL.map (Value.int .u8)).toArray 5 (0, 0))), isBytes (magicL), eqV _, eqV _, isBytes (magicL ++ putL ep 8), eqV _, eqV _, (fun v w3 => Owns .u8 5 w3 (hb + 1) v (supHead ⟨ep, f0, (N : Int), f2, f3, f4, f5, f6, f7, f8, rs, rn, sq⟩)), (fun v w3 => Owns .u8 5 w3 (hb + 1) v (supHead ⟨ep, f0, (N : Int), f2, f3, f4, f5, f6, f7, f8, rs, rn, sq⟩))] [(1, fun w5 w6 => Below B1 w5 w6)] [(0, fun w => B1 ≤ w.heap.size), (3, fun w => w.heap[hb]? = some (.cells #[.int .u64 ep, .int .i64 f0, .int .i64 (N : Int), .int .i64 f2, .int .i64 f3, .int .i64 f4, .int .i64 f5, .int .i64 f6, .int .i64 f7, .int .i64 f8, .int .i64 rs, .int .i64 rn, .int .u64 sq] 28 (0, 0))), (6, fun w => w.heap[hb]? = some (.cells #[.int .u64 ep, .int .i64 f0, .int .i64 (N : Int), .int .i64 f2, .int .i64 f3, .int .i64 f4, .int .i64 f5, .int .i64 f6, .int .i64 f7, .int .i64 f8, .int .i64 rs, .int .i64 rn, .int .u64 sq] 28 (0, 0))), (7, fun w => w.heap[hb]? = some (.cells #[.int .u64 ep, .int .i64 f0, .int .i64 (N : Int), .int .i64 f2, .int .i64 f3, .int .i64 f4, .int .i64 f5, .int .i64 f6, .int .i64 f7, .int .i64 f8, .int .i64 rs, .int .i64 rn, .int .u64 sq] 28 (0, 0))), (9, fun w3 => (w3.heap[hb]? = some (.cells #[.int .u64 ep, .int .i64 f0, .int .i64 (N : Int), .int .i64 f2, .int .i64 f3, .int .i64 f4, .int .i64 f5, .int .i64 f6, .int .i64 f7, .int .i64 f8, .int .i64 rs, .int .i64 rn, .int .u64 sq] 28 (0, 0))) ∧ Below hb w w3)] [22, 23, 24, 25, 26, 27, 28, 29, 4] [[], [0], [], [2], [1, 3], [], [5], [4, 6], [7]] [0, 1, 2, 3, 4, 5, 6, 7, 8] 9 (by kernel_rfl) (by kernel_rfl) ⟨fun _ _ _ ⟨q, e, h1, h2⟩ b => ⟨q, e, h1, row_keep h2 b⟩, isBytes_stays _, eqV_stays _, eqV_stays _, isBytes_stays _, eqV_stays _, eqV_stays _, fun _ _ _ p b => Owns.below p b, fun _ _ _ p b => Owns.below p b, trivial⟩ ⟨⟨.inr (.inr (.inr (by kernel_rfl))), .inr (.inr (.inl rfl)), .inl (eqV_stays _), .inl (eqV_stays _), .inr (.inl (by kernel_rfl)), .inl (eqV_stays _), .inl (eqV_stays _), .inr (.inl (by kernel_rfl)), .inr (.inl (by kernel_rfl)), trivial⟩, trivial⟩ ⟨fun _ _ p b => Nat.le_trans p b.size, fun _ _ p b => row_keep p b, fun _ _ p b => row_keep p b, fun _ _ p b => row_keep p b, fun _ _ p b => ⟨row_keep p.1 b, Below.trans p.2 (b.mono (Nat.le_of_lt (Array.getElem?_eq_some_iff.1 p.1).1))⟩, trivial⟩ ⟨⟨.inr (.inl (by kernel_rfl)), .inl (fun _ _ p b => (Below.block b hb HLB1.out).trans p), .inl (fun _ _ p b => (Below.block b hb HLB1.out).trans p), .inl (fun _ _ p b => (Below.block b hb HLB1.out).trans p), .inl (fun _ _ p b => ⟨(Below.block b hb HLB1.out).trans p.1, Below.trans p.2 (Below.mono b (Nat.le_of_lt HLB1.out))⟩), trivial⟩, trivial⟩ ⟨HB1.out, ROW1.out, ROW1.out, ROW1.out, ⟨ROW1.out, below_drew1 BW1.out⟩, trivial⟩ 64 rfl (by kernel_rfl) (by kernel_rfl) rfl rfl 9 rfl ?q1obl ?q1fin
  case q1obl =>
    refine And.intro ?q1o0 (And.intro ?q1o1 (And.intro ?q1o2 (And.intro ?q1o3 (And.intro ?q1o4 (And.intro ?q1o5 (And.intro ?q1o6 (And.intro ?q1o7 (And.intro ?q1o8 (True.intro)))))))))
    case q1o0 =>
      intro w1 hI
      replace hI : (fun w => B1 ≤ w.heap.size) w1 := hI
      refine turn2_on (by rfl) ?_
      intro K hK
      go_simp
      refine hK _ _ ⟨rfl, (Below.refl _ _).alloc (Nat.le_refl _) _, ?_⟩
      show ∃ q, _ = Value.slice (some ⟨q, 0, none⟩) 8 8 ∧ _ ∧ _
      simp only [List.getD_cons_zero, List.getD_cons_succ, Array.getD_eq_getD_getElem?, List.getElem?_toArray, List.getElem?_cons_zero, List.getElem?_cons_succ, Option.getD_some]
      exact ⟨_, rfl, hI, heap_alloc_new _ _⟩
    case q1o1 =>
      intro w1 hI
      intro v0 h0
      obtain ⟨q0, rfl, hq0, h0⟩ := h0
      refine turn2_on (by rfl) ?_
      intro K hK
      simp only [List.getD_cons_zero, List.getD_cons_succ, List.setIfInBounds_toArray, List.set_cons_zero, List.set_cons_succ]
      refine wp_mark 23 rfl u8T s8 _ rfl rfl h0 ?_
      intro w9 hr9 hg9
      have hq9 := (Array.getElem?_eq_some_iff.1 h0).1
      refine hK _ _ ⟨rfl, (Below.refl B1 w1).grown hg9 (by omega) (fun k hk => by injection hk with hk; omega), ?_⟩
      show isBytes _ _ _
      simp only [List.getD_cons_zero, List.getD_cons_succ, Array.getD_eq_getD_getElem?, List.getElem?_toArray, List.getElem?_cons_zero, List.getElem?_cons_succ, Option.getD_some]
      exact ⟨_, _, _, rfl, rd_row hr9 (by decide) (by decide)⟩
    case q1o2 =>
      intro w1 hI
      refine turn2_on (by rfl) ?_
      intro K hK
      go_simp
      refine hK _ _ ⟨rfl, Kept.refl _, ?_⟩
      show _ = _
      simp only [List.getD_cons_zero, List.getD_cons_succ, Array.getD_eq_getD_getElem?, List.getElem?_toArray, List.getElem?_cons_zero, List.getElem?_cons_succ, Option.getD_some]
      rfl
    case q1o3 =>
      intro w1 hI
      replace hI : (fun w => w.heap[hb]? = some (.cells #[.int .u64 ep, .int .i64 f0, .int .i64 (N : Int), .int .i64 f2, .int .i64 f3, .int .i64 f4, .int .i64 f5, .int .i64 f6, .int .i64 f7, .int .i64 f8, .int .i64 rs, .int .i64 rn, .int .u64 sq] 28 (0, 0))) w1 := hI
      intro v2 h2
      change _ = _ at h2
      subst v2
      refine turn2_on (by rfl) ?_
      intro K hK
      simp only [List.getD_cons_zero, List.getD_cons_succ, List.setIfInBounds_toArray, List.set_cons_zero, List.set_cons_succ]
      obtain ⟨z0, z1, z2, z3, z4, z5, z6, z7, z8, z9, z10, z11, z12⟩ := cells13 hI
      go_simp
      refine hK _ _ ⟨rfl, Kept.refl _, ?_⟩
      show _ = _
      simp only [List.getD_cons_zero, List.getD_cons_succ, Array.getD_eq_getD_getElem?, List.getElem?_toArray, List.getElem?_cons_zero, List.getElem?_cons_succ, Option.getD_some]
      rfl
    case q1o4 =>
      intro w1 hI
      intro v1 h1
      obtain ⟨a1, n1, c1, rfl, h1⟩ := h1
      intro v3 h3
      change _ = _ at h3
      subst v3
      refine turn2_on (by rfl) ?_
      intro K hK
      simp only [List.getD_cons_zero, List.getD_cons_succ, List.setIfInBounds_toArray, List.set_cons_zero, List.set_cons_succ]
      go_simp
      refine Calls.mono (put_any a1 n1 c1 magicL ep 8 w1 h1 (by have := h1.len; simp [magicL] at this; omega) HW.out.ep.1 HW.out.ep.2 (by omega) (by omega)) ?_
      rintro e w2 ⟨vv, rfl, hov, hbx⟩
      refine hK _ _ ⟨rfl, hbx, ?_⟩
      show isBytes _ _ _
      simp only [List.getD_cons_zero, List.getD_cons_succ, Array.getD_eq_getD_getElem?, List.getElem?_toArray, List.getElem?_cons_zero, List.getElem?_cons_succ, Option.getD_some]
      rw [show putN 8 = 8 from rfl] at hov
      exact hov.isBytes
    case q1o5 =>
      intro w1 hI
      refine turn2_on (by rfl) ?_
      intro K hK
      go_simp
      refine hK _ _ ⟨rfl, Kept.refl _, ?_⟩
      show _ = _
      simp only [List.getD_cons_zero, List.getD_cons_succ, Array.getD_eq_getD_getElem?, List.getElem?_toArray, List.getElem?_cons_zero, List.getElem?_cons_succ, Option.getD_some]
      rfl
    case q1o6 =>
      intro w1 hI
      replace hI : (fun w => w.heap[hb]? = some (.cells #[.int .u64 ep, .int .i64 f0, .int .i64 (N : Int), .int .i64 f2, .int .i64 f3, .int .i64 f4, .int .i64 f5, .int .i64 f6, .int .i64 f7, .int .i64 f8, .int .i64 rs, .int .i64 rn, .int .u64 sq] 28 (0, 0))) w1 := hI
      intro v5 h5
      change _ = _ at h5
      subst v5
      refine turn2_on (by rfl) ?_
      intro K hK
      simp only [List.getD_cons_zero, List.getD_cons_succ, List.setIfInBounds_toArray, List.set_cons_zero, List.set_cons_succ]
      obtain ⟨z0, z1, z2, z3, z4, z5, z6, z7, z8, z9, z10, z11, z12⟩ := cells13 hI
      go_simp
      refine hK _ _ ⟨rfl, Kept.refl _, ?_⟩
      show _ = _
      simp only [List.getD_cons_zero, List.getD_cons_succ, Array.getD_eq_getD_getElem?, List.getElem?_toArray, List.getElem?_cons_zero, List.getElem?_cons_succ, Option.getD_some]
      rfl
    case q1o7 =>
      intro w1 hI
      replace hI : (fun w => w.heap[hb]? = some (.cells #[.int .u64 ep, .int .i64 f0, .int .i64 (N : Int), .int .i64 f2, .int .i64 f3, .int .i64 f4, .int .i64 f5, .int .i64 f6, .int .i64 f7, .int .i64 f8, .int .i64 rs, .int .i64 rn, .int .u64 sq] 28 (0, 0))) w1 := hI
      intro v4 h4
      obtain ⟨a4, n4, c4, rfl, h4⟩ := h4
      intro v6 h6
      change _ = _ at h6
      subst v6
      refine turn2_on (by rfl) ?_
      intro K hK
      simp only [List.getD_cons_zero, List.getD_cons_succ, List.setIfInBounds_toArray, List.set_cons_zero, List.set_cons_succ]
      go_simp
      refine Calls.mono (put_any a4 n4 c4 (magicL ++ putL ep 8) sq 8 w1 h4 (by have := h4.len; rw [List.length_append, putL_len] at this; simp [magicL] at this; omega) HW.out.sq.1 HW.out.sq.2 (by omega) (by omega)) ?_
      rintro e w2 ⟨vv, rfl, hov, hbx⟩
      refine hK _ _ ⟨rfl, hbx, ?_⟩
      show Owns _ _ _ _ _ _
      simp only [List.getD_cons_zero, List.getD_cons_succ, Array.getD_eq_getD_getElem?, List.getElem?_toArray, List.getElem?_cons_zero, List.getElem?_cons_succ, Option.getD_some]
      rw [show putN 8 = 8 from rfl] at hov
      exact hov.mono (by have := (Array.getElem?_eq_some_iff.1 hI).1; omega)
    case q1o8 =>
      intro w1 hI
      intro v7 h7
      refine turn2_on (by rfl) ?_
      intro K hK
      simp only [List.getD_cons_zero, List.getD_cons_succ, List.setIfInBounds_toArray, List.set_cons_zero, List.set_cons_succ]
      go_simp
      refine hK _ _ ⟨rfl, Kept.refl _, ?_⟩
      show Owns _ _ _ _ _ _
      simp only [List.getD_cons_zero, List.getD_cons_succ, Array.getD_eq_getD_getElem?, List.getElem?_toArray, List.getElem?_cons_zero, List.getElem?_cons_succ, Option.getD_some]
      exact h7
  intro w2 hI
  replace hI : (fun w3 => (w3.heap[hb]? = some (.cells #[.int .u64 ep, .int .i64 f0, .int .i64 (N : Int), .int .i64 f2, .int .i64 f3, .int .i64 f4, .int .i64 f5, .int .i64 f6, .int .i64 f7, .int .i64 f8, .int .i64 rs, .int .i64 rn, .int .u64 sq] 28 (0, 0))) ∧ Below hb w w3) w2 := hI
  intro v0 _
  intro v1 h1
  replace h1 := h1 (by kernel_rfl)
  obtain ⟨a1, n1, c1, rfl, h1⟩ := h1
  intro v2 h2
  replace h2 := h2 (by kernel_rfl)
  change _ = _ at h2
  subst v2
  intro v3 h3
  replace h3 := h3 (by kernel_rfl)
  change _ = _ at h3
  subst v3
  intro v4 h4
  replace h4 := h4 (by kernel_rfl)
  obtain ⟨a4, n4, c4, rfl, h4⟩ := h4
  intro v5 h5
  replace h5 := h5 (by kernel_rfl)
  change _ = _ at h5
  subst v5
  intro v6 h6
  replace h6 := h6 (by kernel_rfl)
  change _ = _ at h6
  subst v6
  intro v7 h7
  replace h7 := h7 (by kernel_rfl)
  intro v8 h8
  replace h8 := h8 (by kernel_rfl)
  simp only [Given, List.getD_cons_zero, List.getD_cons_succ, List.setIfInBounds_toArray, List.set_cons_zero, List.set_cons_succ]
  have RO2 := Lib.hid hI.1
  have BW2 := Lib.hid hI.2
  have OH := Lib.hid h8
  clear h1 h4 h7 h8 hI z0 z1 z2 z3 z4 z5 z6 z7 z8 z9 z10 z11 z12
  obtain ⟨a8, c8, rfl⟩ := OH.out.shapeN 24 (supHead_len _)
  obtain ⟨B0, hB0⟩ : ∃ B0, w2.heap.size = B0 := ⟨_, rfl⟩
  have HB0 : Hid (B0 ≤ w2.drew.heap.size) := by show B0 ≤ w2.heap.size; omega
  have HLB : Hid (hb < B0) := by show _ < _; rw [← hB0]; exact (Array.getElem?_eq_some_iff.1 RO2.out).1
  have OHB : Hid (∀ w', Below B0 w2 w' → Owns .u8 5 w' (hb + 1) (.slice a8 24 c8) (supHead ⟨ep, f0, (N : Int), f2, f3, f4, f5, f6, f7, f8, rs, rn, sq⟩)) := fun w' b => OH.out.below (by rw [hB0]; exact b)
  clear hB0 OH BW1 ROW1 HB1 HLB1
  go_wp2_with fail
  refine' reg_kill [(4, 0), (8, 0), (12, 0), (4, 3), (8, 3), (12, 3), (8, 4), (12, 4), (12, 8)] [(fun v w => ∃ h, v = Value.pointer (some ⟨h, 0, none⟩) ∧ B0 ≤ h ∧ VarAt .u8 121 5 w h (.slice none 0 0) []), eqV _, eqV _, isBytes (encL [f0, (N : Int), f2, f3, f4, f5, f6, f7, f8]), (WAt B0 (varF 9 (zigI (encL [f0, (N : Int), f2, f3, f4, f5, f6, f7, f8]).length) ++ encL [f0, (N : Int), f2, f3, f4, f5, f6, f7, f8])), eqV _, eqV _, eqV _, (WAt B0 (varF 9 (zigI (encL [f0, (N : Int), f2, f3, f4, f5, f6, f7, f8]).length) ++ encL [f0, (N : Int), f2, f3, f4, f5, f6, f7, f8] ++ varF 9 (zigI rs))), eqV _, eqV _, eqV _, (WAt B0 (varF 9 (zigI (encL [f0, (N : Int), f2, f3, f4, f5, f6, f7, f8]).length) ++ encL [f0, (N : Int), f2, f3, f4, f5, f6, f7, f8] ++ varF 9 (zigI rs) ++ varF 9 (zigI rn))), (WAt B0 (varF 9 (zigI (encL [f0, (N : Int), f2, f3, f4, f5, f6, f7, f8]).length) ++ encL [f0, (N : Int), f2, f3, f4, f5, f6, f7, f8] ++ varF 9 (zigI rs) ++ varF 9 (zigI rn)))] [(4, fun w5 w6 => Below B0 w5 w6), (8, fun w5 w6 => Below B0 w5 w6), (12, fun w5 w6 => Below B0 w5 w6)] [(0, fun w => B0 ≤ w.heap.size), (2, fun w => w.heap[hb]? = some (.cells #[.int .u64 ep, .int .i64 f0, .int .i64 (N : Int), .int .i64 f2, .int .i64 f3, .int .i64 f4, .int .i64 f5, .int .i64 f6, .int .i64 f7, .int .i64 f8, .int .i64 rs, .int .i64 rn, .int .u64 sq] 28 (0, 0))), (7, fun w => w.heap[hb]? = some (.cells #[.int .u64 ep, .int .i64 f0, .int .i64 (N : Int), .int .i64 f2, .int .i64 f3, .int .i64 f4, .int .i64 f5, .int .i64 f6, .int .i64 f7, .int .i64 f8, .int .i64 rs, .int .i64 rn, .int .u64 sq] 28 (0, 0))), (11, fun w => w.heap[hb]? = some (.cells #[.int .u64 ep, .int .i64 f0, .int .i64 (N : Int), .int .i64 f2, .int .i64 f3, .int .i64 f4, .int .i64 f5, .int .i64 f6, .int .i64 f7, .int .i64 f8, .int .i64 rs, .int .i64 rn, .int .u64 sq] 28 (0, 0))), (14, fun w5 => Below B0 w2 w5 ∧ B0 ≤ w5.heap.size)] [30, 31, 32, 33, 34, 35, 36, 37, 38, 39, 40, 41, 42, 5] [[], [], [1], [2], [0, 3], [], [5], [6], [4, 7], [], [9], [10], [8, 11], [12]] [0, 1, 2, 3, 4, 5, 6, 7, 8, 9, 10, 11, 12, 13] 14 (by kernel_rfl) (by kernel_rfl) ⟨fun _ _ _ ⟨h, e, hB, o⟩ b => ⟨h, e, hB, o.below b⟩, eqV_stays _, eqV_stays _, isBytes_stays _, fun _ _ _ p b => WAt.below p b, eqV_stays _, eqV_stays _, eqV_stays _, fun _ _ _ p b => WAt.below p b, eqV_stays _, eqV_stays _, eqV_stays _, fun _ _ _ p b => WAt.below p b, fun _ _ _ p b => WAt.below p b, trivial⟩ ⟨⟨.inr (.inr (.inr (by kernel_rfl))), .inl (eqV_stays _), .inl (eqV_stays _), .inr (.inr (.inr (by kernel_rfl))), .inr (.inr (.inl rfl)), .inl (eqV_stays _), .inl (eqV_stays _), .inl (eqV_stays _), .inr (.inl (by kernel_rfl)), .inl (eqV_stays _), .inl (eqV_stays _), .inl (eqV_stays _), .inr (.inl (by kernel_rfl)), .inr (.inl (by kernel_rfl)), trivial⟩, ⟨.inr (.inr (.inr (by kernel_rfl))), .inl (eqV_stays _), .inl (eqV_stays _), .inr (.inr (.inr (by kernel_rfl))), .inr (.inr (.inr (by kernel_rfl))), .inl (eqV_stays _), .inl (eqV_stays _), .inl (eqV_stays _), .inr (.inr (.inl rfl)), .inl (eqV_stays _), .inl (eqV_stays _), .inl (eqV_stays _), .inr (.inl (by kernel_rfl)), .inr (.inl (by kernel_rfl)), trivial⟩, ⟨.inr (.inr (.inr (by kernel_rfl))), .inl (eqV_stays _), .inl (eqV_stays _), .inr (.inr (.inr (by kernel_rfl))), .inr (.inr (.inr (by kernel_rfl))), .inl (eqV_stays _), .inl (eqV_stays _), .inl (eqV_stays _), .inr (.inr (.inr (by kernel_rfl))), .inl (eqV_stays _), .inl (eqV_stays _), .inl (eqV_stays _), .inr (.inr (.inl rfl)), .inr (.inl (by kernel_rfl)), trivial⟩, trivial⟩ ⟨fun _ _ p b => Nat.le_trans p b.size, fun _ _ p b => row_keep p b, fun _ _ p b => row_keep p b, fun _ _ p b => row_keep p b, fun _ _ p b => ⟨Below.trans p.1 (b.mono p.2), Nat.le_trans p.2 b.size⟩, trivial⟩ ⟨⟨.inr (.inl (by kernel_rfl)), .inr (.inl (by kernel_rfl)), .inl (fun _ _ p b => (Below.block b hb HLB.out).trans p), .inl (fun _ _ p b => (Below.block b hb HLB.out).trans p), .inl (fun _ _ p b => ⟨Below.trans p.1 b, Nat.le_trans p.2 b.size⟩), trivial⟩, ⟨.inr (.inl (by kernel_rfl)), .inr (.inl (by kernel_rfl)), .inr (.inl (by kernel_rfl)), .inl (fun _ _ p b => (Below.block b hb HLB.out).trans p), .inl (fun _ _ p b => ⟨Below.trans p.1 b, Nat.le_trans p.2 b.size⟩), trivial⟩, ⟨.inr (.inl (by kernel_rfl)), .inr (.inl (by kernel_rfl)), .inr (.inl (by kernel_rfl)), .inr (.inl (by kernel_rfl)), .inl (fun _ _ p b => ⟨Below.trans p.1 b, Nat.le_trans p.2 b.size⟩), trivial⟩, trivial⟩ ⟨HB0.out, RO2.out, RO2.out, RO2.out, ⟨below_drewB HB0.out, HB0.out⟩, trivial⟩ 64 rfl (by kernel_rfl) (by kernel_rfl) rfl rfl 14 rfl ?q2obl ?q2fin
  case q2obl =>
    refine And.intro ?q2o0 (And.intro ?q2o1 (And.intro ?q2o2 (And.intro ?q2o3 (And.intro ?q2o4 (And.intro ?q2o5 (And.intro ?q2o6 (And.intro ?q2o7 (And.intro ?q2o8 (And.intro ?q2o9 (And.intro ?q2o10 (And.intro ?q2o11 (And.intro ?q2o12 (And.intro ?q2o13 (True.intro))))))))))))))
    case q2o0 =>
      intro w1 hI
      replace hI : (fun w => B0 ≤ w.heap.size) w1 := hI
      refine turn2_on (by rfl) ?_
      intro K hK
      go_simp
      refine Calls.mono (newwriter_any w1) ?_
      rintro e w9 ⟨rfl, ho9, hb9⟩
      refine hK _ _ ⟨rfl, hb9, ?_⟩
      show ∃ h, _ = Value.pointer (some ⟨h, 0, none⟩) ∧ _ ∧ _
      simp only [List.getD_cons_zero, List.getD_cons_succ, Array.getD_eq_getD_getElem?, List.getElem?_toArray, List.getElem?_cons_zero, List.getElem?_cons_succ, Option.getD_some]
      exact ⟨_, rfl, hI, ho9⟩
    case q2o1 =>
      intro w1 hI
      refine turn2_on (by rfl) ?_
      intro K hK
      go_simp
      refine hK _ _ ⟨rfl, Kept.refl _, ?_⟩
      show _ = _
      simp only [List.getD_cons_zero, List.getD_cons_succ, Array.getD_eq_getD_getElem?, List.getElem?_toArray, List.getElem?_cons_zero, List.getElem?_cons_succ, Option.getD_some]
      rfl
    case q2o2 =>
      intro w1 hI
      replace hI : (fun w => w.heap[hb]? = some (.cells #[.int .u64 ep, .int .i64 f0, .int .i64 (N : Int), .int .i64 f2, .int .i64 f3, .int .i64 f4, .int .i64 f5, .int .i64 f6, .int .i64 f7, .int .i64 f8, .int .i64 rs, .int .i64 rn, .int .u64 sq] 28 (0, 0))) w1 := hI
      intro v1 h1
      change _ = _ at h1
      subst v1
      refine turn2_on (by rfl) ?_
      intro K hK
      simp only [List.getD_cons_zero, List.getD_cons_succ, List.setIfInBounds_toArray, List.set_cons_zero, List.set_cons_succ]
      obtain ⟨z0, z1, z2, z3, z4, z5, z6, z7, z8, z9, z10, z11, z12⟩ := cells13 hI
      go_simp
      refine hK _ _ ⟨rfl, Kept.refl _, ?_⟩
      show _ = _
      simp only [List.getD_cons_zero, List.getD_cons_succ, Array.getD_eq_getD_getElem?, List.getElem?_toArray, List.getElem?_cons_zero, List.getElem?_cons_succ, Option.getD_some]
      rfl
    case q2o3 =>
      intro w1 hI
      intro v2 h2
      change _ = _ at h2
      subst v2
      refine turn2_on (by rfl) ?_
      intro K hK
      simp only [List.getD_cons_zero, List.getD_cons_succ, List.setIfInBounds_toArray, List.set_cons_zero, List.set_cons_succ]
      go_simp
      refine Calls.mono (genc_any f0 (N : Int) f2 f3 f4 f5 f6 f7 f8 w1 HW.out.w0 HW.out.w1 HW.out.w2 HW.out.w3 HW.out.w4 HW.out.w5 HW.out.w6 HW.out.w7 HW.out.w8) ?_
      rintro e w2 ⟨vv, rfl, hov, hbx⟩
      refine hK _ _ ⟨rfl, hbx, ?_⟩
      show isBytes _ _ _
      simp only [List.getD_cons_zero, List.getD_cons_succ, Array.getD_eq_getD_getElem?, List.getElem?_toArray, List.getElem?_cons_zero, List.getElem?_cons_succ, Option.getD_some]
      exact hov.isBytes
    case q2o4 =>
      intro w1 hI
      intro v0 h0
      obtain ⟨g0, rfl, hg0, hv0⟩ := h0
      intro v3 h3
      obtain ⟨a3, n3, c3, rfl, h3⟩ := h3
      refine turn2_on (by rfl) ?_
      intro K hK
      simp only [List.getD_cons_zero, List.getD_cons_succ, List.setIfInBounds_toArray, List.set_cons_zero, List.set_cons_succ]
      go_simp
      refine Calls.mono (wbytes_any g0 (.slice none 0 0) [] a3 n3 c3 (encL [f0, (N : Int), f2, f3, f4, f5, f6, f7, f8]) w1 hv0 (by have := h3.len; have := encL_len [f0, (N : Int), f2, f3, f4, f5, f6, f7, f8]; simp at *; omega) h3 (fun q hq hn => ⟨typed_var h3 hv0.row q hq hn, fun e => by cases e⟩)) ?_
      rintro e w9 ⟨rfl, ⟨v9, ho9, hn9⟩, hs9⟩
      rw [List.nil_append, ← h3.len] at ho9
      refine hK _ _ ⟨rfl, (hs9.below (Nat.le_of_lt hv0.lt) (fun q hq => by have := (hv0.own.at_base q hq).1; omega)).mono hg0, ?_⟩
      show WAt _ _ _ _
      simp only [List.getD_cons_zero, List.getD_cons_succ, Array.getD_eq_getD_getElem?, List.getElem?_toArray, List.getElem?_cons_zero, List.getElem?_cons_succ, Option.getD_some]
      exact ⟨g0, v9, rfl, hg0, ho9⟩
    case q2o5 =>
      intro w1 hI
      refine turn2_on (by rfl) ?_
      intro K hK
      go_simp
      refine hK _ _ ⟨rfl, Kept.refl _, ?_⟩
      show _ = _
      simp only [List.getD_cons_zero, List.getD_cons_succ, Array.getD_eq_getD_getElem?, List.getElem?_toArray, List.getElem?_cons_zero, List.getElem?_cons_succ, Option.getD_some]
      rfl
    case q2o6 =>
      intro w1 hI
      intro v5 h5
      change _ = _ at h5
      subst v5
      refine turn2_on (by rfl) ?_
      intro K hK
      simp only [List.getD_cons_zero, List.getD_cons_succ, List.setIfInBounds_toArray, List.set_cons_zero, List.set_cons_succ]
      go_simp
      refine hK _ _ ⟨rfl, Kept.refl _, ?_⟩
      show _ = _
      simp only [List.getD_cons_zero, List.getD_cons_succ, Array.getD_eq_getD_getElem?, List.getElem?_toArray, List.getElem?_cons_zero, List.getElem?_cons_succ, Option.getD_some]
      rfl
    case q2o7 =>
      intro w1 hI
      replace hI : (fun w => w.heap[hb]? = some (.cells #[.int .u64 ep, .int .i64 f0, .int .i64 (N : Int), .int .i64 f2, .int .i64 f3, .int .i64 f4, .int .i64 f5, .int .i64 f6, .int .i64 f7, .int .i64 f8, .int .i64 rs, .int .i64 rn, .int .u64 sq] 28 (0, 0))) w1 := hI
      intro v6 h6
      change _ = _ at h6
      subst v6
      refine turn2_on (by rfl) ?_
      intro K hK
      simp only [List.getD_cons_zero, List.getD_cons_succ, List.setIfInBounds_toArray, List.set_cons_zero, List.set_cons_succ]
      obtain ⟨z0, z1, z2, z3, z4, z5, z6, z7, z8, z9, z10, z11, z12⟩ := cells13 hI
      go_simp
      refine hK _ _ ⟨rfl, Kept.refl _, ?_⟩
      show _ = _
      simp only [List.getD_cons_zero, List.getD_cons_succ, Array.getD_eq_getD_getElem?, List.getElem?_toArray, List.getElem?_cons_zero, List.getElem?_cons_succ, Option.getD_some]
      rfl
    case q2o8 =>
      intro w1 hI
      intro v4 h4
      obtain ⟨g4, x4, rfl, hg4, hv4⟩ := h4
      intro v7 h7
      change _ = _ at h7
      subst v7
      refine turn2_on (by rfl) ?_
      intro K hK
      simp only [List.getD_cons_zero, List.getD_cons_succ, List.setIfInBounds_toArray, List.set_cons_zero, List.set_cons_succ]
      go_simp
      refine Calls.mono (wint_any g4 x4 _ rs w1 hv4 (by have := encL_len [f0, (N : Int), f2, f3, f4, f5, f6, f7, f8]; have := (varF_len 9 (zigI (encL [f0, (N : Int), f2, f3, f4, f5, f6, f7, f8]).length)).2; simp only [List.length_append, List.length_cons, List.length_nil] at *; omega) HW.out.rs.1 HW.out.rs.2) ?_
      rintro e w9 ⟨rfl, ⟨v9, ho9, hn9⟩, hs9⟩
      refine hK _ _ ⟨rfl, (hs9.below (Nat.le_of_lt hv4.lt) (fun q hq => by have := (hv4.own.at_base q hq).1; omega)).mono hg4, ?_⟩
      show WAt _ _ _ _
      simp only [List.getD_cons_zero, List.getD_cons_succ, Array.getD_eq_getD_getElem?, List.getElem?_toArray, List.getElem?_cons_zero, List.getElem?_cons_succ, Option.getD_some]
      exact ⟨g4, v9, rfl, hg4, ho9⟩
    case q2o9 =>
      intro w1 hI
      refine turn2_on (by rfl) ?_
      intro K hK
      go_simp
      refine hK _ _ ⟨rfl, Kept.refl _, ?_⟩
      show _ = _
      simp only [List.getD_cons_zero, List.getD_cons_succ, Array.getD_eq_getD_getElem?, List.getElem?_toArray, List.getElem?_cons_zero, List.getElem?_cons_succ, Option.getD_some]
      rfl
    case q2o10 =>
      intro w1 hI
      intro v9 h9
      change _ = _ at h9
      subst v9
      refine turn2_on (by rfl) ?_
      intro K hK
      simp only [List.getD_cons_zero, List.getD_cons_succ, List.setIfInBounds_toArray, List.set_cons_zero, List.set_cons_succ]
      go_simp
      refine hK _ _ ⟨rfl, Kept.refl _, ?_⟩
      show _ = _
      simp only [List.getD_cons_zero, List.getD_cons_succ, Array.getD_eq_getD_getElem?, List.getElem?_toArray, List.getElem?_cons_zero, List.getElem?_cons_succ, Option.getD_some]
      rfl
    case q2o11 =>
      intro w1 hI
      replace hI : (fun w => w.heap[hb]? = some (.cells #[.int .u64 ep, .int .i64 f0, .int .i64 (N : Int), .int .i64 f2, .int .i64 f3, .int .i64 f4, .int .i64 f5, .int .i64 f6, .int .i64 f7, .int .i64 f8, .int .i64 rs, .int .i64 rn, .int .u64 sq] 28 (0, 0))) w1 := hI
      intro v10 h10
      change _ = _ at h10
      subst v10
      refine turn2_on (by rfl) ?_
      intro K hK
      simp only [List.getD_cons_zero, List.getD_cons_succ, List.setIfInBounds_toArray, List.set_cons_zero, List.set_cons_succ]
      obtain ⟨z0, z1, z2, z3, z4, z5, z6, z7, z8, z9, z10, z11, z12⟩ := cells13 hI
      go_simp
      refine hK _ _ ⟨rfl, Kept.refl _, ?_⟩
      show _ = _
      simp only [List.getD_cons_zero, List.getD_cons_succ, Array.getD_eq_getD_getElem?, List.getElem?_toArray, List.getElem?_cons_zero, List.getElem?_cons_succ, Option.getD_some]
      rfl
    case q2o12 =>
      intro w1 hI
      intro v8 h8
      obtain ⟨g8, x8, rfl, hg8, hv8⟩ := h8
      intro v11 h11
      change _ = _ at h11
      subst v11
      refine turn2_on (by rfl) ?_
      intro K hK
      simp only [List.getD_cons_zero, List.getD_cons_succ, List.setIfInBounds_toArray, List.set_cons_zero, List.set_cons_succ]
      go_simp
      refine Calls.mono (wint_any g8 x8 _ rn w1 hv8 (by have := encL_len [f0, (N : Int), f2, f3, f4, f5, f6, f7, f8]; have := (varF_len 9 (zigI (encL [f0, (N : Int), f2, f3, f4, f5, f6, f7, f8]).length)).2; have := (varF_len 9 (zigI rs)).2; simp only [List.length_append, List.length_cons, List.length_nil] at *; omega) HW.out.rn.1 HW.out.rn.2) ?_
      rintro e w9 ⟨rfl, ⟨v9, ho9, hn9⟩, hs9⟩
      refine hK _ _ ⟨rfl, (hs9.below (Nat.le_of_lt hv8.lt) (fun q hq => by have := (hv8.own.at_base q hq).1; omega)).mono hg8, ?_⟩
      show WAt _ _ _ _
      simp only [List.getD_cons_zero, List.getD_cons_succ, Array.getD_eq_getD_getElem?, List.getElem?_toArray, List.getElem?_cons_zero, List.getElem?_cons_succ, Option.getD_some]
      exact ⟨g8, v9, rfl, hg8, ho9⟩
    case q2o13 =>
      intro w1 hI
      intro v12 h12
      obtain ⟨g12, x12, rfl, hg12, hv12⟩ := h12
      refine turn2_on (by rfl) ?_
      intro K hK
      simp only [List.getD_cons_zero, List.getD_cons_succ, List.setIfInBounds_toArray, List.set_cons_zero, List.set_cons_succ]
      go_simp
      refine hK _ _ ⟨rfl, Kept.refl _, ?_⟩
      show WAt _ _ _ _
      simp only [List.getD_cons_zero, List.getD_cons_succ, Array.getD_eq_getD_getElem?, List.getElem?_toArray, List.getElem?_cons_zero, List.getElem?_cons_succ, Option.getD_some]
      exact ⟨g12, x12, rfl, hg12, hv12⟩
  intro w4 hI
  replace hI : (fun w5 => Below B0 w2 w5 ∧ B0 ≤ w5.heap.size) w4 := hI
  intro v0 _
  intro v1 h1
  replace h1 := h1 (by kernel_rfl)
  change _ = _ at h1
  subst v1
  intro v2 h2
  replace h2 := h2 (by kernel_rfl)
  change _ = _ at h2
  subst v2
  intro v3 _
  intro v4 _
  intro v5 h5
  replace h5 := h5 (by kernel_rfl)
  change _ = _ at h5
  subst v5
  intro v6 h6
  replace h6 := h6 (by kernel_rfl)
  change _ = _ at h6
  subst v6
  intro v7 h7
  replace h7 := h7 (by kernel_rfl)
  change _ = _ at h7
  subst v7
  intro v8 _
  intro v9 h9
  replace h9 := h9 (by kernel_rfl)
  change _ = _ at h9
  subst v9
  intro v10 h10
  replace h10 := h10 (by kernel_rfl)
  change _ = _ at h10
  subst v10
  intro v11 h11
  replace h11 := h11 (by kernel_rfl)
  change _ = _ at h11
  subst v11
  intro v12 h12
  replace h12 := h12 (by kernel_rfl)
  obtain ⟨g12, x12, rfl, hg12, hv12⟩ := h12
  intro v13 h13
  replace h13 := h13 (by kernel_rfl)
  obtain ⟨g13, x13, rfl, hg13, hv13⟩ := h13
  simp only [Given, List.getD_cons_zero, List.getD_cons_succ, List.setIfInBounds_toArray, List.set_cons_zero, List.set_cons_succ]
  have HI := Lib.hid hI
  have HV := Lib.hid hv13
  have OH1 := Lib.hid (OHB.out _ hI.1)
  have ROW4 : Hid (w4.heap[hb]? = some (.cells #[.int .u64 ep, .int .i64 f0, .int .i64 (N : Int), .int .i64 f2, .int .i64 f3, .int .i64 f4, .int .i64 f5, .int .i64 f6, .int .i64 f7, .int .i64 f8, .int .i64 rs, .int .i64 rn, .int .u64 sq] 28 (0, 0))) := (Below.block hI.1 hb HLB.out).trans RO2.out
  have HLO : Hid ((supBody ⟨ep, f0, (N : Int), f2, f3, f4, f5, f6, f7, f8, rs, rn, sq⟩).length ≤ 150) := by
    show _ ≤ _
    have h1 := supOut_len ⟨ep, f0, (N : Int), f2, f3, f4, f5, f6, f7, f8, rs, rn, sq⟩
    unfold supOut at h1
    rw [List.length_append] at h1
    omega
  replace HV : Hid (VarAt .u8 121 5 w4 g13 x13 (supBody ⟨ep, f0, (N : Int), f2, f3, f4, f5, f6, f7, f8, rs, rn, sq⟩)) := HV
  clear hI hv13 hg13
  go_wp2_with fail
  refine (wdone_any g13 x13 _ w4 HV.out (by have := HLO.out; omega)).mono ?_
  rintro e w5 ⟨x, rfl, hox, hbx⟩
  obtain ⟨nb, hnb⟩ : ∃ nb, (supBody ⟨ep, f0, (N : Int), f2, f3, f4, f5, f6, f7, f8, rs, rn, sq⟩).length = nb := ⟨_, rfl⟩
  obtain ⟨ax, cx, rfl⟩ := hox.shapeN nb hnb
  have HNB := Lib.hid hnb
  have HNL : Hid (nb ≤ 150) := by show nb ≤ 150; have := HLO.out; omega
  have OX := Lib.hid hox.rd
  have OH5 := Lib.hid (OH1.out.below hbx)
  have ROW5 := Lib.hid (row_keep ROW4.out hbx)
  have BW5 := Lib.hid (Below.trans (Below.trans BW2.out (Below.mono HI.out.1 (Nat.le_of_lt HLB.out))) (hbx.mono (Nat.le_of_lt (Array.getElem?_eq_some_iff.1 ROW4.out).1)))
  have hl5 : hb + 1 ≤ w5.heap.size := (Array.getElem?_eq_some_iff.1 ROW5.out).1
  have hnl := HNL.out
  clear hox hbx hnb
  obtain ⟨n6, hn6⟩ : ∃ n6, (supHead ⟨ep, f0, (N : Int), f2, f3, f4, f5, f6, f7, f8, rs, rn, sq⟩ ++ supBody ⟨ep, f0, (N : Int), f2, f3, f4, f5, f6, f7, f8, rs, rn, sq⟩).length = n6 := ⟨_, rfl⟩
  have HN6 := Lib.hid hn6
  have h6l : n6 ≤ 200 := by rw [← hn6, List.length_append, supHead_len]; have := HLO.out; omega
  have hE : supE ⟨ep, f0, (N : Int), f2, f3, f4, f5, f6, f7, f8, rs, rn, sq⟩ = if (N : Int) - 4 < n6 then 24 else 0 := by
    unfold supE supOut
    rw [HSA.out, hn6]
    rfl
  clear hn6
  by_cases q6 : (N : Int) - 4 < n6
  · have HE : Hid (supE ⟨ep, f0, (N : Int), f2, f3, f4, f5, f6, f7, f8, rs, rn, sq⟩ = 24) := by show _ = _; rw [hE, if_pos q6]
    have HVN : Hid (supV ⟨ep, f0, (N : Int), f2, f3, f4, f5, f6, f7, f8, rs, rn, sq⟩ = []) := supV_nil (by rw [HE.out]; decide)
    have d6 : decide ((N : Int) - 4 < n6) = true := decide_eq_true q6
    clear hE
    go_wp2_with (at_builtin; refine app_all u8T u8I (by decide) rfl (.tmp 43) (.tmp 45) rfl _ (hb + 1) _ _ rfl OH5.out _ _ _ _ rfl OX.out (by rw [supHead_len]; omega) hl5 ?_; intro x6 w6 ho6 hg6; have OO := Lib.hid ho6; have ROW6 := Lib.hid ((hg6.1.block hb hl5 (fun e => by have := (OH5.out.at_base hb e.symm).1; omega)).trans ROW5.out); have BW6 : Hid (Below hb w w6) := Below.trans BW5.out (hg6.below (Nat.le_of_lt hl5) (fun g hg => by have := (OH5.out.at_base g hg).1; omega)); have hl6 := hg6.1.size; obtain ⟨a6, c6, rfl⟩ := ho6.shapeN n6 HN6.out; obtain ⟨z0, z1, z2, z3, z4, z5, z6, z7, z8, z9, z10, z11, z12⟩ := cells13 ROW6.out; clear ho6 hg6)
    go_ret2
    rw [HHB.out, HE.out, HVN.out]
    exact ⟨_, rfl, Owns.nil _ _ _ _, BW6.out⟩
  · have HE : Hid (supE ⟨ep, f0, (N : Int), f2, f3, f4, f5, f6, f7, f8, rs, rn, sq⟩ = 0) := by show _ = _; rw [hE, if_neg q6]
    have hk : n6 ≤ N - 4 := by omega
    have HVN : Hid (supV ⟨ep, f0, (N : Int), f2, f3, f4, f5, f6, f7, f8, rs, rn, sq⟩ = sealL (supHead ⟨ep, f0, (N : Int), f2, f3, f4, f5, f6, f7, f8, rs, rn, sq⟩ ++ supBody ⟨ep, f0, (N : Int), f2, f3, f4, f5, f6, f7, f8, rs, rn, sq⟩ ++ List.replicate (N - 4 - n6) 0)) := by
      show _ = _
      unfold supV
      rw [if_pos HE.out]
      unfold supZ supOut
      rw [HN6.out, show ((N : Int) - 4 - n6).toNat = N - 4 - n6 by omega]
    have d6 : decide ((N : Int) - 4 < n6) = false := decide_eq_false q6
    clear hE
    go_wp2_with (first | (at_builtin; refine app_all u8T u8I (by decide) rfl (.tmp 43) (.tmp 45) rfl _ (hb + 1) _ _ rfl OH5.out _ _ _ _ rfl OX.out (by rw [supHead_len]; omega) hl5 ?_; intro x6 w6 ho6 hg6; have OO := Lib.hid ho6; have ROW6 := Lib.hid ((hg6.1.block hb hl5 (fun e => by have := (OH5.out.at_base hb e.symm).1; omega)).trans ROW5.out); have BW6 : Hid (Below hb w w6) := Below.trans BW5.out (hg6.below (Nat.le_of_lt hl5) (fun g hg => by have := (OH5.out.at_base g hg).1; omega)); have hl6 := hg6.1.size; obtain ⟨a6, c6, rfl⟩ := ho6.shapeN n6 HN6.out; obtain ⟨z0, z1, z2, z3, z4, z5, z6, z7, z8, z9, z10, z11, z12⟩ := cells13 ROW6.out; clear ho6 hg6) | (at_builtin; refine app_zeros u8T i64T9 u8I (by decide) (by decide) rfl (.tmp 54) (.tmp 61) rfl _ (hb + 1) _ _ rfl OO.out (N - 4 - n6) (by show Value.int .i64 ((N : Int) - 4 - n6) = Value.int .i64 (((N - 4 - n6 : Nat)) : Int); congr 1; omega) (by rw [HN6.out]; omega) (Nat.le_trans hl5 hl6) ?_; intro x7 w7 ho7 hg7; have OZ := Lib.hid ho7; have BW7 : Hid (Below hb w w7) := Below.trans BW6.out (hg7.below (by omega) (fun g hg => by have := (OO.out.at_base g hg).1; omega)); have hl7 := hg7.1.size; obtain ⟨a7, c7, rfl⟩ := ho7.shapeN (N - 4) (by rw [List.length_append, HN6.out, List.length_replicate]; omega); clear ho7 hg7))
    refine (seal_any a7 (N - 4) c7 _ w7 OZ.out.rd (by omega)).mono ?_
    rintro e w8 ⟨v8, rfl, ho8, hb8⟩
    obtain ⟨n8, hn8⟩ : ∃ n8, (sealL (supHead ⟨ep, f0, (N : Int), f2, f3, f4, f5, f6, f7, f8, rs, rn, sq⟩ ++ supBody ⟨ep, f0, (N : Int), f2, f3, f4, f5, f6, f7, f8, rs, rn, sq⟩ ++ List.replicate (N - 4 - n6) 0)).length = n8 := ⟨_, rfl⟩
    obtain ⟨a9, c9, rfl⟩ := ho8.shapeN n8 hn8
    have O8 := Lib.hid ho8
    have B8 := Lib.hid hb8
    clear ho8 hb8 hn8
    go_wp2_with fail
    go_ret2
    rw [HHB.out, HE.out, HVN.out]
    exact ⟨_, rfl, O8.out.mono (by omega), Below.trans BW7.out (Below.mono B8.out (by omega))⟩
end Go.Proofs.Ytcbnebcooiagmaa
namespace Go.Proofs.Ytcbnebcooiagmaa
open Go.RowKit
def PutSt (w wr : World) (a : Option Addr) (n : Nat) (l : List Int) (v : Int) (x : Value) (k : Nat) : Prop :=
  (k = 0 ∧ x = .slice a n n ∧ wr = w) ∨ (0 < k ∧ Owns .u8 5 wr w.heap.size x (l ++ putL v k) ∧ Below w.heap.size w wr)
set_option linter.unusedSimpArgs false in
set_option linter.unusedVariables false in
set_option maxRecDepth 100000 in
set_option maxHeartbeats 8000000 in
theorem rput_full (a : Option Addr) (n : Nat) (l : List Int) (v : Int) (w : World) (h : RdAt .u8 w a n n l) (hn : l.length ≤ 1000) (v1 : 0 ≤ v) (v2 : v ≤ 18446744073709551615) :
    Calls Try.prog 42 #[.slice a n n, .int .u64 v, .int .i64 8] w fun e w' => ∃ r, e = .returned r ∧ Owns .u8 5 w' w.heap.size r (l ++ putL v 8) ∧ Below w.heap.size w w' := by
  have H := Lib.hid h
  clear h
  go_enter Try.func42, Try.ntmps42
  go_wp2
  go_loopw [0, 1, 7] (fun x y i wr => ∃ k : Nat, k ≤ 8 ∧ i = .int .i64 k ∧ y = .int .u64 (v / 2 ^ (8 * k)) ∧ PutSt w wr a n l v x k) (fun _ _ i _ => 8 - (intOf i).toNat)
  case atStart => exact ⟨0, by omega, rfl, by simp, .inl ⟨rfl, rfl, rfl⟩⟩
  case round =>
    obtain ⟨k, hk, rfl, rfl, hst⟩ := hrel
    have hd := div_bd v (8 * k) v1
    have hd1 := hd.1
    have hd2 : v / 2 ^ (8 * k) ≤ 18446744073709551615 := by omega
    have hll : (l ++ putL v k).length = l.length + k := by simp [putL_len]
    have HLL := Lib.hid hll
    clear hd hll
    rcases hst with ⟨hk0, rfl, rfl⟩ | ⟨hk0, ho, hb⟩
    · subst hk0
      go_wp2_with (at_builtin; refine app_one_full u8T u8I (by decide) rfl _ _ rfl _ a n l rfl H.out _ rfl ?_ (by omega) ?_; exact wf_mod8 _; intro x2 w2 ho2 hb2)
      go_roundw
      case rel => exact ⟨1, by omega, by go_num, by rw [show (2 : Int) ^ (8 * 1) = 256 by decide], .inr ⟨by omega, by have h9 := putL_snoc l v (v % 256) 0 (by simp); rw [show putL v 0 = [] from rfl, List.append_nil] at h9; rw [← h9]; simpa using ho2, hb2⟩⟩
      case measure => simp [intOf]
    · have hsz := hb.size
      have HO := Lib.hid ho
      have HB := Lib.hid hb
      clear ho hb
      by_cases hp : k < 8
      · go_wp2_with (at_builtin; refine app_one u8T u8I (by decide) rfl _ _ rfl _ w.heap.size _ (l ++ putL v k) rfl HO.out _ rfl ?_ (by rw [HLL.out]; omega) (by omega) ?_; exact wf_mod8 _; intro x2 w2 ho2 hb2)
        go_roundw
        case rel => exact ⟨k + 1, by omega, by go_num, by rw [turn_ref], .inr ⟨by omega, by rw [putL_snoc _ _ _ _ rfl] at ho2; exact ho2, HB.out.trans (hb2.below hsz (fun g hg => (HO.out.at_base g hg).1))⟩⟩
        case measure => simp [intOf] <;> omega
      · obtain rfl : k = 8 := by omega
        go_wp2
        go_ret
        exact ⟨_, rfl, HO.out, HB.out⟩
end Go.Proofs.Ytcbnebcooiagmaa
