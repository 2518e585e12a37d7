/- ring: Open. ring: what was written is read so: a state's sector, a record's sectors. Plain. ring: a disk that holds a journal's records: it is opened so. Plain. ring: Format leaves a journal without records. Plain. ring: records that lie, one more behind them. Plain. -/
import Derived.Test.YtlhpdkapddnbcaaJk0
import Derived.WalkMore
import Derived.Test.YtlhpdkapddnbcaaJk13
import Derived.Test.YtlhpdkapddnbcaaJk1
import Derived.Test.YtlhpdkapddnbcaaJk10
import Derived.Test.YtlhpdkapddnbcaaJk4
namespace Go.Proofs.Ytlhpdkapddnbcaa
open Go.RowKit
def ksOf (size : Nat) (ls : List (List Int)) : List Nat := ls.map fun b => ndN size b.length
theorem ksOf_snoc (size : Nat) (ls : List (List Int)) (b : List Int) : ksOf size (ls ++ [b]) = ksOf size ls ++ [ndN size b.length] := by unfold ksOf; rw [List.map_append]; rfl
def opR (kx : Nat → List Int) (lo n size : Nat) : Option (Hd × List (List Int)) :=
  (stF n (kx lo) (kx (lo + 1))).bind fun h => if (n : Int) - 2 < h.next - h.first then none else (opF kx lo n size (h.next - h.first).toNat h.start.toNat h.first (n - 2)).map fun ls => (h, ls)
/-- A failure that wraps an error. -/
def FailAt (w : World) (v : Value) (x : Int) : Prop := ∃ g, v = .iface 110 (.pointer (some ⟨g, 0, none⟩)) ∧ w.cell? ⟨g, 0, none⟩ = some (.int .i64 x)
/-- What Open tells, and leaves. -/
def OpPost (Z : Nat → Prop) (d : Nat) (st : Dk) (lo n : Nat) (w0 : World) (o : Option (Hd × List (List Int))) (e : Ending) (w' : World) : Prop :=
  ∃ R, st.reads ≤ R ∧ R ≤ st.reads + 8589934592 ∧ match o with
  | none => (∃ v, e = .returned (.tuple #[.pointer none, .slice none 0 0, v]) ∧ FailAt w' v 20) ∧ ∃ Z', DkIn w' Z' d (st.rd R) ∧ Tnd Z Z' w0 w'
  | some p => ∃ r Q' v vs, e = .returned (.tuple #[.pointer (some ⟨r, 0, none⟩), v, .nilIface]) ∧ RiIn w' Q' r d (st.rd R) ⟨lo, n, st.size, p.1, ksOf st.size p.2⟩ ∧ RowsIn w' Q' v vs p.2 ∧ Tnd Z Q' w0 w'
theorem hdR_ok {n : Nat} {x : List Int} {slot : Nat} {h : Hd} (hx : hdR n x slot = some h) : 1 ≤ h.first ∧ h.first ≤ h.next ∧ h.start < (n : Int) - 2 ∧ h.turn % 2 = slot := by
  unfold hdR at hx
  split at hx
  · split at hx
    · rename_i h1 h2
      injection hx with hx
      subst hx
      unfold hdK at h2
      simp only [Bool.and_eq_true, decide_eq_true_eq] at h2
      exact ⟨h2.1.1.2, h2.1.2, h2.2, h2.1.1.1.2⟩
    · cases hx
  · cases hx
theorem stF_ok {n : Nat} {x0 x1 : List Int} {h : Hd} (hx : stF n x0 x1 = some h) (hn : n ≤ 65536) (h0 : Bytes x0) (h1 : Bytes x1) : h.Wf ∧ 1 ≤ h.first ∧ h.first ≤ h.next ∧ h.start < (n : Int) - 2 := by
  unfold stF at hx
  cases ha : hdR n x0 0 with
  | none => rw [ha] at hx; cases hx
  | some a =>
    cases hb : hdR n x1 1 with
    | none => rw [ha, hb] at hx; cases hx
    | some b =>
      rw [ha, hb] at hx
      have hs : stP a b = some h := hx
      unfold stP at hs
      split at hs
      · injection hs with hs
        subst hs
        have := hdR_ok ha
        exact ⟨hdR_wf ha h0 hn, this.1, this.2.1, this.2.2.1⟩
      · split at hs
        · injection hs with hs
          subst hs
          have := hdR_ok hb
          exact ⟨hdR_wf hb h1 hn, this.1, this.2.1, this.2.2.1⟩
        · cases hs
theorem Tnd.weak {Z Q Q' : Nat → Prop} {w w' : World} (t : Tnd Z Q w w') (h : ∀ k, Q' k → Q k) : Tnd Z Q' w w' := ⟨t.os, t.tape, t.output, t.size, t.block, fun k hk => t.sub k (h k hk)⟩
theorem Tnd.at_o {Z Q : Nat → Prop} {w w1 w2 : World} {b : Option Nat} (t : Tnd Z Q w w1) (hg : w1.grownBy w2 b) (hb : ∀ g, b = some g → w.heap.size ≤ g) : Tnd Z Q w w2 :=
  ⟨hg.os.trans t.os, hg.tape.trans t.tape, hg.output.trans t.output, Nat.le_trans t.size hg.size, fun k hk hz => (hg.block k (Nat.lt_of_lt_of_le hk t.size) (fun e => by have := hb k e.symm; omega)).trans (t.block k hk hz), t.sub⟩
theorem OpPost.no {Z Q : Nat → Prop} {d r lo n : Nat} {st : Dk} {J : Jr} {w0 w w' : World} {R : Int} {v : Value} (h : RiIn w Q r d (st.rd R) J) (t : Tnd Z Q w0 w) (h1 : st.reads ≤ R) (h2 : R ≤ st.reads + 8589934592) (hv : v = .iface 110 (.pointer (some ⟨w.heap.size, 0, none⟩))) (hw : w' = w.alloc (.cells #[.int .i64 20] 112)) :
    OpPost Z d st lo n w0 none (.returned (.tuple #[.pointer none, .slice none 0 0, v])) w' := by
  have hba : Below w.heap.size w (w.alloc (.cells #[.int .i64 20] 112)) := (Below.refl _ _).alloc (Nat.le_refl _) _
  obtain ⟨⟨Z1, sv, hd, _, _, hz, _⟩, _⟩ := h
  subst hv hw
  refine ⟨R, h1, h2, ⟨_, rfl, w.heap.size, rfl, ?_⟩, Z1, hd.below hba, (t.weak hz).below_r hba⟩
  rw [cell_of_row _ _ _ _ _ _ (heap_alloc_new w (.cells #[.int .i64 20] 112))]
  rfl
set_option linter.unusedSimpArgs false in
set_option linter.unusedVariables false in
set_option maxRecDepth 100000 in
set_option maxHeartbeats 8000000 in
theorem ropen_any (Z : Nat → Prop) (d : Nat) (st : Dk) (lo n : Nat) (w0 : World) (h : DkIn w0 Z d st) (h4 : 4 ≤ n) (hn : lo + n ≤ st.kept.length) (hoff : st.off = false) (hrd : st.reads + 8589934592 ≤ 4611686018427387904) :
    Calls Try.prog 19 #[.pointer (some ⟨d, 0, none⟩), .int .i64 (lo : Int), .int .i64 (n : Int)] w0 fun e w' => OpPost Z d st lo n w0 (opR (secB st) lo n st.size) e w' := by
  have HON := Lib.hid (ron_any Z d st lo n w0 h h4 hn)
  have hbytes : ∀ k, Bytes (secB st k) := fun k => h.secBytes _
  have hok := h.okR
  have hn65 : n ≤ 65536 := by have := hok.n.2; omega
  have hlo65 : lo ≤ 65536 := by have := hok.n.2; omega
  have HXL : Hid (∀ i, (secB st (lo + 2 + i % (n - 2))).length = st.size) := fun i => secB_len hok (by have := Nat.mod_lt i (show 0 < n - 2 by omega); omega)
  have hsz := hok.size
  obtain ⟨OP, hOP⟩ : ∃ o, opR (secB st) lo n st.size = o := ⟨_, rfl⟩
  rw [hOP]
  have HNO : Hid (OP = none → ∀ (Q : Nat → Prop) (r : Nat) (J : Jr) (w w' : World) (R : Int) (v : Value), RiIn w Q r d (st.rd R) J → Tnd Z Q w0 w → st.reads ≤ R → R ≤ st.reads + 8589934592 → v = .iface 110 (.pointer (some ⟨w.heap.size, 0, none⟩)) → w' = w.alloc (.cells #[.int .i64 20] 112) → ∀ e : Ending, e = .returned (.tuple #[.pointer none, .slice none 0 0, v]) → OpPost Z d st lo n w0 OP e w') := fun h0 Q r J w w' R v h1 h2 h3 h5 h6 h7 e he => by
    rw [h0, he]
    exact OpPost.no h1 h2 h3 h5 h6 h7
  have HSO : Hid (∀ (p : Hd × List (List Int)) (Q : Nat → Prop) (r : Nat) (w : World) (R : Int) (v : Value) (vs : List Value), OP = some p → RiIn w Q r d (st.rd R) ⟨lo, n, st.size, p.1, ksOf st.size p.2⟩ → RowsIn w Q v vs p.2 → Tnd Z Q w0 w → st.reads ≤ R → R ≤ st.reads + 8589934592 → ∀ e : Ending, e = .returned (.tuple #[.pointer (some ⟨r, 0, none⟩), v, .nilIface]) → OpPost Z d st lo n w0 OP e w) := fun p Q r w R v vs h0 h1 h2 h3 h5 h6 e he => by
    rw [h0, he]
    exact ⟨R, h5, h6, r, Q, v, vs, rfl, h1, h2, h3⟩
  unfold opR at hOP
  have HST : Hid (∀ (Q : Nat → Prop) (r : Nat) (w : World), RiIn w Q r d st ⟨lo, n, st.size, hd0, []⟩ → Calls Try.prog 47 #[.pointer (some ⟨r, 0, none⟩)] w fun e w' => e = .returned (.tuple #[((stF n (secB st lo) (secB st (lo + 1))).getD hd0).val, .int .i64 (hdE (stF n (secB st lo) (secB st (lo + 1))))]) ∧ (∃ R, st.reads ≤ R ∧ R ≤ st.reads + 2 ∧ RiIn w' Q r d (st.rd R) ⟨lo, n, st.size, hd0, []⟩) ∧ Tnd Q Q w w') := fun Q r w h1 => state_any Q r d st _ w h1 hoff (by omega)
  have HREC : Hid (∀ (Q : Nat → Prop) (r : Nat) (R : Int) (ks : List Nat) (at0 most : Nat) (num : Int) (w : World), RiIn w Q r d (st.rd R) ⟨lo, n, st.size, hd0, ks⟩ → at0 ≤ 65536 → most ≤ 65536 → 0 ≤ num ∧ num ≤ 18446744073709551615 → R + 65537 ≤ 4611686018427387904 → Calls Try.prog 48 #[.pointer (some ⟨r, 0, none⟩), .int .i64 (at0 : Int), .int .u64 num, .int .i64 (most : Int)] w fun e w' => RecE w.heap.size (recF (secB st) lo n st.size at0 num most) e w' ∧ (∃ R', R ≤ R' ∧ R' ≤ R + most ∧ RiIn w' Q r d (st.rd R') ⟨lo, n, st.size, hd0, ks⟩) ∧ Tnd Q Q w w') := fun Q r R ks at0 most num w h1 h2 h3 h5 h6 => record_any Q r d (st.rd R) ⟨lo, n, st.size, hd0, ks⟩ at0 most num w h1 hoff h2 h3 h5 h6
  obtain ⟨kx, hkx⟩ : ∃ kx, secB st = kx := ⟨_, rfl⟩
  rw [hkx] at HST HREC hOP HXL hbytes
  obtain ⟨S, hS⟩ : ∃ S, st.size = S := ⟨_, rfl⟩
  rw [hS] at HON HST HREC hOP HXL hsz HSO
  obtain ⟨o, ho⟩ : ∃ o, stF n (kx lo) (kx (lo + 1)) = o := ⟨_, rfl⟩
  rw [ho] at HST hOP
  have HOO : Hid (∀ a, o = some a → a.Wf ∧ 1 ≤ a.first ∧ a.first ≤ a.next ∧ a.start < (n : Int) - 2) := fun a h => stF_ok (ho.trans h) hn65 (hbytes _) (hbytes _)
  have HOP := Lib.hid hOP
  have HZL := Lib.hid h.1
  obtain ⟨rd0, hrd0⟩ : ∃ y, st.reads = y := ⟨_, rfl⟩
  rw [hrd0] at hrd HNO HSO HST
  have HRDD := Lib.hid hrd
  have HHN := Lib.hid hn
  clear h hok hbytes hOP hkx hS ho hoff hrd0 hrd hn
  go_enter Try.func19, Try.ntmps19
  go_wp2_with fail
  go_step3
  go_wp2_with fail
  refine HON.out.mono ?_
  rintro e w1 ⟨r, rfl, hr1, hb1, hrg⟩
  obtain ⟨Q, hQ⟩ : ∃ Q : Nat → Prop, (fun k => Z k ∨ k = r) = Q := ⟨_, rfl⟩
  rw [hQ] at hr1
  have R1 := Lib.hid hr1
  have T1 : Hid (Tnd Z Q w0 w1) := ⟨hb1.os, hb1.tape, hb1.output, hb1.size, fun k hk _ => hb1.block k hk, fun k hk => by
    rw [← hQ] at hk
    rcases hk with h | h
    · exact .inl h
    · exact .inr (by omega)⟩
  clear hr1 hb1 hrg hQ HON
  go_wp2_with fail
  refine (HST.out Q r w1 R1.out).mono ?_
  rintro e w2 ⟨rfl, ⟨R2, hR2a, hR2b, hr2⟩, ht2⟩
  have RI2 := Lib.hid hr2
  have T2 := Lib.hid (T1.out.trans ht2)
  clear hr2 ht2 R1 T1 HST
  cases o with
  | none =>
    have HN := Lib.hid (HNO.out (by rw [← HOP.out]; rfl))
    have hba : Below w2.heap.size w2 (w2.alloc (.cells #[.int .u64 0, .int .u64 0, .int .u64 0, .int .i64 0] 76)) := (Below.refl _ _).alloc (Nat.le_refl _) _
    simp only [Option.getD_none, hd0, Hd.val, hdE]
    go_wp2_with fail
    obtain ⟨w3, hw3⟩ : ∃ w3, w2.alloc (.cells #[.int .u64 0, .int .u64 0, .int .u64 0, .int .i64 0] 76) = w3 := ⟨_, rfl⟩
    rw [hw3] at hba
    rw [hw3]
    have R3 := Lib.hid (RI2.out.below hba)
    have T3 := Lib.hid (T2.out.below_r hba)
    clear hw3 hba
    refine (fail_any 20 w3).mono ?_
    rintro e w4 ⟨rfl, rfl⟩
    go_wp2_with fail
    go_ret3
    exact HN.out Q r _ w3 _ R2 _ R3.out T3.out hR2a (by omega) rfl rfl _ (by rfl)
  | some A =>
    obtain ⟨⟨hA0, hA1, hA2, hA3, hA4, hA5, hA6, hA7⟩, hf1, hf2, hst⟩ := HOO.out A rfl
    obtain ⟨ta, fa, xa, sa⟩ := A
    change 0 ≤ ta at hA0
    change 0 ≤ fa at hA2
    change xa ≤ 18446744073709551615 at hA5
    change 0 ≤ sa at hA6
    change 1 ≤ fa at hf1
    change fa ≤ xa at hf2
    change sa < (n : Int) - 2 at hst
    simp only [Option.getD_some, Hd.val, hdE]
    have hrow := heap_alloc_new w2 (.cells #[.int .u64 ta, .int .u64 fa, .int .u64 xa, .int .i64 sa] 76)
    have hba : Below w2.heap.size w2 (w2.alloc (.cells #[.int .u64 ta, .int .u64 fa, .int .u64 xa, .int .i64 sa] 76)) := (Below.refl _ _).alloc (Nat.le_refl _) _
    go_wp2_with fail
    obtain ⟨hb, hhb⟩ : ∃ hb, w2.heap.size = hb := ⟨_, rfl⟩
    obtain ⟨w3, hw3⟩ : ∃ w3, w2.alloc (.cells #[.int .u64 ta, .int .u64 fa, .int .u64 xa, .int .i64 sa] 76) = w3 := ⟨_, rfl⟩
    rw [hw3] at hba
    rw [hw3, hhb] at hrow
    rw [hw3, hhb]
    have R3 := Lib.hid (RI2.out.below hba)
    have T3 := Lib.hid (T2.out.below_r hba)
    have HD3 := Lib.hid hrow
    have hbq : ¬ Q hb := fun hq => by have := RI2.out.lt hb hq; omega
    have hwb : w0.heap.size ≤ hb := by have := T2.out.size; omega
    have HAW : Hid (∀ x s : Int, xa = x → sa = s → (⟨ta, fa, x, s⟩ : Hd).Wf) := fun x s h1 h2 => by subst h1 h2; exact ⟨hA0, hA1, hA2, hA3, hA4, hA5, hA6, hA7⟩
    obtain ⟨⟨Z3, sv, _, hr3, _⟩, ok3, _, _⟩ := R3.out
    have ROW3 := Lib.hid hr3
    have OK := Lib.hid ok3
    clear hw3 hba hrow hr3 ok3 HOO
    have hsub : IntKind.u64.wrap (xa - fa) = xa - fa := by rw [IntKind.wrap_u64]; omega
    have hnw : IntKind.u64.wrap ((n : Int) - 2) = (n : Int) - 2 := by rw [IntKind.wrap_u64]; omega
    by_cases hmany : (n : Int) - 2 < xa - fa
    · have dm : decide ((n : Int) - 2 < xa - fa) = true := decide_eq_true hmany
      have HN := Lib.hid (HNO.out (by rw [← HOP.out]; show (if (n : Int) - 2 < xa - fa then none else _) = none; rw [if_pos hmany]))
      refine' reg_free (G := Kept) (pickF [eqV _, eqV _, eqV _, eqV _, eqV _, eqV _, eqV _, eqV _, eqV _]) [39, 40, 41, 42, 43, 44, 45, 46, 47] [[], [0], [], [2], [1, 3], [], [5], [6], [4, 7]] [0, 1, 2, 3, 4, 5, 6, 7, 8] (by kernel_rfl) Kept.refl Kept.trans (pick_stays ⟨eqV_stays _, eqV_stays _, eqV_stays _, eqV_stays _, eqV_stays _, eqV_stays _, eqV_stays _, eqV_stays _, eqV_stays _, trivial⟩) 108 rfl (by kernel_rfl) (by kernel_rfl) rfl rfl ?r1obl ?r1fin
      case r1obl =>
        refine And.intro ?r1o0 (And.intro ?r1o1 (And.intro ?r1o2 (And.intro ?r1o3 (And.intro ?r1o4 (And.intro ?r1o5 (And.intro ?r1o6 (And.intro ?r1o7 (And.intro ?r1o8 (True.intro)))))))))
        case r1o0 =>
          intro w1 hG
          refine turn_on (by rfl) ?_
          intro K hK
          go_simp
          refine hK _ _ ⟨rfl, Kept.refl _, ?_⟩
          show _ = _
          simp only [gv1]
          rfl
        case r1o1 =>
          intro w1 hG
          intro v0 h0
          change _ = _ at h0
          subst h0
          refine turn_on (by rfl) ?_
          intro K hK
          simp only [gv2]
          obtain ⟨q0, q1, q2, q3⟩ := cells4 (row_keep (w := w3.drew) HD3.out hG)
          go_simp
          refine hK _ _ ⟨rfl, Kept.refl _, ?_⟩
          show _ = _
          simp only [gv1]
          rfl
        case r1o2 =>
          intro w1 hG
          refine turn_on (by rfl) ?_
          intro K hK
          go_simp
          refine hK _ _ ⟨rfl, Kept.refl _, ?_⟩
          show _ = _
          simp only [gv1]
          rfl
        case r1o3 =>
          intro w1 hG
          intro v2 h2
          change _ = _ at h2
          subst h2
          refine turn_on (by rfl) ?_
          intro K hK
          simp only [gv2]
          obtain ⟨q0, q1, q2, q3⟩ := cells4 (row_keep (w := w3.drew) HD3.out hG)
          go_simp
          refine hK _ _ ⟨rfl, Kept.refl _, ?_⟩
          show _ = _
          simp only [gv1]
          rfl
        case r1o4 =>
          intro w1 hG
          intro v1 h1
          change _ = _ at h1
          subst h1
          intro v3 h3
          change _ = _ at h3
          subst h3
          refine turn_on (by rfl) ?_
          intro K hK
          simp only [gv2]
          go_simp
          refine hK _ _ ⟨rfl, Kept.refl _, ?_⟩
          show _ = _
          simp only [gv1]
          rfl
        case r1o5 =>
          intro w1 hG
          refine turn_on (by rfl) ?_
          intro K hK
          go_simp
          refine hK _ _ ⟨rfl, Kept.refl _, ?_⟩
          show _ = _
          simp only [gv1]
          rfl
        case r1o6 =>
          intro w1 hG
          intro v5 h5
          change _ = _ at h5
          subst h5
          refine turn_on (by rfl) ?_
          intro K hK
          simp only [gv2]
          go_simp
          refine Calls.mono (area_any r d sv _ w1 (row_keep (w := w3.drew) ROW3.out hG) OK.out) ?_
          rintro e w2 ⟨rfl, rfl⟩
          refine hK _ _ ⟨rfl, Kept.refl _, ?_⟩
          show _ = _
          simp only [gv1]
          rfl
        case r1o7 =>
          intro w1 hG
          intro v6 h6
          change _ = _ at h6
          subst h6
          refine turn_on (by rfl) ?_
          intro K hK
          simp only [gv2]
          go_simp
          refine hK _ _ ⟨rfl, Kept.refl _, ?_⟩
          show _ = _
          simp only [gv1]
          rfl
        case r1o8 =>
          intro w1 hG
          intro v4 h4
          change _ = _ at h4
          subst h4
          intro v7 h7
          change _ = _ at h7
          subst h7
          refine turn_on (by rfl) ?_
          intro K hK
          simp only [gv2]
          go_simp
          refine hK _ _ ⟨rfl, Kept.refl _, ?_⟩
          show _ = _
          simp only [gv1]
          rfl
      intro w1 hG
      intro v0 h0
      change _ = _ at h0
      subst h0
      intro v1 h1
      change _ = _ at h1
      subst h1
      intro v2 h2
      change _ = _ at h2
      subst h2
      intro v3 h3
      change _ = _ at h3
      subst h3
      intro v4 h4
      change _ = _ at h4
      subst h4
      intro v5 h5
      change _ = _ at h5
      subst h5
      intro v6 h6
      change _ = _ at h6
      subst h6
      intro v7 h7
      change _ = _ at h7
      subst h7
      intro v8 h8
      change _ = _ at h8
      subst h8
      simp only [Given, gv2]
      have HG1 : Hid (Below w3.heap.size w3 w1) := by show Below _ _ _; exact ⟨hG.os, hG.tape, hG.output, hG.size, hG.block⟩
      have R4 := Lib.hid (R3.out.below HG1.out)
      have T4 := Lib.hid (T3.out.below_r HG1.out)
      go_wp2_with fail
      refine (fail_any 20 w1).mono ?_
      rintro e w4 ⟨rfl, rfl⟩
      go_wp2_with fail
      go_ret3
      exact HN.out Q r _ w1 _ R2 _ R4.out T4.out hR2a (by omega) rfl rfl _ (by rfl)
    · have dm : decide ((n : Int) - 2 < xa - fa) = false := decide_eq_false hmany
      obtain ⟨cnt, hcnt⟩ : ∃ cnt : Nat, xa - fa = cnt := Int.eq_ofNat_of_zero_le (by omega)
      obtain ⟨sn, hsn⟩ : ∃ sn : Nat, sa = sn := Int.eq_ofNat_of_zero_le hA6
      have HP : Hid (OP = (opF kx lo n S cnt sn fa (n - 2)).map fun ls => ((⟨ta, fa, xa, sa⟩ : Hd), ls)) := by
        show _ = _
        rw [← HOP.out]
        show (if (n : Int) - 2 < xa - fa then none else (opF kx lo n S (xa - fa).toNat sa.toNat fa (n - 2)).map _) = _
        rw [if_neg hmany, hcnt, hsn]
        rfl
      refine' reg_free (G := Kept) (pickF [eqV _, eqV _, eqV _, eqV _, eqV _, eqV _, eqV _, eqV _, eqV _]) [39, 40, 41, 42, 43, 44, 45, 46, 47] [[], [0], [], [2], [1, 3], [], [5], [6], [4, 7]] [0, 1, 2, 3, 4, 5, 6, 7, 8] (by kernel_rfl) Kept.refl Kept.trans (pick_stays ⟨eqV_stays _, eqV_stays _, eqV_stays _, eqV_stays _, eqV_stays _, eqV_stays _, eqV_stays _, eqV_stays _, eqV_stays _, trivial⟩) 108 rfl (by kernel_rfl) (by kernel_rfl) rfl rfl ?r2obl ?r2fin
      case r2obl =>
        refine And.intro ?r2o0 (And.intro ?r2o1 (And.intro ?r2o2 (And.intro ?r2o3 (And.intro ?r2o4 (And.intro ?r2o5 (And.intro ?r2o6 (And.intro ?r2o7 (And.intro ?r2o8 (True.intro)))))))))
        case r2o0 =>
          intro w1 hG
          refine turn_on (by rfl) ?_
          intro K hK
          go_simp
          refine hK _ _ ⟨rfl, Kept.refl _, ?_⟩
          show _ = _
          simp only [gv1]
          rfl
        case r2o1 =>
          intro w1 hG
          intro v0 h0
          change _ = _ at h0
          subst h0
          refine turn_on (by rfl) ?_
          intro K hK
          simp only [gv2]
          obtain ⟨q0, q1, q2, q3⟩ := cells4 (row_keep (w := w3.drew) HD3.out hG)
          go_simp
          refine hK _ _ ⟨rfl, Kept.refl _, ?_⟩
          show _ = _
          simp only [gv1]
          rfl
        case r2o2 =>
          intro w1 hG
          refine turn_on (by rfl) ?_
          intro K hK
          go_simp
          refine hK _ _ ⟨rfl, Kept.refl _, ?_⟩
          show _ = _
          simp only [gv1]
          rfl
        case r2o3 =>
          intro w1 hG
          intro v2 h2
          change _ = _ at h2
          subst h2
          refine turn_on (by rfl) ?_
          intro K hK
          simp only [gv2]
          obtain ⟨q0, q1, q2, q3⟩ := cells4 (row_keep (w := w3.drew) HD3.out hG)
          go_simp
          refine hK _ _ ⟨rfl, Kept.refl _, ?_⟩
          show _ = _
          simp only [gv1]
          rfl
        case r2o4 =>
          intro w1 hG
          intro v1 h1
          change _ = _ at h1
          subst h1
          intro v3 h3
          change _ = _ at h3
          subst h3
          refine turn_on (by rfl) ?_
          intro K hK
          simp only [gv2]
          go_simp
          refine hK _ _ ⟨rfl, Kept.refl _, ?_⟩
          show _ = _
          simp only [gv1]
          rfl
        case r2o5 =>
          intro w1 hG
          refine turn_on (by rfl) ?_
          intro K hK
          go_simp
          refine hK _ _ ⟨rfl, Kept.refl _, ?_⟩
          show _ = _
          simp only [gv1]
          rfl
        case r2o6 =>
          intro w1 hG
          intro v5 h5
          change _ = _ at h5
          subst h5
          refine turn_on (by rfl) ?_
          intro K hK
          simp only [gv2]
          go_simp
          refine Calls.mono (area_any r d sv _ w1 (row_keep (w := w3.drew) ROW3.out hG) OK.out) ?_
          rintro e w2 ⟨rfl, rfl⟩
          refine hK _ _ ⟨rfl, Kept.refl _, ?_⟩
          show _ = _
          simp only [gv1]
          rfl
        case r2o7 =>
          intro w1 hG
          intro v6 h6
          change _ = _ at h6
          subst h6
          refine turn_on (by rfl) ?_
          intro K hK
          simp only [gv2]
          go_simp
          refine hK _ _ ⟨rfl, Kept.refl _, ?_⟩
          show _ = _
          simp only [gv1]
          rfl
        case r2o8 =>
          intro w1 hG
          intro v4 h4
          change _ = _ at h4
          subst h4
          intro v7 h7
          change _ = _ at h7
          subst h7
          refine turn_on (by rfl) ?_
          intro K hK
          simp only [gv2]
          go_simp
          refine hK _ _ ⟨rfl, Kept.refl _, ?_⟩
          show _ = _
          simp only [gv1]
          rfl
      intro w1 hG
      intro v0 h0
      change _ = _ at h0
      subst h0
      intro v1 h1
      change _ = _ at h1
      subst h1
      intro v2 h2
      change _ = _ at h2
      subst h2
      intro v3 h3
      change _ = _ at h3
      subst h3
      intro v4 h4
      change _ = _ at h4
      subst h4
      intro v5 h5
      change _ = _ at h5
      subst h5
      intro v6 h6
      change _ = _ at h6
      subst h6
      intro v7 h7
      change _ = _ at h7
      subst h7
      intro v8 h8
      change _ = _ at h8
      subst h8
      simp only [Given, gv2]
      have HG1 : Hid (Below w3.heap.size w3 w1) := by show Below _ _ _; exact ⟨hG.os, hG.tape, hG.output, hG.size, hG.block⟩
      have R4 := Lib.hid (R3.out.below HG1.out)
      have T4 := Lib.hid (T3.out.below_r HG1.out)
      have HD5 := Lib.hid (row_keep HD3.out HG1.out)
      have ROW5 := Lib.hid (row_keep ROW3.out HG1.out)
      have hcn : cnt ≤ n - 2 := by omega
      have hcw : IntKind.u64.wrap (cnt : Int) = cnt := by rw [IntKind.wrap_u64]; omega
      clear hG hmany R3 T3 HD3 ROW3
      obtain ⟨w1_, rfl⟩ : ∃ w1_, w1_ = w1 := ⟨_, rfl⟩
      have hst2 : sn < n - 2 := by omega
      have dm2 : decide ((n : Int) - 2 < (cnt : Int)) = false := decide_eq_false (by omega)
      go_wp2_with fail
      refine' reg_free (G := Kept) (pickF [eqV _, eqV _, eqV _, eqV _, eqV _, eqV _]) [49, 50, 51, 52, 13, 14] [[], [0], [], [2], [1], [3]] [0, 1, 2, 3, 4, 5] (by kernel_rfl) Kept.refl Kept.trans (pick_stays ⟨eqV_stays _, eqV_stays _, eqV_stays _, eqV_stays _, eqV_stays _, eqV_stays _, trivial⟩) 108 rfl (by kernel_rfl) (by kernel_rfl) rfl rfl ?r3obl ?r3fin
      case r3obl =>
        refine And.intro ?r3o0 (And.intro ?r3o1 (And.intro ?r3o2 (And.intro ?r3o3 (And.intro ?r3o4 (And.intro ?r3o5 (True.intro))))))
        case r3o0 =>
          intro w1 hG
          refine turn_on (by rfl) ?_
          intro K hK
          go_simp
          refine hK _ _ ⟨rfl, Kept.refl _, ?_⟩
          show _ = _
          simp only [gv1]
          rfl
        case r3o1 =>
          intro w1 hG
          intro v0 h0
          change _ = _ at h0
          subst h0
          refine turn_on (by rfl) ?_
          intro K hK
          simp only [gv2]
          obtain ⟨q0, q1, q2, q3⟩ := cells4 (row_keep (w := w1_.drew) HD5.out hG)
          go_simp
          refine hK _ _ ⟨rfl, Kept.refl _, ?_⟩
          show _ = _
          simp only [gv1]
          rfl
        case r3o2 =>
          intro w1 hG
          refine turn_on (by rfl) ?_
          intro K hK
          go_simp
          refine hK _ _ ⟨rfl, Kept.refl _, ?_⟩
          show _ = _
          simp only [gv1]
          rfl
        case r3o3 =>
          intro w1 hG
          intro v2 h2
          change _ = _ at h2
          subst h2
          refine turn_on (by rfl) ?_
          intro K hK
          simp only [gv2]
          go_simp
          refine Calls.mono (area_any r d sv _ w1 (row_keep (w := w1_.drew) ROW5.out hG) OK.out) ?_
          rintro e w2 ⟨rfl, rfl⟩
          refine hK _ _ ⟨rfl, Kept.refl _, ?_⟩
          show _ = _
          simp only [gv1]
          rfl
        case r3o4 =>
          intro w1 hG
          intro v1 h1
          change _ = _ at h1
          subst h1
          refine turn_on (by rfl) ?_
          intro K hK
          simp only [gv2]
          go_simp
          refine hK _ _ ⟨rfl, Kept.refl _, ?_⟩
          show _ = _
          simp only [gv1]
          rfl
        case r3o5 =>
          intro w1 hG
          intro v3 h3
          change _ = _ at h3
          subst h3
          refine turn_on (by rfl) ?_
          intro K hK
          simp only [gv2]
          go_simp
          refine hK _ _ ⟨rfl, Kept.refl _, ?_⟩
          show _ = _
          simp only [gv1]
          rfl
      intro w1 hG
      intro v0 h0
      change _ = _ at h0
      subst h0
      intro v1 h1
      change _ = _ at h1
      subst h1
      intro v2 h2
      change _ = _ at h2
      subst h2
      intro v3 h3
      change _ = _ at h3
      subst h3
      intro v4 h4
      change _ = _ at h4
      subst h4
      intro v5 h5
      change _ = _ at h5
      subst h5
      simp only [Given, gv2]
      have HG2 : Hid (Below w1_.heap.size w1_ w1) := by show Below _ _ _; exact ⟨hG.os, hG.tape, hG.output, hG.size, hG.block⟩
      have R5 := Lib.hid (R4.out.below HG2.out)
      have T5 := Lib.hid (T4.out.below_r HG2.out)
      have HD6 := Lib.hid (row_keep HD5.out HG2.out)
      clear hG R4 T4 HD5 ROW5 HG1 HG2
      obtain ⟨q0, q1, q2, q3⟩ := cells4 HD6.out
      have hbl : hb < w1.heap.size := (Array.getElem?_eq_some_iff.1 HD6.out).1
      go_wp2_with fail
      go_step3
      go_wp2_with fail
      clear q0 q1 q2 q3
      obtain ⟨RES, hRES⟩ : ∃ x, opF kx lo n S cnt sn fa (n - 2) = x := ⟨_, rfl⟩
      rw [hRES] at HP
      have HRES := Lib.hid hRES
      have hxa : xa = fa + cnt := by omega
      have HWF := Lib.hid (HAW.out (fa + cnt) sn hxa hsn)
      subst hxa
      have HNO2 : Hid (RES = none → OP = none) := fun h => by rw [HP.out, h]; rfl
      have HD7 : Hid (w1.heap[hb]? = some (.cells #[.int .u64 ta, .int .u64 fa, .int .u64 (fa + cnt), .int .i64 (sn : Int)] 76 (0, 0))) := by show _ = _; rw [← hsn]; exact HD6.out
      clear hRES dm dm2 hsub hcnt
      go_loopw [12, 13, 14, 15] (fun ov pv lv nv wr => ∃ (k place left : Nat) (Q1 : Nat → Prop) (vs : List Value) (ls : List (List Int)) (R : Int), k ≤ cnt ∧ nv = .int .u64 (fa + k) ∧ pv = .int .i64 place ∧ lv = .int .i64 left ∧ Hid (RiIn wr Q1 r d (st.rd R) ⟨lo, n, S, hd0, ksOf S ls⟩) ∧ Hid (Tnd Z Q1 w0 wr) ∧ Hid (RowsIn wr Q1 ov vs ls) ∧ Hid (wr.heap[hb]? = some (.cells #[.int .u64 ta, .int .u64 fa, .int .u64 (fa + cnt), .int .i64 (sn : Int)] 76 (0, 0))) ∧ Hid (¬ Q1 hb) ∧ rd0 ≤ R ∧ R ≤ rd0 + 2 + k * 65536 ∧ place < n - 2 ∧ Hid (sumN (ksOf S ls) + left = n - 2) ∧ left ≤ n - 2 ∧ Hid (vs.length = k) ∧ Hid (∀ g, ov.ownBlock = some g → hb < g) ∧ Hid ((opF kx lo n S (cnt - k) place (fa + k) left).map (ls ++ ·) = RES)) (fun _ _ _ nv _ => (fa + cnt - intOf nv).toNat)
      case atStart =>
        refine ⟨0, sn, n - 2, Q, [], [], R2, by omega, by go_num, rfl, by first | rfl | (congr 1; omega), R5.out, T5.out, RowsIn.nil _ _, HD7.out, hbq, hR2a, by omega, hst2, by show 0 + (n - 2) = n - 2; omega, by omega, rfl, fun g hg => (by simp [Value.ownBlock] at hg), ?_⟩
        show _ = _
        rw [Nat.sub_zero, show fa + ((0 : Nat) : Int) = fa by omega, HRES.out]
        cases RES <;> rfl
      case round =>
        obtain ⟨k, place, left, Q1, vs, ls, R, hk, rfl, rfl, rfl, RK, TK, WK, DK, QK, hr1, hr2, hpl, SK, hlf, LK, BK, GK⟩ := hrel
        obtain ⟨oa, oc, hsh⟩ := WK.out.shape
        subst hsh
        obtain ⟨q0, q1, q2, q3⟩ := cells4 DK.out
        by_cases hkc : k < cnt
        · have dk : decide (fa + (k : Int) < fa + (cnt : Int)) = true := decide_eq_true (by omega)
          have HRC := Lib.hid (HREC.out Q1 r R _ place left (fa + k) wr RK.out (by omega) (by omega) (by omega) (by have := HRDD.out; omega))
          obtain ⟨c9, hc9⟩ : ∃ c9, cnt - k = c9 + 1 := ⟨cnt - k - 1, by omega⟩
          have hc8 : cnt - (k + 1) = c9 := by omega
          obtain ⟨ob, hob⟩ : ∃ ob, recF kx lo n S place (fa + k) left = ob := ⟨_, rfl⟩
          rw [hob] at HRC
          have GK2 : Hid ((ob.bind fun b => (opF kx lo n S c9 ((place + ndN S b.length) % (n - 2)) (fa + k + 1) (left - ndN S b.length)).map (b :: ·)).map (ls ++ ·) = RES) := by
            show _ = _
            rw [← GK.out, hc9, ← hob]
            rfl
          have hlen : ∀ b, ob = some b → ndN S b.length ≤ left := fun b h => recF_len hsz.1 HXL.out (hob.trans h)
          clear hob hc9 GK
          go_wp2_with fail
          refine HRC.out.mono ?_
          rintro e w2 ⟨hpe, ⟨R', hra, hrb, hri⟩, htn⟩
          have R2_ := Lib.hid hri
          have T2_ := Lib.hid (TK.out.trans htn)
          have W2_ := Lib.hid (WK.out.tnd htn)
          have hbw := (Array.getElem?_eq_some_iff.1 DK.out).1
          have D2_ := Lib.hid ((htn.block hb hbw QK.out).trans DK.out)
          cases ob with
          | none =>
            have HN := Lib.hid (HNO.out (HNO2.out (by rw [← GK2.out]; rfl)))
            change e = _ at hpe
            subst hpe
            clear hri htn
            go_wp2_with fail
            refine (fail_any 20 w2).mono ?_
            rintro e w4 ⟨rfl, rfl⟩
            go_wp2_with fail
            go_ret3
            exact HN.out Q1 r _ w2 _ R' _ R2_.out T2_.out (by omega) (by omega) rfl rfl _ (by rfl)
          | some b =>
            obtain ⟨v, hpe2, hov⟩ := hpe
            subst hpe2
            obtain ⟨bl, hbl2⟩ : ∃ bl, b.length = bl := ⟨_, rfl⟩
            obtain ⟨ab, cb, rfl⟩ := hov.shapeN bl hbl2
            have hnd := hlen b rfl
            rw [hbl2] at hnd
            have hbl3 := nd_mul hsz.1 hnd
            have hbl4 : bl ≤ 1000000000 := by
              have : left * (S - 18) ≤ 65536 * 4096 := Nat.mul_le_mul (by omega) (by omega)
              omega
            obtain ⟨nd, hnd0⟩ : ∃ nd, ndN S bl = nd := ⟨_, rfl⟩
            have hnd1 : 1 ≤ nd := by rw [← hnd0]; unfold ndN; omega
            rw [hnd0] at hnd
            have GK3 : Hid ((opF kx lo n S c9 ((place + nd) % (n - 2)) (fa + k + 1) (left - nd)).map ((ls ++ [b]) ++ ·) = RES) := by
              have h := GK2.out
              show _ = _
              rw [← h]
              show _ = ((opF kx lo n S c9 ((place + ndN S b.length) % (n - 2)) (fa + k + 1) (left - ndN S b.length)).map (b :: ·)).map (ls ++ ·)
              rw [hbl2, hnd0]
              cases opF kx lo n S c9 ((place + nd) % (n - 2)) (fa + k + 1) (left - nd) with
              | none => rfl
              | some x => simp
            have hqb : ∀ x, ab = some x → 0 < bl → ¬ Q1 x.block ∧ some x.block ≠ (Value.slice oa vs.length oc).ownBlock := fun x hx hn0 => by
              subst hx
              have h1 := own_ge hov hn0
              refine ⟨fun hq => by have := RK.out.lt _ hq; omega, fun e => ?_⟩
              have := (WK.out.own.lt _ e.symm).2
              omega
            have HOV := Lib.hid hov.rd
            have HQB := Lib.hid hqb
            obtain ⟨⟨Z2_, sv2, _, hr2, _⟩, ok2, _, _⟩ := R2_.out
            have HNE := Lib.hid (needs_any r d sv2 _ bl w2 hr2 ok2 hbl4)
            have HOK6 : Hid (∀ J : Jr, JOk J → J.lo = lo → J.n = n → J.size = S → J.h = hd0 → J.ks = ksOf S ls → JOk { J with ks := J.ks ++ [nd] }) := fun J ok _ h2 _ _ h5 => ⟨ok.n4, ok.n1, ok.lo, ok.s0, ok.s1, ok.h, ok.st, by show sumN (J.ks ++ [nd]) ≤ J.n - 2; rw [sumN_app, h5, h2]; show _ + (nd + 0) ≤ _; have := SK.out; omega, fun x hx => by
              rcases List.mem_append.1 hx with h | h
              · exact ok.kp x h
              · rw [List.mem_singleton.1 h]; exact hnd1⟩
            have hnwf : (Lit.int .i64 (nd : Int)).wf = true := by simp [Lit.wf, IntKind.min, IntKind.max, IntKind.signed, IntKind.bits]; omega
            have HKL : Hid ((zs (ksOf S ls)).length ≤ 65536) := by
              show _ ≤ _
              have h := ks_len _ ok2.kp
              have h2 := ok2.ks
              change (ksOf S ls).length ≤ sumN (ksOf S ls) at h
              change sumN (ksOf S ls) ≤ n - 2 at h2
              unfold zs
              rw [List.length_map]
              omega
            have hmd := Nat.mod_lt (place + nd) (show 0 < n - 2 by omega)
            have HM : ((place : Int) + (nd : Int)).tmod ((n : Int) - 2) = (((place + nd) % (n - 2) : Nat) : Int) := by
              rw [Int.tmod_eq_emod_of_nonneg (by omega), Int.natCast_emod, Int.natCast_add, Int.natCast_sub (by omega)]
              rfl
            obtain ⟨pl2, hpl2⟩ : ∃ x, (place + nd) % (n - 2) = x := ⟨_, rfl⟩
            rw [hpl2] at HM hmd GK3
            have hlnd : (left : Int) - (nd : Int) = ((left - nd : Nat) : Int) := by omega
            have hnum1 : IntKind.u64.wrap (fa + (k : Int) + 1) = fa + k + 1 := by rw [IntKind.wrap_u64]; omega
            have dn : (((n : Int) - 2) == 0) = false := by rw [beq_eq_false_iff_ne]; omega
            have dn2 : ((n : Int) - 2) ≠ 0 := by omega
            have dn3 : ((n : Int) - 2) ≠ -1 := by omega
            have hsize : (⟨lo, n, S, hd0, ksOf S ls⟩ : Jr).size = S := rfl
            have HNE2 : Hid (Calls Try.prog 34 #[.pointer (some ⟨r, 0, none⟩), .int .i64 (bl : Int)] w2 fun e w' => e = .returned (.int .i64 (nd : Int)) ∧ w2 = w') := by
              have h := HNE.out
              rw [hsize, hnd0] at h
              exact h
            have hND := Lib.hid hnd0
            have HBL2 := Lib.hid hbl2
            clear hri htn hov hqb hr2 ok2 HNE hlen hbl3 hnd0 hbl2 hsize GK2 HRC q0 q1 q2 q3 hpl2
            go_wp2_with fail
            refine HNE2.out.mono ?_
            rintro e w9 ⟨rfl, rfl⟩
            have hQlt := R2_.out.lt
            have HQL := Lib.hid hQlt
            have hvl : vs.length ≤ 1000000 := by rw [LK.out]; omega
            clear hQlt
            go_wp2_with (first | (at_builtin; go_loud (refine rowsin_one rfl (.tmp 77) (.tmp 79) rfl w2 Q1 (Value.slice oa vs.length oc) vs ls rfl W2_.out ab bl cb b HOV.out HQB.out HQL.out rfl hvl ?_); intro v5 w5 hW5 hg5 hb5; have W5_ := Lib.hid hW5; have G5_ := Lib.hid hg5; have B5_ := Lib.hid hb5; obtain ⟨a5, c5, rfl⟩ := hW5.shape; obtain ⟨⟨Z5, sv5, hd5, hr5, ho5, hz5, hq5, hn5, hgg5⟩, ok5, dok5, lt5⟩ := R2_.out.keep (w' := w5) (fun q hq => hg5.block q (HQL.out q hq) (fun e => W2_.out.nq q e.symm hq)) hg5.size; have HPU := Lib.hid (fun v' w' h1 h2 => ri_push (k := nd) (v' := v') (w' := w') hd5 hr5 hz5 hq5 hn5 hgg5 dok5 lt5 h1 h2 (HOK6.out _ ok5 rfl rfl rfl rfl rfl)); have HO5 := Lib.hid ho5; obtain ⟨y0, y1, y2, y3, y4, y5, y6, y7, y8, yf⟩ := cellsJ hr5; clear hW5 hg5 hb5 hd5 hr5 ho5 hz5 hq5 hn5 hgg5 ok5 dok5 lt5) | (at_builtin; go_loud (refine app_one i64TR i64IR (by decide) rfl (.tmp 85) (.tmp 87) rfl _ 0 sv5 (zs (ksOf S ls)) rfl HO5.out _ rfl hnwf (Nat.le_trans HKL.out (by decide)) (Nat.zero_le _) ?_); intro v6 w6 ho6 hg6; obtain ⟨a6, c6, rfl⟩ := ho6.shapeN ((zs (ksOf S ls)).length + 1) (by rw [List.length_append]; rfl); obtain ⟨hr6, Q6, hri6, ht6⟩ := HPU.out _ w6 ho6 hg6; have R6 := Lib.hid hri6; have T6 := Lib.hid ht6; clear y0 y1 y2 y3 y4 y5 y6 y7 y8 yf ho6 hg6 hri6 ht6; obtain ⟨y0, y1, y2, y3, y4, y5, y6, y7, y8, yf⟩ := cellsJ hr6; clear hr6) | (go_at_call 32; obtain ⟨⟨_, svX, _, hrX, _⟩, okX, _, _⟩ := R6.out; refine (area_any r d svX _ _ hrX okX).mono ?_; rintro e w8 ⟨rfl, rfl⟩; clear hrX okX))
            go_roundw
            case rel =>
              have hb5 : hb < w5.heap.size := Nat.lt_of_lt_of_le (Array.getElem?_eq_some_iff.1 D2_.out).1 G5_.out.size
              have hkk : ksOf S (ls ++ [b]) = ksOf S ls ++ [nd] := by rw [ksOf_snoc, HBL2.out, hND.out]
              have hW6 := W5_.out.tnd T6.out
              rw [List.length_append] at hW6
              have hnb : ∀ g, (Value.slice a5 (vs.length + 1) c5).ownBlock = some g → hb < g := fun g hg => by
                have h := B5_.out
                rw [List.length_append] at h
                rcases h with h1 | h1
                · exact BK.out g (by rw [← h1]; exact hg)
                · have := h1 g hg
                  have := (Array.getElem?_eq_some_iff.1 D2_.out).1
                  omega
              refine ⟨k + 1, pl2, left - nd, Q6, _, ls ++ [b], R', by omega, by go_num, rfl, rfl, ?_, (T2_.out.at_o G5_.out (fun g hg => by have := BK.out g hg; omega)).trans T6.out, hW6, (T6.out.block hb hb5 QK.out).trans ((G5_.out.block hb (Array.getElem?_eq_some_iff.1 D2_.out).1 (fun e => by have := BK.out hb e.symm; omega)).trans D2_.out), fun hq => ?_, by omega, by omega, by omega, ?_, by omega, ?_, hnb, ?_⟩
              · rw [hkk]; exact R6.out
              · rcases T6.out.sub hb hq with h | h
                · exact QK.out h
                · omega
              · show sumN (ksOf S (ls ++ [b])) + (left - nd) = n - 2
                rw [hkk, sumN_app]
                show sumN (ksOf S ls) + (nd + 0) + (left - nd) = n - 2
                have := SK.out
                omega
              · show (vs ++ [_]).length = k + 1
                rw [List.length_append, LK.out]
                rfl
              · rw [hc8, show fa + ((k + 1 : Nat) : Int) = fa + k + 1 by omega]
                exact GK3
            case measure => simp [intOf] <;> omega
        · obtain rfl : k = cnt := by omega
          have HOPS : Hid (OP = some ((⟨ta, fa, fa + k, sn⟩ : Hd), ls)) := by
            show _ = _
            rw [HP.out, ← GK.out, Nat.sub_self]
            simp [opF, hsn]
          obtain ⟨⟨Z1, sv1, _, hr1, _⟩, _⟩ := RK.out
          obtain ⟨y0, y1, y2, y3, y4, y5, y6, y7, y8, yf⟩ := cellsJ hr1
          have hdk : decide (fa + (k : Int) < fa + (k : Int)) = false := decide_eq_false (by omega)
          clear hr1 hA0 hA1 hA2 hA3 hA4 hA5 hA6 hA7
          go_wp2_with fail
          change bodyPost _ _ _ _ _ (setsR wr r [(4, .int .u64 ta), (5, .int .u64 fa), (6, .int .u64 (fa + k)), (7, .int .i64 (sn : Int))])
          obtain ⟨h1, h2⟩ := RK.out.head ⟨ta, fa, fa + k, sn⟩ HWF.out (by show (sn : Int) < (n : Int) - 2; omega)
          go_ret3
          exact HSO.out ((⟨ta, fa, fa + k, sn⟩ : Hd), ls) Q1 r _ R _ vs HOPS.out h1 (WK.out.tnd h2) (TK.out.trans h2) (by omega) (by omega) _ (by rfl)
end Go.Proofs.Ytlhpdkapddnbcaa

namespace Go.Proofs.Ytlhpdkapddnbcaa
open Go.RowKit
theorem getK_appR (l r : List Int) : ∀ k, k ≤ l.length → getK (l ++ r) k = getK l k
  | 0, _ => rfl
  | k + 1, h => by
    rw [getK, getK, getK_appR l r k (by omega), nth_app (by omega)]
theorem getK_putR {u : Int} {n : Nat} (h0 : 0 ≤ u) (h1 : u < 2 ^ (8 * n)) (r : List Int) : getK (putL u n ++ r) n = u := by
  rw [getK_appR _ _ _ (by rw [putL_len]; exact Nat.le_refl _), getK_putL u n h0 n (Nat.le_refl _), Int.emod_eq_of_lt h0 h1]
theorem drop_putR (u : Int) (n : Nat) (r : List Int) : (putL u n ++ r).drop n = r := by
  have h := List.drop_left (l₁ := putL u n) (l₂ := r)
  rw [putL_len] at h
  exact h
theorem secL_open (size : Nat) (b : List Int) : openOk (secL size b) = true ∧ openL (secL size b) = b ++ List.replicate (size - 4 - b.length) 0 := by
  unfold secL
  refine ⟨open_seal _, ?_⟩
  unfold openL
  rw [if_pos (open_seal _), seal_take]
/-- A state's sector is read as that state. -/
theorem hdR_hdS {n size slot : Nat} {h : Hd} (hw : h.Wf) (h1 : 1 ≤ h.first) (h2 : h.first ≤ h.next) (h3 : h.start < (n : Int) - 2) (h4 : h.turn % 2 = slot) : hdR n (hdS size h) slot = some h := by
  obtain ⟨e1, e2⟩ := secL_open size (hdB h)
  unfold hdR hdS
  rw [if_pos e1, e2]
  obtain ⟨Z, hZ⟩ : ∃ Z, List.replicate (size - 4 - (hdB h).length) (0 : Int) = Z := ⟨_, rfl⟩
  rw [hZ]
  obtain ⟨ta, fa, xa, sa⟩ := h
  have hb : hdB ⟨ta, fa, xa, sa⟩ ++ Z = putL 1196312914 4 ++ (putL ta 8 ++ (putL fa 8 ++ (putL xa 8 ++ (putL sa 8 ++ Z)))) := by
    unfold hdB
    simp [hdP]
  rw [hb]
  have p8 : (2 : Int) ^ (8 * 8) = 18446744073709551616 := by decide
  have p4 : (2 : Int) ^ (8 * 4) = 4294967296 := by decide
  have v0 : hdV (putL 1196312914 4 ++ (putL ta 8 ++ (putL fa 8 ++ (putL xa 8 ++ (putL sa 8 ++ Z))))) 0 = ta := by
    unfold hdV
    rw [show 4 + 8 * 0 = 4 from rfl, drop_putR]
    exact getK_putR hw.t0 (by have := hw.t1; rw [p8]; exact Int.lt_add_one_of_le this) _
  have v1 : hdV (putL 1196312914 4 ++ (putL ta 8 ++ (putL fa 8 ++ (putL xa 8 ++ (putL sa 8 ++ Z))))) 1 = fa := by
    unfold hdV
    rw [show 4 + 8 * 1 = 4 + 8 from rfl, ← List.drop_drop, drop_putR, drop_putR]
    exact getK_putR hw.f0 (by have := hw.f1; rw [p8]; exact Int.lt_add_one_of_le this) _
  have v2 : hdV (putL 1196312914 4 ++ (putL ta 8 ++ (putL fa 8 ++ (putL xa 8 ++ (putL sa 8 ++ Z))))) 2 = xa := by
    unfold hdV
    rw [show 4 + 8 * 2 = 4 + 8 + 8 from rfl, ← List.drop_drop, ← List.drop_drop, drop_putR, drop_putR, drop_putR]
    exact getK_putR hw.n0 (by have := hw.n1; rw [p8]; exact Int.lt_add_one_of_le this) _
  have v3 : hdV (putL 1196312914 4 ++ (putL ta 8 ++ (putL fa 8 ++ (putL xa 8 ++ (putL sa 8 ++ Z))))) 3 = sa := by
    unfold hdV
    rw [show 4 + 8 * 3 = 4 + 8 + 8 + 8 from rfl, ← List.drop_drop, ← List.drop_drop, ← List.drop_drop, drop_putR, drop_putR, drop_putR, drop_putR]
    exact getK_putR hw.s0 (by have h : sa ≤ 65536 := hw.s1; rw [p8]; exact Int.lt_of_le_of_lt h (by decide)) _
  have vm : getK (putL 1196312914 4 ++ (putL ta 8 ++ (putL fa 8 ++ (putL xa 8 ++ (putL sa 8 ++ Z))))) 4 = 1196312914 := getK_putR (by decide) (by decide) _
  unfold hdK hdF
  rw [v0, v1, v2, v3, vm, decide_eq_true rfl, decide_eq_true (show ta % 2 = slot from h4), decide_eq_true (show 1 ≤ fa from h1), decide_eq_true (show fa ≤ xa from h2), decide_eq_true (show sa < (n : Int) - 2 from h3)]
  rfl
def recTop : Nat := 67108864
theorem rec_max {n : Nat} (h : n ≤ recTop) : (n : Int) ≤ 67108864 := by unfold recTop at h; omega
theorem rec_p4 {n : Nat} (h : n ≤ recTop) : (n : Int) < 2 ^ (8 * 4) := by
  unfold recTop at h
  have p4 : (2 : Int) ^ (8 * 4) = 4294967296 := by decide
  omega
theorem u64_p8 {x : Int} (h : x ≤ 18446744073709551615) : x < 2 ^ (8 * 8) := by
  have p8 : (2 : Int) ^ (8 * 8) = 18446744073709551616 := by decide
  omega
theorem nat_p2 {i : Nat} (h : i < 65536) : (i : Int) < 2 ^ (8 * 2) := by
  have p2 : (2 : Int) ^ (8 * 2) = 65536 := by decide
  omega
/-- A record's sector, as the part that it is. -/
theorem recS_ptS {size : Nat} {num : Int} {l : List Int} {i len : Nat} {out : List Int} (hn : 0 ≤ num ∧ num ≤ 18446744073709551615) (hi : i < 65536) (hl : l.length ≤ recTop) (hlen : i = 0 ∨ len = l.length) (ho : out = l.take (i * (size - 18))) (hil : i * (size - 18) ≤ l.length) :
    recS size (ptS size num l i) num i len out = some (l.length, l.take ((i + 1) * (size - 18))) := by
  obtain ⟨R, hR⟩ : ∃ R, size - 18 = R := ⟨_, rfl⟩
  obtain ⟨e1, e2⟩ := secL_open size (ptX num l i ++ ptP size l i)
  unfold recS ptS
  rw [if_pos e1, e2]
  obtain ⟨Z, hZ⟩ : ∃ Z, List.replicate (size - 4 - (ptX num l i ++ ptP size l i).length) (0 : Int) = Z := ⟨_, rfl⟩
  rw [hZ]
  have hb : ptX num l i ++ ptP size l i ++ Z = putL num 8 ++ (putL i 2 ++ (putL l.length 4 ++ (ptP size l i ++ Z))) := by
    unfold ptX
    simp
  rw [hb]
  have v0 : getK (putL num 8 ++ (putL i 2 ++ (putL l.length 4 ++ (ptP size l i ++ Z)))) 8 = num := getK_putR hn.1 (u64_p8 hn.2) _
  have v1 : getK ((putL num 8 ++ (putL i 2 ++ (putL l.length 4 ++ (ptP size l i ++ Z)))).drop 8) 2 = (i : Int) := by
    rw [drop_putR]
    exact getK_putR (by omega) (nat_p2 hi) _
  have v2 : getK ((putL num 8 ++ (putL i 2 ++ (putL l.length 4 ++ (ptP size l i ++ Z)))).drop 10) 4 = (l.length : Int) := by
    rw [show 10 = 8 + 2 from rfl, ← List.drop_drop, drop_putR, drop_putR]
    exact getK_putR (by omega) (rec_p4 hl) _
  have v3 : (putL num 8 ++ (putL i 2 ++ (putL l.length 4 ++ (ptP size l i ++ Z)))).drop 14 = ptP size l i ++ Z := by
    rw [show 14 = 8 + 2 + 4 from rfl, ← List.drop_drop, ← List.drop_drop, drop_putR, drop_putR, drop_putR]
  have hk : recK (putL num 8 ++ (putL i 2 ++ (putL l.length 4 ++ (ptP size l i ++ Z)))) num i len = true := by
    unfold recK
    simp only [Bool.and_eq_true, Bool.or_eq_true, decide_eq_true_eq]
    refine ⟨⟨⟨v0, v1⟩, by rw [v2]; exact rec_max hl⟩, ?_⟩
    rcases hlen with h | h
    · exact .inl h
    · exact .inr (by rw [v2, h])
  rw [if_pos hk]
  unfold recP
  rw [v2, v3, Int.toNat_natCast]
  have hp : ptP size l i = (l.drop (i * R)).take (min ((i + 1) * R) l.length - i * R) := by
    unfold ptP
    rw [hR] at hil ⊢
    rw [Nat.min_eq_left hil]
  rw [hR] at hil ho ⊢
  have hol : out.length = i * R := by rw [ho, List.length_take]; omega
  have hm : min (l.length - out.length) R = min ((i + 1) * R) l.length - i * R := by rw [hol, Nat.add_mul]; omega
  have hpl : (ptP size l i).length = min ((i + 1) * R) l.length - i * R := by rw [hp, List.length_take, List.length_drop, Nat.add_mul]; omega
  rw [hm, ← hpl, List.take_left, hp, ho]
  have ht : l.take (i * R) ++ (l.drop (i * R)).take (min ((i + 1) * R) l.length - i * R) = l.take ((i + 1) * R) := by
    rw [← List.take_add]
    rw [show i * R + (min ((i + 1) * R) l.length - i * R) = min ((i + 1) * R) l.length by rw [Nat.add_mul]; omega]
    rw [← List.take_take, List.take_length]
  rw [ht]
theorem recGo_back {kx : Nat → List Int} {lo n size at0 : Nat} {num : Int} {l : List Int} (hs : 64 ≤ size) (hn : 0 ≤ num ∧ num ≤ 18446744073709551615) (hl : l.length ≤ recTop) (hN : ndN size l.length ≤ 65536) (hk : ∀ i, i < ndN size l.length → kx (lo + 2 + (at0 + i) % (n - 2)) = ptS size num l i) :
    ∀ (f k len : Nat), ndN size l.length ≤ k + f → k ≤ ndN size l.length → (k = 0 ∨ len = l.length) → recGo kx lo n size at0 num f k len (l.take (k * (size - 18))) = some l := by
  obtain ⟨N, hNN⟩ : ∃ N, ndN size l.length = N := ⟨_, rfl⟩
  have hN1 : 1 ≤ N := by rw [← hNN]; unfold ndN; omega
  have hfull : l.take (N * (size - 18)) = l := List.take_of_length_le (nd_mul hs (by rw [hNN]; exact Nat.le_refl _))
  rw [hNN] at hN hk ⊢
  have hend : ∀ f len, len = l.length → recGo kx lo n size at0 num f N len (l.take (N * (size - 18))) = some l := fun f len h => by
    have hm : ¬ (N = 0 ∨ N < ndN size len) := by rw [h, hNN]; omega
    cases f with
    | zero => unfold recGo; rw [if_neg hm, hfull]
    | succ f => unfold recGo; rw [if_neg hm, hfull]
  intro f
  induction f with
  | zero =>
    intro k len h1 h2 h3
    obtain rfl : k = N := by omega
    exact hend 0 len (h3.resolve_left (by omega))
  | succ f ih =>
    intro k len h1 h2 h3
    by_cases hkN : k = N
    · subst hkN
      exact hend (f + 1) len (h3.resolve_left (by omega))
    · have hm : k = 0 ∨ k < ndN size len := by
        rcases h3 with h | h
        · exact .inl h
        · exact .inr (by rw [h, hNN]; omega)
      have hil : k * (size - 18) ≤ l.length := by
        by_cases h0 : k = 0
        · rw [h0, Nat.zero_mul]; exact Nat.zero_le _
        · exact Nat.le_of_lt (nd_lt hs (by omega) (by rw [hNN]; omega))
      unfold recGo
      rw [if_pos hm, hk k (by omega), recS_ptS hn (by omega) hl h3 rfl hil]
      exact ih (k + 1) l.length (by omega) (by omega) (.inr rfl)
/-- A record that lies there is read. -/
theorem recF_back {kx : Nat → List Int} {lo n size at0 most : Nat} {num : Int} {l : List Int} (hs : 64 ≤ size) (hn : 0 ≤ num ∧ num ≤ 18446744073709551615) (hl : l.length ≤ recTop) (hN : ndN size l.length ≤ 65536) (hm : ndN size l.length ≤ most) (hk : ∀ i, i < ndN size l.length → kx (lo + 2 + (at0 + i) % (n - 2)) = ptS size num l i) :
    recF kx lo n size at0 num most = some l := by
  unfold recF
  have h := recGo_back hs hn hl hN hk most 0 0 (by omega) (Nat.zero_le _) (.inl rfl)
  rw [Nat.zero_mul, List.take_zero] at h
  exact h
/-- Records that lie one behind the other, from a sector of the area on. -/
def LieAt (kx : Nat → List Int) (lo n size : Nat) : Nat → Int → List (List Int) → Prop
  | _, _, [] => True
  | p, num, l :: r => l.length ≤ recTop ∧ (∀ i, i < ndN size l.length → kx (lo + 2 + (p + i) % (n - 2)) = ptS size num l i) ∧ LieAt kx lo n size (p + ndN size l.length) (num + 1) r
theorem opF_back {kx : Nat → List Int} {lo n size : Nat} (hs : 64 ≤ size) (hn4 : 4 ≤ n) (hn : n ≤ 65536) : ∀ (L : List (List Int)) (p p' : Nat) (num : Int) (left : Nat), 0 ≤ num → num + L.length ≤ 18446744073709551615 → p' % (n - 2) = p % (n - 2) → sumN (ksOf size L) ≤ left → left ≤ n - 2 → LieAt kx lo n size p num L → opF kx lo n size L.length p' num left = some L
  | [], _, _, _, _, _, _, _, _, _, _ => rfl
  | l :: r, p, p', num, left, h0, h1, hp, hsum, hlf, hL => by
    obtain ⟨a1, a2, a3⟩ := hL
    have hsum' : ndN size l.length + sumN (ksOf size r) ≤ left := hsum
    have hmodadd : ∀ i, (p' + i) % (n - 2) = (p + i) % (n - 2) := fun i => by rw [Nat.add_mod, hp, ← Nat.add_mod]
    have h2 : recF kx lo n size p' num left = some l := recF_back hs ⟨h0, by simp at h1; omega⟩ a1 (by omega) (by omega) (fun i hi => by rw [hmodadd]; exact a2 i hi)
    have h3 := opF_back hs hn4 hn r (p + ndN size l.length) ((p' + ndN size l.length) % (n - 2)) (num + 1) (left - ndN size l.length) (by omega) (by simp at h1; omega) (by rw [Nat.mod_mod, hmodadd]) (by omega) (by omega) a3
    show (recF kx lo n size p' num left).bind _ = _
    rw [h2]
    show (opF kx lo n size r.length ((p' + ndN size l.length) % (n - 2)) (num + 1) (left - ndN size l.length)).map _ = _
    rw [h3]
    rfl
end Go.Proofs.Ytlhpdkapddnbcaa

namespace Go.Proofs.Ytlhpdkapddnbcaa
open Go.RowKit
/-- A state as it may stand in a sector. -/
structure HdV (n : Nat) (h : Hd) : Prop where
  wf : h.Wf
  f1 : 1 ≤ h.first
  le : h.first ≤ h.next
  st : h.start < (n : Int) - 2
/-- Sectors that hold a journal: state h, the one ahead of it in the other sector, the records L. -/
structure HoldsK (kx : Nat → List Int) (lo n size : Nat) (h : Hd) (L : List (List Int)) : Prop where
  hv : HdV n h
  new : kx (lo + (h.turn % 2).toNat) = hdS size h
  old : ∃ o, HdV n o ∧ o.turn + 1 = h.turn ∧ kx (lo + (o.turn % 2).toNat) = hdS size o
  next : h.next = h.first + L.length
  sum : sumN (ksOf size L) ≤ n - 2
  lie : LieAt kx lo n size h.start.toNat h.first L
theorem hdR_hv {n size slot : Nat} {h : Hd} (hv : HdV n h) (hs : h.turn % 2 = slot) : hdR n (hdS size h) slot = some h := hdR_hdS hv.wf hv.f1 hv.le hv.st hs
theorem stF_holds {kx : Nat → List Int} {lo n size : Nat} {h : Hd} {L : List (List Int)} (H : HoldsK kx lo n size h L) : stF n (kx lo) (kx (lo + 1)) = some h := by
  obtain ⟨o, ov, ot, ok⟩ := H.old
  have hn := H.new
  have hv := H.hv
  have b0 := hv.wf.t0
  have b1 := hv.wf.t1
  have c0 := ov.wf.t0
  have c1 := ov.wf.t1
  unfold stF
  by_cases he : h.turn % 2 = 0
  · have ho : o.turn % 2 = 1 := by omega
    rw [he] at hn
    rw [ho] at ok
    change kx (lo + 0) = _ at hn
    change kx (lo + 1) = _ at ok
    rw [Nat.add_zero] at hn
    rw [hn, ok, hdR_hv hv (slot := 0) (by omega), hdR_hv ov (slot := 1) (by omega)]
    show stP h o = some h
    unfold stP
    rw [if_pos (by omega)]
  · have he1 : h.turn % 2 = 1 := by omega
    have ho : o.turn % 2 = 0 := by omega
    rw [he1] at hn
    rw [ho] at ok
    change kx (lo + 1) = _ at hn
    change kx (lo + 0) = _ at ok
    rw [Nat.add_zero] at ok
    rw [hn, ok, hdR_hv hv (slot := 1) (by omega), hdR_hv ov (slot := 0) (by omega)]
    show stP o h = some h
    unfold stP
    rw [if_neg (by omega), if_pos (by omega)]
/-- It is opened so. -/
theorem opR_holds {kx : Nat → List Int} {lo n size : Nat} {h : Hd} {L : List (List Int)} (H : HoldsK kx lo n size h L) (hs : 64 ≤ size) (h4 : 4 ≤ n) (hn : n ≤ 65536) : opR kx lo n size = some (h, L) := by
  have hlen : L.length ≤ n - 2 := by
    have h1 : ∀ l : List (List Int), l.length ≤ sumN (ksOf size l) := fun l => by
      induction l with
      | nil => exact Nat.zero_le _
      | cons x r ih =>
        have : 1 ≤ ndN size x.length := by unfold ndN; omega
        show r.length + 1 ≤ ndN size x.length + sumN (ksOf size r)
        omega
    have := h1 L
    have := H.sum
    omega
  have hnx := H.next
  have hf := H.hv.f1
  have hb := H.hv.wf.n1
  unfold opR
  rw [stF_holds H]
  show (if (n : Int) - 2 < h.next - h.first then none else _) = _
  rw [if_neg (by omega)]
  have hc : (h.next - h.first).toNat = L.length := by omega
  rw [hc, opF_back hs h4 hn L h.start.toNat h.start.toNat h.first (n - 2) (by omega) (by omega) rfl H.sum (Nat.le_refl _) H.lie]
  rfl
/-- What is pending, flushed. -/
theorem settle_all_one (p : List (Int × List Int)) : ∀ (i : Nat) (k : List (List Int)) (s : Nat), (∀ q ∈ p, q.1 ≠ (s : Int) ∧ 0 ≤ q.1) → (settleK (fun _ => true) i p k)[s]? = k[s]? := by
  induction p with
  | nil => intro i k s _; rfl
  | cons q r ih =>
    intro i k s h
    obtain ⟨t, b⟩ := q
    unfold settleK
    rw [if_pos rfl, ih (i + 1) _ s (fun q hq => h q (List.mem_cons_of_mem _ hq))]
    have h1 := h (t, b) (List.mem_cons_self ..)
    rw [List.getElem?_set_ne]
    intro e
    have h2 : t ≠ (s : Int) := h1.1
    have h3 : 0 ≤ t := h1.2
    omega
theorem secB_flush {st : Dk} {s : Nat} : secB (flushS st) s = ((flushS st).kept[s]?).getD [] := rfl
/-- What was written at s lies there. -/
theorem settle_put (p : List (Int × List Int)) (k : List (List Int)) (s : Nat) (b : List Int) (hs : s < k.length) : (settleK (fun _ => true) 0 (p ++ [((s : Int), b)]) k)[s]? = some b := by
  have h : ∀ (p : List (Int × List Int)) (i : Nat) (k : List (List Int)), s < k.length → (settleK (fun _ => true) i (p ++ [((s : Int), b)]) k)[s]? = some b := by
    intro p
    induction p with
    | nil =>
      intro i k hk
      show (settleK (fun _ => true) i [((s : Int), b)] k)[s]? = some b
      unfold settleK settleK
      rw [if_pos rfl, Int.toNat_natCast, List.getElem?_set_self hk]
    | cons q r ih =>
      intro i k hk
      obtain ⟨t, c⟩ := q
      show (settleK (fun _ => true) i ((t, c) :: (r ++ [((s : Int), b)])) k)[s]? = some b
      unfold settleK
      rw [if_pos rfl]
      exact ih (i + 1) _ (by rw [List.length_set]; exact hk)
  exact h p 0 k hs
end Go.Proofs.Ytlhpdkapddnbcaa

namespace Go.Proofs.Ytlhpdkapddnbcaa
open Go.RowKit
theorem fm_sec {st : Dk} {lo size : Nat} {t : Int} (hp : st.pend = []) (hn : lo + 2 ≤ st.kept.length) : secB (fmS st lo size t) lo = hdS size (hdI t) ∧ secB (fmS st lo size t) (lo + 1) = hdS size (hdI (t + 1)) ∧ ∀ s, s ≠ lo → s ≠ lo + 1 → secB (fmS st lo size t) s = (st.kept[s]?).getD [] := by
  have hk : (fmS st lo size t).kept = (st.kept.set lo (hdS size (hdI t))).set (lo + 1) (hdS size (hdI (t + 1))) := by
    show settleK (fun _ => true) 0 ((st.pend ++ [((lo : Int), hdS size (hdI t))]) ++ [(((lo + 1 : Nat) : Int), hdS size (hdI (t + 1)))]) st.kept = _
    rw [hp]
    show settleK (fun _ => true) 0 [((lo : Int), hdS size (hdI t)), (((lo + 1 : Nat) : Int), hdS size (hdI (t + 1)))] st.kept = _
    unfold settleK settleK settleK
    rw [if_pos rfl, if_pos rfl, Int.toNat_natCast, Int.toNat_natCast]
  have hs : ∀ s, secB (fmS st lo size t) s = ((fmS st lo size t).kept[s]?).getD [] := fun s => rfl
  refine ⟨?_, ?_, fun s h1 h2 => ?_⟩
  · rw [hs, hk, List.getElem?_set_ne (by omega), List.getElem?_set_self (by omega)]
    rfl
  · rw [hs, hk, List.getElem?_set_self (by rw [List.length_set]; omega)]
    rfl
  · rw [hs, hk, List.getElem?_set_ne (by omega), List.getElem?_set_ne (by omega)]
theorem fm_holds {st : Dk} {lo n size : Nat} {t : Int} (hp : st.pend = []) (h4 : 4 ≤ n) (hn : lo + n ≤ st.kept.length) (h0 : 0 ≤ t) (h1 : t ≤ 4611686018427387908) (h2 : t % 2 = 0) : HoldsK (secB (fmS st lo size t)) lo n size (hdI (t + 1)) [] := by
  obtain ⟨e0, e1, _⟩ := fm_sec (size := size) (t := t) hp (show lo + 2 ≤ st.kept.length by omega)
  have hv : ∀ t : Int, 0 ≤ t → t ≤ 18446744073709551615 → HdV n (hdI t) := fun t a b => ⟨hdI_wf a b, by show (1 : Int) ≤ 1; omega, by show (1 : Int) ≤ 1; omega, by show (0 : Int) < (n : Int) - 2; omega⟩
  refine ⟨hv _ (by omega) (by omega), ?_, ⟨hdI t, hv _ h0 (by omega), rfl, ?_⟩, rfl, Nat.zero_le _, trivial⟩
  · rw [show ((hdI (t + 1)).turn % 2).toNat = 1 by show ((t + 1) % 2).toNat = 1; omega]
    exact e1
  · rw [show ((hdI t).turn % 2).toNat = 0 by show (t % 2).toNat = 0; omega]
    exact e0
/-- Sectors written and flushed. -/
def setAll (k : List (List Int)) : List (Nat × List Int) → List (List Int)
  | [] => k
  | p :: r => setAll (k.set p.1 p.2) r
theorem setAll_len : ∀ (ws : List (Nat × List Int)) (k : List (List Int)), (setAll k ws).length = k.length
  | [], _ => rfl
  | p :: r, k => by rw [setAll, setAll_len r, List.length_set]
theorem setAll_other : ∀ (ws : List (Nat × List Int)) (k : List (List Int)) (s : Nat), (∀ p ∈ ws, p.1 ≠ s) → (setAll k ws)[s]? = k[s]?
  | [], _, _, _ => rfl
  | p :: r, k, s, h => by
    rw [setAll, setAll_other r _ s (fun q hq => h q (List.mem_cons_of_mem _ hq)), List.getElem?_set_ne (h p (List.mem_cons_self ..))]
theorem setAll_at : ∀ (ws : List (Nat × List Int)) (k : List (List Int)) (i : Nat) (p : Nat × List Int), ws[i]? = some p → p.1 < k.length → (∀ j q, i < j → ws[j]? = some q → q.1 ≠ p.1) → (setAll k ws)[p.1]? = some p.2
  | [], _, _, _, h, _, _ => by simp at h
  | q :: r, k, 0, p, h, hp, hd => by
    simp at h
    subst h
    rw [setAll, setAll_other r _ _ (fun x hx => by
      obtain ⟨j, hj⟩ := List.getElem?_of_mem hx
      exact hd (j + 1) x (by omega) (by simpa using hj)), List.getElem?_set_self hp]
  | q :: r, k, i + 1, p, h, hp, hd => by
    rw [setAll]
    exact setAll_at r _ i p (by simpa using h) (by rw [List.length_set]; exact hp) (fun j x hj hx => hd (j + 1) x (by omega) (by simpa using hx))
theorem settle_setAll (κ : Nat → Bool) : ∀ (ws : List (Nat × List Int)) (i : Nat) (k : List (List Int)), (∀ j, κ j = true) → settleK κ i (ws.map fun p => ((p.1 : Int), p.2)) k = setAll k ws
  | [], _, _, _ => rfl
  | p :: r, i, k, h => by
    show settleK κ i (((p.1 : Int), p.2) :: r.map _) k = _
    unfold settleK
    rw [if_pos (h i), Int.toNat_natCast, settle_setAll κ r (i + 1) _ h]
    rfl
/-- The sectors of a record, from the i-th on. -/
def apW (J : Jr) (l : List Int) (i : Nat) : Nat → List (Nat × List Int)
  | 0 => []
  | c + 1 => (ptAt J i, ptS J.size J.h.next l i) :: apW J l (i + 1) c
theorem apGo_whole (J : Jr) (l : List Int) : ∀ (c i : Nat) (st : Dk), st.armed = 0 ∨ (c : Int) < st.armed → (apGo J l c i st).pend = st.pend ++ (apW J l i c).map (fun p => ((p.1 : Int), p.2)) ∧ (apGo J l c i st).kept = st.kept ∧ (apGo J l c i st).off = st.off ∧ (apGo J l c i st).keep = st.keep ∧ (apGo J l c i st).size = st.size ∧ (apGo J l c i st).reads = st.reads ∧ (apGo J l c i st).writes = st.writes + c ∧ (apGo J l c i st).armed = (if st.armed = 0 then 0 else st.armed - c)
  | 0, i, st, _ => by
    refine ⟨by simp [apGo, apW], rfl, rfl, rfl, rfl, rfl, by show st.writes = st.writes + ((0 : Nat) : Int); omega, ?_⟩
    show st.armed = _
    split <;> omega
  | c + 1, i, st, h => by
    have ha : ¬ st.armed = 1 := by omega
    rw [apGo_put _ _ _ _ _ ha]
    have hput : (putS st (ptAt J i) (ptS J.size J.h.next l i)).armed = if st.armed = 0 then 0 else st.armed - 1 := rfl
    obtain ⟨e1, e2, e3, e4, e5, e6, e7, e8⟩ := apGo_whole J l c (i + 1) (putS st (ptAt J i) (ptS J.size J.h.next l i)) (by rw [hput]; split <;> omega)
    refine ⟨?_, e2, e3, e4, e5, e6, ?_, ?_⟩
    · rw [e1]
      show (st.pend ++ [_]) ++ _ = _
      rw [List.append_assoc]
      rfl
    · rw [e7]
      show st.writes + 1 + (c : Int) = _
      omega
    · rw [e8, hput]
      by_cases h0 : st.armed = 0
      · rw [if_pos h0, if_pos rfl, if_pos h0]
      · rw [if_neg h0, if_neg (by omega), if_neg h0]
        omega
end Go.Proofs.Ytlhpdkapddnbcaa

namespace Go.Proofs.Ytlhpdkapddnbcaa
open Go.RowKit
theorem LieAt.keep {kx kx' : Nat → List Int} {lo n size : Nat} : ∀ (L : List (List Int)) (p : Nat) (num : Int), LieAt kx lo n size p num L → (∀ i, i < sumN (ksOf size L) → kx' (lo + 2 + (p + i) % (n - 2)) = kx (lo + 2 + (p + i) % (n - 2))) → LieAt kx' lo n size p num L
  | [], _, _, _, _ => trivial
  | l :: r, p, num, h, hk => by
    obtain ⟨a1, a2, a3⟩ := h
    have hs : sumN (ksOf size (l :: r)) = ndN size l.length + sumN (ksOf size r) := rfl
    refine ⟨a1, fun i hi => by rw [hk i (by omega)]; exact a2 i hi, LieAt.keep r _ _ a3 (fun i hi => ?_)⟩
    have := hk (ndN size l.length + i) (by omega)
    rw [← Nat.add_assoc] at this
    exact this
theorem LieAt.app {kx : Nat → List Int} {lo n size : Nat} : ∀ (L M : List (List Int)) (p : Nat) (num : Int), LieAt kx lo n size p num L → LieAt kx lo n size (p + sumN (ksOf size L)) (num + L.length) M → LieAt kx lo n size p num (L ++ M)
  | [], M, p, num, _, h => by
    have e : num + (([] : List (List Int)).length : Int) = num := by simp
    rw [e] at h
    exact h
  | l :: r, M, p, num, h, hM => by
    obtain ⟨a1, a2, a3⟩ := h
    have hs : sumN (ksOf size (l :: r)) = ndN size l.length + sumN (ksOf size r) := rfl
    refine ⟨a1, a2, LieAt.app r M _ _ a3 ?_⟩
    rw [hs, ← Nat.add_assoc] at hM
    have e : num + ((l :: r).length : Int) = num + 1 + (r.length : Int) := by simp; omega
    rw [e] at hM
    exact hM
theorem mod_ne {m p i j : Nat} (hm : i < m) (hj : j < m) (hne : i ≠ j) : (p + i) % m ≠ (p + j) % m := fun h => by
  have h1 : (p + i) % m = (p + j) % m := h
  have h2 : ∀ a b : Nat, a ≤ b → (p + a) % m = (p + b) % m → b < m → a = b := fun a b hab hmod hb => by
    have h3 : (p + b - (p + a)) % m = 0 := Nat.sub_mod_eq_zero_of_mod_eq hmod.symm
    rw [show p + b - (p + a) = b - a by omega, Nat.mod_eq_of_lt (by omega)] at h3
    omega
  rcases Nat.le_total i j with h3 | h3
  · exact hne (h2 i j h3 h1 hj)
  · exact hne (h2 j i h3 h1.symm hm).symm
theorem apW_len (J : Jr) (l : List Int) : ∀ (c i : Nat), (apW J l i c).length = c
  | 0, _ => rfl
  | c + 1, i => by show (apW J l (i + 1) c).length + 1 = c + 1; rw [apW_len]
theorem apW_at (J : Jr) (l : List Int) : ∀ (c i j : Nat), j < c → (apW J l i c)[j]? = some (ptAt J (i + j), ptS J.size J.h.next l (i + j))
  | c + 1, i, 0, _ => rfl
  | c + 1, i, j + 1, h => by
    show (apW J l (i + 1) c)[j]? = _
    rw [apW_at J l c (i + 1) j (by omega), show i + 1 + j = i + (j + 1) by omega]
/-- The sectors behind a whole record's writes. -/
theorem ap_set {J : Jr} {l : List Int} {N : Nat} {k : List (List Int)} (h4 : 4 ≤ J.n) (hk : J.lo + J.n ≤ k.length) (hN : sumN J.ks + N ≤ J.n - 2) :
    (∀ i, i < N → (setAll k (apW J l 0 N))[ptAt J i]? = some (ptS J.size J.h.next l i)) ∧ ∀ s, (∀ i, i < N → ptAt J i ≠ s) → (setAll k (apW J l 0 N))[s]? = k[s]? := by
  have hat : ∀ i, ptAt J i < k.length := fun i => by
    have := Nat.mod_lt (J.h.start.toNat + sumN J.ks + i) (show 0 < J.n - 2 by omega)
    unfold ptAt
    omega
  refine ⟨fun i hi => ?_, fun s hs => setAll_other _ _ _ (fun p hp => ?_)⟩
  · have h := setAll_at (apW J l 0 N) k i _ (apW_at J l N 0 i hi) (by rw [Nat.zero_add]; exact hat i) (fun j q hj hq => ?_)
    · rw [Nat.zero_add] at h
      exact h
    · have hjN : j < N := by
        have := (List.getElem?_eq_some_iff.1 hq).1
        rw [apW_len] at this
        exact this
      rw [apW_at J l N 0 j hjN] at hq
      injection hq with hq
      rw [← hq]
      show ptAt J (0 + j) ≠ ptAt J (0 + i)
      rw [Nat.zero_add, Nat.zero_add]
      unfold ptAt
      have := mod_ne (m := J.n - 2) (p := J.h.start.toNat + sumN J.ks) (i := j) (j := i) (by omega) (by omega) (by omega)
      omega
  · obtain ⟨j, hj⟩ := List.getElem?_of_mem hp
    have hjN : j < N := by
      have := (List.getElem?_eq_some_iff.1 hj).1
      rw [apW_len] at this
      exact this
    rw [apW_at J l N 0 j hjN] at hj
    injection hj with hj
    rw [← hj]
    show ptAt J (0 + j) ≠ s
    rw [Nat.zero_add]
    exact hs j hjN
end Go.Proofs.Ytlhpdkapddnbcaa
