/- ring: Open. disk: New, Arm. ring: Open where there is no room for a journal; begun. ring: what was written is read so: a state's sector, a record's sectors. Plain. -/
import Derived.Test.YtlhpdkapddnbcaaJn0
import Derived.WalkMore
import Derived.Test.YtlhpdkapddnbcaaJn11
import Derived.Test.YtlhpdkapddnbcaaJn1
import Derived.Test.YtlhpdkapddnbcaaJn12
import Derived.Test.YtlhpdkapddnbcaaJn6
import Derived.Test.YtlhpdkapddnbcaaJn4
namespace Go.Proofs.Ytlhpdkapddnbcaa
open Go.RowKit
def ksOf (size : Nat) (ls : List (List Int)) : List Nat := ls.map fun b => ndN size b.length
theorem ksOf_snoc (size : Nat) (ls : List (List Int)) (b : List Int) : ksOf size (ls ++ [b]) = ksOf size ls ++ [ndN size b.length] := by unfold ksOf; rw [List.map_append]; rfl
def opR (kx : Nat → List Int) (lo n size : Nat) : Option (Hd × List (List Int)) :=
  (stF n (kx lo) (kx (lo + 1))).bind fun h => if (n : Int) - 2 < h.next - h.first then none else (opF kx lo n size (h.next - h.first).toNat h.start.toNat h.first (n - 2)).map fun ls => (h, ls)
/-- A failure that wraps an error. -/
def FailAt (w : World) (v : Value) (x : Int) : Prop := ∃ g, v = .iface 110 (.pointer (some ⟨g, 0, none⟩)) ∧ w.cell? ⟨g, 0, none⟩ = some (.int .i64 x)
/-- What Open tells, and leaves. -/
def OpPost (Z : Nat → Prop) (d : Nat) (st : Dk) (lo n : Nat) (w0 : World) (o : Option (Hd × List (List Int))) (e : Ending) (w' : World) : Prop :=
  ∃ R, st.reads ≤ R ∧ R ≤ st.reads + 8589934592 ∧ match o with
  | none => (∃ v, e = .returned (.tuple #[.pointer none, .slice none 0 0, v]) ∧ FailAt w' v 20) ∧ ∃ Z', DkIn w' Z' d (st.rd R) ∧ Tnd Z Z' w0 w'
  | some p => ∃ r Q' v vs, e = .returned (.tuple #[.pointer (some ⟨r, 0, none⟩), v, .nilIface]) ∧ RiIn w' Q' r d (st.rd R) ⟨lo, n, st.size, p.1, ksOf st.size p.2⟩ ∧ RowsIn w' Q' v vs p.2 ∧ Tnd Z Q' w0 w'
theorem hdR_ok {n : Nat} {x : List Int} {slot : Nat} {h : Hd} (hx : hdR n x slot = some h) : 1 ≤ h.first ∧ h.first ≤ h.next ∧ h.start < (n : Int) - 2 ∧ h.turn % 2 = slot := by
  unfold hdR at hx
  split at hx
  · split at hx
    · rename_i h1 h2
      injection hx with hx
      subst hx
      unfold hdK at h2
      simp only [Bool.and_eq_true, decide_eq_true_eq] at h2
      exact ⟨h2.1.1.2, h2.1.2, h2.2, h2.1.1.1.2⟩
    · cases hx
  · cases hx
theorem stF_ok {n : Nat} {x0 x1 : List Int} {h : Hd} (hx : stF n x0 x1 = some h) (hn : n ≤ 65536) (h0 : Bytes x0) (h1 : Bytes x1) : h.Wf ∧ 1 ≤ h.first ∧ h.first ≤ h.next ∧ h.start < (n : Int) - 2 := by
  unfold stF at hx
  cases ha : hdR n x0 0 with
  | none => rw [ha] at hx; cases hx
  | some a =>
    cases hb : hdR n x1 1 with
    | none => rw [ha, hb] at hx; cases hx
    | some b =>
      rw [ha, hb] at hx
      have hs : stP a b = some h := hx
      unfold stP at hs
      split at hs
      · injection hs with hs
        subst hs
        have := hdR_ok ha
        exact ⟨hdR_wf ha h0 hn, this.1, this.2.1, this.2.2.1⟩
      · split at hs
        · injection hs with hs
          subst hs
          have := hdR_ok hb
          exact ⟨hdR_wf hb h1 hn, this.1, this.2.1, this.2.2.1⟩
        · cases hs
theorem Tnd.weak {Z Q Q' : Nat → Prop} {w w' : World} (t : Tnd Z Q w w') (h : ∀ k, Q' k → Q k) : Tnd Z Q' w w' := ⟨t.os, t.tape, t.output, t.size, t.block, fun k hk => t.sub k (h k hk)⟩
theorem Tnd.at_o {Z Q : Nat → Prop} {w w1 w2 : World} {b : Option Nat} (t : Tnd Z Q w w1) (hg : w1.grownBy w2 b) (hb : ∀ g, b = some g → w.heap.size ≤ g) : Tnd Z Q w w2 :=
  ⟨hg.os.trans t.os, hg.tape.trans t.tape, hg.output.trans t.output, Nat.le_trans t.size hg.size, fun k hk hz => (hg.block k (Nat.lt_of_lt_of_le hk t.size) (fun e => by have := hb k e.symm; omega)).trans (t.block k hk hz), t.sub⟩
theorem OpPost.no {Z Q : Nat → Prop} {d r lo n : Nat} {st : Dk} {J : Jr} {w0 w w' : World} {R : Int} {v : Value} (h : RiIn w Q r d (st.rd R) J) (t : Tnd Z Q w0 w) (h1 : st.reads ≤ R) (h2 : R ≤ st.reads + 8589934592) (hv : v = .iface 110 (.pointer (some ⟨w.heap.size, 0, none⟩))) (hw : w' = w.alloc (.cells #[.int .i64 20] 112)) :
    OpPost Z d st lo n w0 none (.returned (.tuple #[.pointer none, .slice none 0 0, v])) w' := by
  have hba : Below w.heap.size w (w.alloc (.cells #[.int .i64 20] 112)) := (Below.refl _ _).alloc (Nat.le_refl _) _
  obtain ⟨⟨Z1, sv, hd, _, _, hz, _⟩, _⟩ := h
  subst hv hw
  refine ⟨R, h1, h2, ⟨_, rfl, w.heap.size, rfl, ?_⟩, Z1, hd.below hba, (t.weak hz).below_r hba⟩
  rw [cell_of_row _ _ _ _ _ _ (heap_alloc_new w (.cells #[.int .i64 20] 112))]
  rfl
set_option linter.unusedSimpArgs false in
set_option linter.unusedVariables false in
set_option maxRecDepth 100000 in
set_option maxHeartbeats 8000000 in
theorem ropen_any (Z : Nat → Prop) (d : Nat) (st : Dk) (lo n : Nat) (w0 : World) (h : DkIn w0 Z d st) (h4 : 4 ≤ n) (hn : lo + n ≤ st.kept.length) (hoff : st.off = false) (hrd : st.reads + 8589934592 ≤ 4611686018427387904) :
    Calls Try.prog 19 #[.pointer (some ⟨d, 0, none⟩), .int .i64 (lo : Int), .int .i64 (n : Int)] w0 fun e w' => OpPost Z d st lo n w0 (opR (secB st) lo n st.size) e w' := by
  have HON := Lib.hid (ron_any Z d st lo n w0 h h4 hn)
  have hbytes : ∀ k, Bytes (secB st k) := fun k => h.secBytes _
  have hok := h.okR
  have hn65 : n ≤ 65536 := by have := hok.n.2; omega
  have hlo65 : lo ≤ 65536 := by have := hok.n.2; omega
  have HXL : Hid (∀ i, (secB st (lo + 2 + i % (n - 2))).length = st.size) := fun i => secB_len hok (by have := Nat.mod_lt i (show 0 < n - 2 by omega); omega)
  have hsz := hok.size
  obtain ⟨OP, hOP⟩ : ∃ o, opR (secB st) lo n st.size = o := ⟨_, rfl⟩
  rw [hOP]
  have HNO : Hid (OP = none → ∀ (Q : Nat → Prop) (r : Nat) (J : Jr) (w w' : World) (R : Int) (v : Value), RiIn w Q r d (st.rd R) J → Tnd Z Q w0 w → st.reads ≤ R → R ≤ st.reads + 8589934592 → v = .iface 110 (.pointer (some ⟨w.heap.size, 0, none⟩)) → w' = w.alloc (.cells #[.int .i64 20] 112) → ∀ e : Ending, e = .returned (.tuple #[.pointer none, .slice none 0 0, v]) → OpPost Z d st lo n w0 OP e w') := fun h0 Q r J w w' R v h1 h2 h3 h5 h6 h7 e he => by
    rw [h0, he]
    exact OpPost.no h1 h2 h3 h5 h6 h7
  have HSO : Hid (∀ (p : Hd × List (List Int)) (Q : Nat → Prop) (r : Nat) (w : World) (R : Int) (v : Value) (vs : List Value), OP = some p → RiIn w Q r d (st.rd R) ⟨lo, n, st.size, p.1, ksOf st.size p.2⟩ → RowsIn w Q v vs p.2 → Tnd Z Q w0 w → st.reads ≤ R → R ≤ st.reads + 8589934592 → ∀ e : Ending, e = .returned (.tuple #[.pointer (some ⟨r, 0, none⟩), v, .nilIface]) → OpPost Z d st lo n w0 OP e w) := fun p Q r w R v vs h0 h1 h2 h3 h5 h6 e he => by
    rw [h0, he]
    exact ⟨R, h5, h6, r, Q, v, vs, rfl, h1, h2, h3⟩
  unfold opR at hOP
  have HST : Hid (∀ (Q : Nat → Prop) (r : Nat) (w : World), RiIn w Q r d st ⟨lo, n, st.size, hd0, []⟩ → Calls Try.prog 47 #[.pointer (some ⟨r, 0, none⟩)] w fun e w' => e = .returned (.tuple #[((stF n (secB st lo) (secB st (lo + 1))).getD hd0).val, .int .i64 (hdE (stF n (secB st lo) (secB st (lo + 1))))]) ∧ (∃ R, st.reads ≤ R ∧ R ≤ st.reads + 2 ∧ RiIn w' Q r d (st.rd R) ⟨lo, n, st.size, hd0, []⟩) ∧ Tnd Q Q w w') := fun Q r w h1 => state_any Q r d st _ w h1 hoff (by omega)
  have HREC : Hid (∀ (Q : Nat → Prop) (r : Nat) (R : Int) (ks : List Nat) (at0 most : Nat) (num : Int) (w : World), RiIn w Q r d (st.rd R) ⟨lo, n, st.size, hd0, ks⟩ → at0 ≤ 65536 → most ≤ 65536 → 0 ≤ num ∧ num ≤ 18446744073709551615 → R + 65537 ≤ 4611686018427387904 → Calls Try.prog 48 #[.pointer (some ⟨r, 0, none⟩), .int .i64 (at0 : Int), .int .u64 num, .int .i64 (most : Int)] w fun e w' => RecE w.heap.size (recF (secB st) lo n st.size at0 num most) e w' ∧ (∃ R', R ≤ R' ∧ R' ≤ R + most ∧ RiIn w' Q r d (st.rd R') ⟨lo, n, st.size, hd0, ks⟩) ∧ Tnd Q Q w w') := fun Q r R ks at0 most num w h1 h2 h3 h5 h6 => record_any Q r d (st.rd R) ⟨lo, n, st.size, hd0, ks⟩ at0 most num w h1 hoff h2 h3 h5 h6
  obtain ⟨kx, hkx⟩ : ∃ kx, secB st = kx := ⟨_, rfl⟩
  rw [hkx] at HST HREC hOP HXL hbytes
  obtain ⟨S, hS⟩ : ∃ S, st.size = S := ⟨_, rfl⟩
  rw [hS] at HON HST HREC hOP HXL hsz HSO
  obtain ⟨o, ho⟩ : ∃ o, stF n (kx lo) (kx (lo + 1)) = o := ⟨_, rfl⟩
  rw [ho] at HST hOP
  have HOO : Hid (∀ a, o = some a → a.Wf ∧ 1 ≤ a.first ∧ a.first ≤ a.next ∧ a.start < (n : Int) - 2) := fun a h => stF_ok (ho.trans h) hn65 (hbytes _) (hbytes _)
  have HOP := Lib.hid hOP
  have HZL := Lib.hid h.1
  obtain ⟨rd0, hrd0⟩ : ∃ y, st.reads = y := ⟨_, rfl⟩
  rw [hrd0] at hrd HNO HSO HST
  have HRDD := Lib.hid hrd
  have HHN := Lib.hid hn
  clear h hok hbytes hOP hkx hS ho hoff hrd0 hrd hn
  go_enter Try.func19, Try.ntmps19
  go_wp2_with fail
  go_step3
  go_wp2_with fail
  refine HON.out.mono ?_
  rintro e w1 ⟨r, rfl, hr1, hb1, hrg⟩
  obtain ⟨Q, hQ⟩ : ∃ Q : Nat → Prop, (fun k => Z k ∨ k = r) = Q := ⟨_, rfl⟩
  rw [hQ] at hr1
  have R1 := Lib.hid hr1
  have T1 : Hid (Tnd Z Q w0 w1) := ⟨hb1.os, hb1.tape, hb1.output, hb1.size, fun k hk _ => hb1.block k hk, fun k hk => by
    rw [← hQ] at hk
    rcases hk with h | h
    · exact .inl h
    · exact .inr (by omega)⟩
  clear hr1 hb1 hrg hQ HON
  go_wp2_with fail
  refine (HST.out Q r w1 R1.out).mono ?_
  rintro e w2 ⟨rfl, ⟨R2, hR2a, hR2b, hr2⟩, ht2⟩
  have RI2 := Lib.hid hr2
  have T2 := Lib.hid (T1.out.trans ht2)
  clear hr2 ht2 R1 T1 HST
  cases o with
  | none =>
    have HN := Lib.hid (HNO.out (by rw [← HOP.out]; rfl))
    have hba : Below w2.heap.size w2 (w2.alloc (.cells #[.int .u64 0, .int .u64 0, .int .u64 0, .int .i64 0] 76)) := (Below.refl _ _).alloc (Nat.le_refl _) _
    simp only [Option.getD_none, hd0, Hd.val, hdE]
    go_wp2_with fail
    obtain ⟨w3, hw3⟩ : ∃ w3, w2.alloc (.cells #[.int .u64 0, .int .u64 0, .int .u64 0, .int .i64 0] 76) = w3 := ⟨_, rfl⟩
    rw [hw3] at hba
    rw [hw3]
    have R3 := Lib.hid (RI2.out.below hba)
    have T3 := Lib.hid (T2.out.below_r hba)
    clear hw3 hba
    refine (fail_any 20 w3).mono ?_
    rintro e w4 ⟨rfl, rfl⟩
    go_wp2_with fail
    go_ret3
    exact HN.out Q r _ w3 _ R2 _ R3.out T3.out hR2a (by omega) rfl rfl _ (by rfl)
  | some A =>
    obtain ⟨⟨hA0, hA1, hA2, hA3, hA4, hA5, hA6, hA7⟩, hf1, hf2, hst⟩ := HOO.out A rfl
    obtain ⟨ta, fa, xa, sa⟩ := A
    change 0 ≤ ta at hA0
    change 0 ≤ fa at hA2
    change xa ≤ 18446744073709551615 at hA5
    change 0 ≤ sa at hA6
    change 1 ≤ fa at hf1
    change fa ≤ xa at hf2
    change sa < (n : Int) - 2 at hst
    simp only [Option.getD_some, Hd.val, hdE]
    have hrow := heap_alloc_new w2 (.cells #[.int .u64 ta, .int .u64 fa, .int .u64 xa, .int .i64 sa] 76)
    have hba : Below w2.heap.size w2 (w2.alloc (.cells #[.int .u64 ta, .int .u64 fa, .int .u64 xa, .int .i64 sa] 76)) := (Below.refl _ _).alloc (Nat.le_refl _) _
    go_wp2_with fail
    obtain ⟨hb, hhb⟩ : ∃ hb, w2.heap.size = hb := ⟨_, rfl⟩
    obtain ⟨w3, hw3⟩ : ∃ w3, w2.alloc (.cells #[.int .u64 ta, .int .u64 fa, .int .u64 xa, .int .i64 sa] 76) = w3 := ⟨_, rfl⟩
    rw [hw3] at hba
    rw [hw3, hhb] at hrow
    rw [hw3, hhb]
    have R3 := Lib.hid (RI2.out.below hba)
    have T3 := Lib.hid (T2.out.below_r hba)
    have HD3 := Lib.hid hrow
    have hbq : ¬ Q hb := fun hq => by have := RI2.out.lt hb hq; omega
    have hwb : w0.heap.size ≤ hb := by have := T2.out.size; omega
    have HAW : Hid (∀ x s : Int, xa = x → sa = s → (⟨ta, fa, x, s⟩ : Hd).Wf) := fun x s h1 h2 => by subst h1 h2; exact ⟨hA0, hA1, hA2, hA3, hA4, hA5, hA6, hA7⟩
    obtain ⟨⟨Z3, sv, _, hr3, _⟩, ok3, _, _⟩ := R3.out
    have ROW3 := Lib.hid hr3
    have OK := Lib.hid ok3
    clear hw3 hba hrow hr3 ok3 HOO
    have hsub : IntKind.u64.wrap (xa - fa) = xa - fa := by rw [IntKind.wrap_u64]; omega
    have hnw : IntKind.u64.wrap ((n : Int) - 2) = (n : Int) - 2 := by rw [IntKind.wrap_u64]; omega
    by_cases hmany : (n : Int) - 2 < xa - fa
    · have dm : decide ((n : Int) - 2 < xa - fa) = true := decide_eq_true hmany
      have HN := Lib.hid (HNO.out (by rw [← HOP.out]; show (if (n : Int) - 2 < xa - fa then none else _) = none; rw [if_pos hmany]))
      refine' reg_free (G := Kept) (pickF [eqV _, eqV _, eqV _, eqV _, eqV _, eqV _, eqV _, eqV _, eqV _]) [39, 40, 41, 42, 43, 44, 45, 46, 47] [[], [0], [], [2], [1, 3], [], [5], [6], [4, 7]] [0, 1, 2, 3, 4, 5, 6, 7, 8] (by kernel_rfl) Kept.refl Kept.trans (pick_stays ⟨eqV_stays _, eqV_stays _, eqV_stays _, eqV_stays _, eqV_stays _, eqV_stays _, eqV_stays _, eqV_stays _, eqV_stays _, trivial⟩) 108 rfl (by kernel_rfl) (by kernel_rfl) rfl rfl ?r1obl ?r1fin
      case r1obl =>
        refine And.intro ?r1o0 (And.intro ?r1o1 (And.intro ?r1o2 (And.intro ?r1o3 (And.intro ?r1o4 (And.intro ?r1o5 (And.intro ?r1o6 (And.intro ?r1o7 (And.intro ?r1o8 (True.intro)))))))))
        case r1o0 =>
          intro w1 hG
          refine turn_on (by rfl) ?_
          intro K hK
          go_simp
          refine hK _ _ ⟨rfl, Kept.refl _, ?_⟩
          show _ = _
          simp only [gv1]
          rfl
        case r1o1 =>
          intro w1 hG
          intro v0 h0
          change _ = _ at h0
          subst h0
          refine turn_on (by rfl) ?_
          intro K hK
          simp only [gv2]
          obtain ⟨q0, q1, q2, q3⟩ := cells4 (row_keep (w := w3.drew) HD3.out hG)
          go_simp
          refine hK _ _ ⟨rfl, Kept.refl _, ?_⟩
          show _ = _
          simp only [gv1]
          rfl
        case r1o2 =>
          intro w1 hG
          refine turn_on (by rfl) ?_
          intro K hK
          go_simp
          refine hK _ _ ⟨rfl, Kept.refl _, ?_⟩
          show _ = _
          simp only [gv1]
          rfl
        case r1o3 =>
          intro w1 hG
          intro v2 h2
          change _ = _ at h2
          subst h2
          refine turn_on (by rfl) ?_
          intro K hK
          simp only [gv2]
          obtain ⟨q0, q1, q2, q3⟩ := cells4 (row_keep (w := w3.drew) HD3.out hG)
          go_simp
          refine hK _ _ ⟨rfl, Kept.refl _, ?_⟩
          show _ = _
          simp only [gv1]
          rfl
        case r1o4 =>
          intro w1 hG
          intro v1 h1
          change _ = _ at h1
          subst h1
          intro v3 h3
          change _ = _ at h3
          subst h3
          refine turn_on (by rfl) ?_
          intro K hK
          simp only [gv2]
          go_simp
          refine hK _ _ ⟨rfl, Kept.refl _, ?_⟩
          show _ = _
          simp only [gv1]
          rfl
        case r1o5 =>
          intro w1 hG
          refine turn_on (by rfl) ?_
          intro K hK
          go_simp
          refine hK _ _ ⟨rfl, Kept.refl _, ?_⟩
          show _ = _
          simp only [gv1]
          rfl
        case r1o6 =>
          intro w1 hG
          intro v5 h5
          change _ = _ at h5
          subst h5
          refine turn_on (by rfl) ?_
          intro K hK
          simp only [gv2]
          go_simp
          refine Calls.mono (area_any r d sv _ w1 (row_keep (w := w3.drew) ROW3.out hG) OK.out) ?_
          rintro e w2 ⟨rfl, rfl⟩
          refine hK _ _ ⟨rfl, Kept.refl _, ?_⟩
          show _ = _
          simp only [gv1]
          rfl
        case r1o7 =>
          intro w1 hG
          intro v6 h6
          change _ = _ at h6
          subst h6
          refine turn_on (by rfl) ?_
          intro K hK
          simp only [gv2]
          go_simp
          refine hK _ _ ⟨rfl, Kept.refl _, ?_⟩
          show _ = _
          simp only [gv1]
          rfl
        case r1o8 =>
          intro w1 hG
          intro v4 h4
          change _ = _ at h4
          subst h4
          intro v7 h7
          change _ = _ at h7
          subst h7
          refine turn_on (by rfl) ?_
          intro K hK
          simp only [gv2]
          go_simp
          refine hK _ _ ⟨rfl, Kept.refl _, ?_⟩
          show _ = _
          simp only [gv1]
          rfl
      intro w1 hG
      intro v0 h0
      change _ = _ at h0
      subst h0
      intro v1 h1
      change _ = _ at h1
      subst h1
      intro v2 h2
      change _ = _ at h2
      subst h2
      intro v3 h3
      change _ = _ at h3
      subst h3
      intro v4 h4
      change _ = _ at h4
      subst h4
      intro v5 h5
      change _ = _ at h5
      subst h5
      intro v6 h6
      change _ = _ at h6
      subst h6
      intro v7 h7
      change _ = _ at h7
      subst h7
      intro v8 h8
      change _ = _ at h8
      subst h8
      simp only [Given, gv2]
      have HG1 : Hid (Below w3.heap.size w3 w1) := by show Below _ _ _; exact ⟨hG.os, hG.tape, hG.output, hG.size, hG.block⟩
      have R4 := Lib.hid (R3.out.below HG1.out)
      have T4 := Lib.hid (T3.out.below_r HG1.out)
      go_wp2_with fail
      refine (fail_any 20 w1).mono ?_
      rintro e w4 ⟨rfl, rfl⟩
      go_wp2_with fail
      go_ret3
      exact HN.out Q r _ w1 _ R2 _ R4.out T4.out hR2a (by omega) rfl rfl _ (by rfl)
    · have dm : decide ((n : Int) - 2 < xa - fa) = false := decide_eq_false hmany
      obtain ⟨cnt, hcnt⟩ : ∃ cnt : Nat, xa - fa = cnt := Int.eq_ofNat_of_zero_le (by omega)
      obtain ⟨sn, hsn⟩ : ∃ sn : Nat, sa = sn := Int.eq_ofNat_of_zero_le hA6
      have HP : Hid (OP = (opF kx lo n S cnt sn fa (n - 2)).map fun ls => ((⟨ta, fa, xa, sa⟩ : Hd), ls)) := by
        show _ = _
        rw [← HOP.out]
        show (if (n : Int) - 2 < xa - fa then none else (opF kx lo n S (xa - fa).toNat sa.toNat fa (n - 2)).map _) = _
        rw [if_neg hmany, hcnt, hsn]
        rfl
      refine' reg_free (G := Kept) (pickF [eqV _, eqV _, eqV _, eqV _, eqV _, eqV _, eqV _, eqV _, eqV _]) [39, 40, 41, 42, 43, 44, 45, 46, 47] [[], [0], [], [2], [1, 3], [], [5], [6], [4, 7]] [0, 1, 2, 3, 4, 5, 6, 7, 8] (by kernel_rfl) Kept.refl Kept.trans (pick_stays ⟨eqV_stays _, eqV_stays _, eqV_stays _, eqV_stays _, eqV_stays _, eqV_stays _, eqV_stays _, eqV_stays _, eqV_stays _, trivial⟩) 108 rfl (by kernel_rfl) (by kernel_rfl) rfl rfl ?r2obl ?r2fin
      case r2obl =>
        refine And.intro ?r2o0 (And.intro ?r2o1 (And.intro ?r2o2 (And.intro ?r2o3 (And.intro ?r2o4 (And.intro ?r2o5 (And.intro ?r2o6 (And.intro ?r2o7 (And.intro ?r2o8 (True.intro)))))))))
        case r2o0 =>
          intro w1 hG
          refine turn_on (by rfl) ?_
          intro K hK
          go_simp
          refine hK _ _ ⟨rfl, Kept.refl _, ?_⟩
          show _ = _
          simp only [gv1]
          rfl
        case r2o1 =>
          intro w1 hG
          intro v0 h0
          change _ = _ at h0
          subst h0
          refine turn_on (by rfl) ?_
          intro K hK
          simp only [gv2]
          obtain ⟨q0, q1, q2, q3⟩ := cells4 (row_keep (w := w3.drew) HD3.out hG)
          go_simp
          refine hK _ _ ⟨rfl, Kept.refl _, ?_⟩
          show _ = _
          simp only [gv1]
          rfl
        case r2o2 =>
          intro w1 hG
          refine turn_on (by rfl) ?_
          intro K hK
          go_simp
          refine hK _ _ ⟨rfl, Kept.refl _, ?_⟩
          show _ = _
          simp only [gv1]
          rfl
        case r2o3 =>
          intro w1 hG
          intro v2 h2
          change _ = _ at h2
          subst h2
          refine turn_on (by rfl) ?_
          intro K hK
          simp only [gv2]
          obtain ⟨q0, q1, q2, q3⟩ := cells4 (row_keep (w := w3.drew) HD3.out hG)
          go_simp
          refine hK _ _ ⟨rfl, Kept.refl _, ?_⟩
          show _ = _
          simp only [gv1]
          rfl
        case r2o4 =>
          intro w1 hG
          intro v1 h1
          change _ = _ at h1
          subst h1
          intro v3 h3
          change _ = _ at h3
          subst h3
          refine turn_on (by rfl) ?_
          intro K hK
          simp only [gv2]
          go_simp
          refine hK _ _ ⟨rfl, Kept.refl _, ?_⟩
          show _ = _
          simp only [gv1]
          rfl
        case r2o5 =>
          intro w1 hG
          refine turn_on (by rfl) ?_
          intro K hK
          go_simp
          refine hK _ _ ⟨rfl, Kept.refl _, ?_⟩
          show _ = _
          simp only [gv1]
          rfl
        case r2o6 =>
          intro w1 hG
          intro v5 h5
          change _ = _ at h5
          subst h5
          refine turn_on (by rfl) ?_
          intro K hK
          simp only [gv2]
          go_simp
          refine Calls.mono (area_any r d sv _ w1 (row_keep (w := w3.drew) ROW3.out hG) OK.out) ?_
          rintro e w2 ⟨rfl, rfl⟩
          refine hK _ _ ⟨rfl, Kept.refl _, ?_⟩
          show _ = _
          simp only [gv1]
          rfl
        case r2o7 =>
          intro w1 hG
          intro v6 h6
          change _ = _ at h6
          subst h6
          refine turn_on (by rfl) ?_
          intro K hK
          simp only [gv2]
          go_simp
          refine hK _ _ ⟨rfl, Kept.refl _, ?_⟩
          show _ = _
          simp only [gv1]
          rfl
        case r2o8 =>
          intro w1 hG
          intro v4 h4
          change _ = _ at h4
          subst h4
          intro v7 h7
          change _ = _ at h7
          subst h7
          refine turn_on (by rfl) ?_
          intro K hK
          simp only [gv2]
          go_simp
          refine hK _ _ ⟨rfl, Kept.refl _, ?_⟩
          show _ = _
          simp only [gv1]
          rfl
      intro w1 hG
      intro v0 h0
      change _ = _ at h0
      subst h0
      intro v1 h1
      change _ = _ at h1
      subst h1
      intro v2 h2
      change _ = _ at h2
      subst h2
      intro v3 h3
      change _ = _ at h3
      subst h3
      intro v4 h4
      change _ = _ at h4
      subst h4
      intro v5 h5
      change _ = _ at h5
      subst h5
      intro v6 h6
      change _ = _ at h6
      subst h6
      intro v7 h7
      change _ = _ at h7
      subst h7
      intro v8 h8
      change _ = _ at h8
      subst h8
      simp only [Given, gv2]
      have HG1 : Hid (Below w3.heap.size w3 w1) := by show Below _ _ _; exact ⟨hG.os, hG.tape, hG.output, hG.size, hG.block⟩
      have R4 := Lib.hid (R3.out.below HG1.out)
      have T4 := Lib.hid (T3.out.below_r HG1.out)
      have HD5 := Lib.hid (row_keep HD3.out HG1.out)
      have ROW5 := Lib.hid (row_keep ROW3.out HG1.out)
      have hcn : cnt ≤ n - 2 := by omega
      have hcw : IntKind.u64.wrap (cnt : Int) = cnt := by rw [IntKind.wrap_u64]; omega
      clear hG hmany R3 T3 HD3 ROW3
      obtain ⟨w1_, rfl⟩ : ∃ w1_, w1_ = w1 := ⟨_, rfl⟩
      have hst2 : sn < n - 2 := by omega
      have dm2 : decide ((n : Int) - 2 < (cnt : Int)) = false := decide_eq_false (by omega)
      go_wp2_with fail
      refine' reg_free (G := Kept) (pickF [eqV _, eqV _, eqV _, eqV _, eqV _, eqV _]) [49, 50, 51, 52, 13, 14] [[], [0], [], [2], [1], [3]] [0, 1, 2, 3, 4, 5] (by kernel_rfl) Kept.refl Kept.trans (pick_stays ⟨eqV_stays _, eqV_stays _, eqV_stays _, eqV_stays _, eqV_stays _, eqV_stays _, trivial⟩) 108 rfl (by kernel_rfl) (by kernel_rfl) rfl rfl ?r3obl ?r3fin
      case r3obl =>
        refine And.intro ?r3o0 (And.intro ?r3o1 (And.intro ?r3o2 (And.intro ?r3o3 (And.intro ?r3o4 (And.intro ?r3o5 (True.intro))))))
        case r3o0 =>
          intro w1 hG
          refine turn_on (by rfl) ?_
          intro K hK
          go_simp
          refine hK _ _ ⟨rfl, Kept.refl _, ?_⟩
          show _ = _
          simp only [gv1]
          rfl
        case r3o1 =>
          intro w1 hG
          intro v0 h0
          change _ = _ at h0
          subst h0
          refine turn_on (by rfl) ?_
          intro K hK
          simp only [gv2]
          obtain ⟨q0, q1, q2, q3⟩ := cells4 (row_keep (w := w1_.drew) HD5.out hG)
          go_simp
          refine hK _ _ ⟨rfl, Kept.refl _, ?_⟩
          show _ = _
          simp only [gv1]
          rfl
        case r3o2 =>
          intro w1 hG
          refine turn_on (by rfl) ?_
          intro K hK
          go_simp
          refine hK _ _ ⟨rfl, Kept.refl _, ?_⟩
          show _ = _
          simp only [gv1]
          rfl
        case r3o3 =>
          intro w1 hG
          intro v2 h2
          change _ = _ at h2
          subst h2
          refine turn_on (by rfl) ?_
          intro K hK
          simp only [gv2]
          go_simp
          refine Calls.mono (area_any r d sv _ w1 (row_keep (w := w1_.drew) ROW5.out hG) OK.out) ?_
          rintro e w2 ⟨rfl, rfl⟩
          refine hK _ _ ⟨rfl, Kept.refl _, ?_⟩
          show _ = _
          simp only [gv1]
          rfl
        case r3o4 =>
          intro w1 hG
          intro v1 h1
          change _ = _ at h1
          subst h1
          refine turn_on (by rfl) ?_
          intro K hK
          simp only [gv2]
          go_simp
          refine hK _ _ ⟨rfl, Kept.refl _, ?_⟩
          show _ = _
          simp only [gv1]
          rfl
        case r3o5 =>
          intro w1 hG
          intro v3 h3
          change _ = _ at h3
          subst h3
          refine turn_on (by rfl) ?_
          intro K hK
          simp only [gv2]
          go_simp
          refine hK _ _ ⟨rfl, Kept.refl _, ?_⟩
          show _ = _
          simp only [gv1]
          rfl
      intro w1 hG
      intro v0 h0
      change _ = _ at h0
      subst h0
      intro v1 h1
      change _ = _ at h1
      subst h1
      intro v2 h2
      change _ = _ at h2
      subst h2
      intro v3 h3
      change _ = _ at h3
      subst h3
      intro v4 h4
      change _ = _ at h4
      subst h4
      intro v5 h5
      change _ = _ at h5
      subst h5
      simp only [Given, gv2]
      have HG2 : Hid (Below w1_.heap.size w1_ w1) := by show Below _ _ _; exact ⟨hG.os, hG.tape, hG.output, hG.size, hG.block⟩
      have R5 := Lib.hid (R4.out.below HG2.out)
      have T5 := Lib.hid (T4.out.below_r HG2.out)
      have HD6 := Lib.hid (row_keep HD5.out HG2.out)
      clear hG R4 T4 HD5 ROW5 HG1 HG2
      obtain ⟨q0, q1, q2, q3⟩ := cells4 HD6.out
      have hbl : hb < w1.heap.size := (Array.getElem?_eq_some_iff.1 HD6.out).1
      go_wp2_with fail
      go_step3
      go_wp2_with fail
      clear q0 q1 q2 q3
      obtain ⟨RES, hRES⟩ : ∃ x, opF kx lo n S cnt sn fa (n - 2) = x := ⟨_, rfl⟩
      rw [hRES] at HP
      have HRES := Lib.hid hRES
      have hxa : xa = fa + cnt := by omega
      have HWF := Lib.hid (HAW.out (fa + cnt) sn hxa hsn)
      subst hxa
      have HNO2 : Hid (RES = none → OP = none) := fun h => by rw [HP.out, h]; rfl
      have HD7 : Hid (w1.heap[hb]? = some (.cells #[.int .u64 ta, .int .u64 fa, .int .u64 (fa + cnt), .int .i64 (sn : Int)] 76 (0, 0))) := by show _ = _; rw [← hsn]; exact HD6.out
      clear hRES dm dm2 hsub hcnt
      go_loopw [12, 13, 14, 15] (fun ov pv lv nv wr => ∃ (k place left : Nat) (Q1 : Nat → Prop) (vs : List Value) (ls : List (List Int)) (R : Int), k ≤ cnt ∧ nv = .int .u64 (fa + k) ∧ pv = .int .i64 place ∧ lv = .int .i64 left ∧ Hid (RiIn wr Q1 r d (st.rd R) ⟨lo, n, S, hd0, ksOf S ls⟩) ∧ Hid (Tnd Z Q1 w0 wr) ∧ Hid (RowsIn wr Q1 ov vs ls) ∧ Hid (wr.heap[hb]? = some (.cells #[.int .u64 ta, .int .u64 fa, .int .u64 (fa + cnt), .int .i64 (sn : Int)] 76 (0, 0))) ∧ Hid (¬ Q1 hb) ∧ rd0 ≤ R ∧ R ≤ rd0 + 2 + k * 65536 ∧ place < n - 2 ∧ Hid (sumN (ksOf S ls) + left = n - 2) ∧ left ≤ n - 2 ∧ Hid (vs.length = k) ∧ Hid (∀ g, ov.ownBlock = some g → hb < g) ∧ Hid ((opF kx lo n S (cnt - k) place (fa + k) left).map (ls ++ ·) = RES)) (fun _ _ _ nv _ => (fa + cnt - intOf nv).toNat)
      case atStart =>
        refine ⟨0, sn, n - 2, Q, [], [], R2, by omega, by go_num, rfl, by first | rfl | (congr 1; omega), R5.out, T5.out, RowsIn.nil _ _, HD7.out, hbq, hR2a, by omega, hst2, by show 0 + (n - 2) = n - 2; omega, by omega, rfl, fun g hg => (by simp [Value.ownBlock] at hg), ?_⟩
        show _ = _
        rw [Nat.sub_zero, show fa + ((0 : Nat) : Int) = fa by omega, HRES.out]
        cases RES <;> rfl
      case round =>
        obtain ⟨k, place, left, Q1, vs, ls, R, hk, rfl, rfl, rfl, RK, TK, WK, DK, QK, hr1, hr2, hpl, SK, hlf, LK, BK, GK⟩ := hrel
        obtain ⟨oa, oc, hsh⟩ := WK.out.shape
        subst hsh
        obtain ⟨q0, q1, q2, q3⟩ := cells4 DK.out
        by_cases hkc : k < cnt
        · have dk : decide (fa + (k : Int) < fa + (cnt : Int)) = true := decide_eq_true (by omega)
          have HRC := Lib.hid (HREC.out Q1 r R _ place left (fa + k) wr RK.out (by omega) (by omega) (by omega) (by have := HRDD.out; omega))
          obtain ⟨c9, hc9⟩ : ∃ c9, cnt - k = c9 + 1 := ⟨cnt - k - 1, by omega⟩
          have hc8 : cnt - (k + 1) = c9 := by omega
          obtain ⟨ob, hob⟩ : ∃ ob, recF kx lo n S place (fa + k) left = ob := ⟨_, rfl⟩
          rw [hob] at HRC
          have GK2 : Hid ((ob.bind fun b => (opF kx lo n S c9 ((place + ndN S b.length) % (n - 2)) (fa + k + 1) (left - ndN S b.length)).map (b :: ·)).map (ls ++ ·) = RES) := by
            show _ = _
            rw [← GK.out, hc9, ← hob]
            rfl
          have hlen : ∀ b, ob = some b → ndN S b.length ≤ left := fun b h => recF_len hsz.1 HXL.out (hob.trans h)
          clear hob hc9 GK
          go_wp2_with fail
          refine HRC.out.mono ?_
          rintro e w2 ⟨hpe, ⟨R', hra, hrb, hri⟩, htn⟩
          have R2_ := Lib.hid hri
          have T2_ := Lib.hid (TK.out.trans htn)
          have W2_ := Lib.hid (WK.out.tnd htn)
          have hbw := (Array.getElem?_eq_some_iff.1 DK.out).1
          have D2_ := Lib.hid ((htn.block hb hbw QK.out).trans DK.out)
          cases ob with
          | none =>
            have HN := Lib.hid (HNO.out (HNO2.out (by rw [← GK2.out]; rfl)))
            change e = _ at hpe
            subst hpe
            clear hri htn
            go_wp2_with fail
            refine (fail_any 20 w2).mono ?_
            rintro e w4 ⟨rfl, rfl⟩
            go_wp2_with fail
            go_ret3
            exact HN.out Q1 r _ w2 _ R' _ R2_.out T2_.out (by omega) (by omega) rfl rfl _ (by rfl)
          | some b =>
            obtain ⟨v, hpe2, hov⟩ := hpe
            subst hpe2
            obtain ⟨bl, hbl2⟩ : ∃ bl, b.length = bl := ⟨_, rfl⟩
            obtain ⟨ab, cb, rfl⟩ := hov.shapeN bl hbl2
            have hnd := hlen b rfl
            rw [hbl2] at hnd
            have hbl3 := nd_mul hsz.1 hnd
            have hbl4 : bl ≤ 1000000000 := by
              have : left * (S - 18) ≤ 65536 * 4096 := Nat.mul_le_mul (by omega) (by omega)
              omega
            obtain ⟨nd, hnd0⟩ : ∃ nd, ndN S bl = nd := ⟨_, rfl⟩
            have hnd1 : 1 ≤ nd := by rw [← hnd0]; unfold ndN; omega
            rw [hnd0] at hnd
            have GK3 : Hid ((opF kx lo n S c9 ((place + nd) % (n - 2)) (fa + k + 1) (left - nd)).map ((ls ++ [b]) ++ ·) = RES) := by
              have h := GK2.out
              show _ = _
              rw [← h]
              show _ = ((opF kx lo n S c9 ((place + ndN S b.length) % (n - 2)) (fa + k + 1) (left - ndN S b.length)).map (b :: ·)).map (ls ++ ·)
              rw [hbl2, hnd0]
              cases opF kx lo n S c9 ((place + nd) % (n - 2)) (fa + k + 1) (left - nd) with
              | none => rfl
              | some x => simp
            have hqb : ∀ x, ab = some x → 0 < bl → ¬ Q1 x.block ∧ some x.block ≠ (Value.slice oa vs.length oc).ownBlock := fun x hx hn0 => by
              subst hx
              have h1 := own_ge hov hn0
              refine ⟨fun hq => by have := RK.out.lt _ hq; omega, fun e => ?_⟩
              have := (WK.out.own.lt _ e.symm).2
              omega
            have HOV := Lib.hid hov.rd
            have HQB := Lib.hid hqb
            obtain ⟨⟨Z2_, sv2, _, hr2, _⟩, ok2, _, _⟩ := R2_.out
            have HNE := Lib.hid (needs_any r d sv2 _ bl w2 hr2 ok2 hbl4)
            have HOK6 : Hid (∀ J : Jr, JOk J → J.lo = lo → J.n = n → J.size = S → J.h = hd0 → J.ks = ksOf S ls → JOk { J with ks := J.ks ++ [nd] }) := fun J ok _ h2 _ _ h5 => ⟨ok.n4, ok.n1, ok.lo, ok.s0, ok.s1, ok.h, ok.st, by show sumN (J.ks ++ [nd]) ≤ J.n - 2; rw [sumN_app, h5, h2]; show _ + (nd + 0) ≤ _; have := SK.out; omega, fun x hx => by
              rcases List.mem_append.1 hx with h | h
              · exact ok.kp x h
              · rw [List.mem_singleton.1 h]; exact hnd1⟩
            have hnwf : (Lit.int .i64 (nd : Int)).wf = true := by simp [Lit.wf, IntKind.min, IntKind.max, IntKind.signed, IntKind.bits]; omega
            have HKL : Hid ((zs (ksOf S ls)).length ≤ 65536) := by
              show _ ≤ _
              have h := ks_len _ ok2.kp
              have h2 := ok2.ks
              change (ksOf S ls).length ≤ sumN (ksOf S ls) at h
              change sumN (ksOf S ls) ≤ n - 2 at h2
              unfold zs
              rw [List.length_map]
              omega
            have hmd := Nat.mod_lt (place + nd) (show 0 < n - 2 by omega)
            have HM : ((place : Int) + (nd : Int)).tmod ((n : Int) - 2) = (((place + nd) % (n - 2) : Nat) : Int) := by
              rw [Int.tmod_eq_emod_of_nonneg (by omega), Int.natCast_emod, Int.natCast_add, Int.natCast_sub (by omega)]
              rfl
            obtain ⟨pl2, hpl2⟩ : ∃ x, (place + nd) % (n - 2) = x := ⟨_, rfl⟩
            rw [hpl2] at HM hmd GK3
            have hlnd : (left : Int) - (nd : Int) = ((left - nd : Nat) : Int) := by omega
            have hnum1 : IntKind.u64.wrap (fa + (k : Int) + 1) = fa + k + 1 := by rw [IntKind.wrap_u64]; omega
            have dn : (((n : Int) - 2) == 0) = false := by rw [beq_eq_false_iff_ne]; omega
            have dn2 : ((n : Int) - 2) ≠ 0 := by omega
            have dn3 : ((n : Int) - 2) ≠ -1 := by omega
            have hsize : (⟨lo, n, S, hd0, ksOf S ls⟩ : Jr).size = S := rfl
            have HNE2 : Hid (Calls Try.prog 34 #[.pointer (some ⟨r, 0, none⟩), .int .i64 (bl : Int)] w2 fun e w' => e = .returned (.int .i64 (nd : Int)) ∧ w2 = w') := by
              have h := HNE.out
              rw [hsize, hnd0] at h
              exact h
            have hND := Lib.hid hnd0
            have HBL2 := Lib.hid hbl2
            clear hri htn hov hqb hr2 ok2 HNE hlen hbl3 hnd0 hbl2 hsize GK2 HRC q0 q1 q2 q3 hpl2
            go_wp2_with fail
            refine HNE2.out.mono ?_
            rintro e w9 ⟨rfl, rfl⟩
            have hQlt := R2_.out.lt
            have HQL := Lib.hid hQlt
            have hvl : vs.length ≤ 1000000 := by rw [LK.out]; omega
            clear hQlt
            go_wp2_with (first | (at_builtin; go_loud (refine rowsin_one rfl (.tmp 77) (.tmp 79) rfl w2 Q1 (Value.slice oa vs.length oc) vs ls rfl W2_.out ab bl cb b HOV.out HQB.out HQL.out rfl hvl ?_); intro v5 w5 hW5 hg5 hb5; have W5_ := Lib.hid hW5; have G5_ := Lib.hid hg5; have B5_ := Lib.hid hb5; obtain ⟨a5, c5, rfl⟩ := hW5.shape; obtain ⟨⟨Z5, sv5, hd5, hr5, ho5, hz5, hq5, hn5, hgg5⟩, ok5, dok5, lt5⟩ := R2_.out.keep (w' := w5) (fun q hq => hg5.block q (HQL.out q hq) (fun e => W2_.out.nq q e.symm hq)) hg5.size; have HPU := Lib.hid (fun v' w' h1 h2 => ri_push (k := nd) (v' := v') (w' := w') hd5 hr5 hz5 hq5 hn5 hgg5 dok5 lt5 h1 h2 (HOK6.out _ ok5 rfl rfl rfl rfl rfl)); have HO5 := Lib.hid ho5; obtain ⟨y0, y1, y2, y3, y4, y5, y6, y7, y8, yf⟩ := cellsJ hr5; clear hW5 hg5 hb5 hd5 hr5 ho5 hz5 hq5 hn5 hgg5 ok5 dok5 lt5) | (at_builtin; go_loud (refine app_one i64TR i64IR (by decide) rfl (.tmp 85) (.tmp 87) rfl _ 0 sv5 (zs (ksOf S ls)) rfl HO5.out _ rfl hnwf (Nat.le_trans HKL.out (by decide)) (Nat.zero_le _) ?_); intro v6 w6 ho6 hg6; obtain ⟨a6, c6, rfl⟩ := ho6.shapeN ((zs (ksOf S ls)).length + 1) (by rw [List.length_append]; rfl); obtain ⟨hr6, Q6, hri6, ht6⟩ := HPU.out _ w6 ho6 hg6; have R6 := Lib.hid hri6; have T6 := Lib.hid ht6; clear y0 y1 y2 y3 y4 y5 y6 y7 y8 yf ho6 hg6 hri6 ht6; obtain ⟨y0, y1, y2, y3, y4, y5, y6, y7, y8, yf⟩ := cellsJ hr6; clear hr6) | (go_at_call 32; obtain ⟨⟨_, svX, _, hrX, _⟩, okX, _, _⟩ := R6.out; refine (area_any r d svX _ _ hrX okX).mono ?_; rintro e w8 ⟨rfl, rfl⟩; clear hrX okX))
            go_roundw
            case rel =>
              have hb5 : hb < w5.heap.size := Nat.lt_of_lt_of_le (Array.getElem?_eq_some_iff.1 D2_.out).1 G5_.out.size
              have hkk : ksOf S (ls ++ [b]) = ksOf S ls ++ [nd] := by rw [ksOf_snoc, HBL2.out, hND.out]
              have hW6 := W5_.out.tnd T6.out
              rw [List.length_append] at hW6
              have hnb : ∀ g, (Value.slice a5 (vs.length + 1) c5).ownBlock = some g → hb < g := fun g hg => by
                have h := B5_.out
                rw [List.length_append] at h
                rcases h with h1 | h1
                · exact BK.out g (by rw [← h1]; exact hg)
                · have := h1 g hg
                  have := (Array.getElem?_eq_some_iff.1 D2_.out).1
                  omega
              refine ⟨k + 1, pl2, left - nd, Q6, _, ls ++ [b], R', by omega, by go_num, rfl, rfl, ?_, (T2_.out.at_o G5_.out (fun g hg => by have := BK.out g hg; omega)).trans T6.out, hW6, (T6.out.block hb hb5 QK.out).trans ((G5_.out.block hb (Array.getElem?_eq_some_iff.1 D2_.out).1 (fun e => by have := BK.out hb e.symm; omega)).trans D2_.out), fun hq => ?_, by omega, by omega, by omega, ?_, by omega, ?_, hnb, ?_⟩
              · rw [hkk]; exact R6.out
              · rcases T6.out.sub hb hq with h | h
                · exact QK.out h
                · omega
              · show sumN (ksOf S (ls ++ [b])) + (left - nd) = n - 2
                rw [hkk, sumN_app]
                show sumN (ksOf S ls) + (nd + 0) + (left - nd) = n - 2
                have := SK.out
                omega
              · show (vs ++ [_]).length = k + 1
                rw [List.length_append, LK.out]
                rfl
              · rw [hc8, show fa + ((k + 1 : Nat) : Int) = fa + k + 1 by omega]
                exact GK3
            case measure => simp [intOf] <;> omega
        · obtain rfl : k = cnt := by omega
          have HOPS : Hid (OP = some ((⟨ta, fa, fa + k, sn⟩ : Hd), ls)) := by
            show _ = _
            rw [HP.out, ← GK.out, Nat.sub_self]
            simp [opF, hsn]
          obtain ⟨⟨Z1, sv1, _, hr1, _⟩, _⟩ := RK.out
          obtain ⟨y0, y1, y2, y3, y4, y5, y6, y7, y8, yf⟩ := cellsJ hr1
          have hdk : decide (fa + (k : Int) < fa + (k : Int)) = false := decide_eq_false (by omega)
          clear hr1 hA0 hA1 hA2 hA3 hA4 hA5 hA6 hA7
          go_wp2_with fail
          change bodyPost _ _ _ _ _ (setsR wr r [(4, .int .u64 ta), (5, .int .u64 fa), (6, .int .u64 (fa + k)), (7, .int .i64 (sn : Int))])
          obtain ⟨h1, h2⟩ := RK.out.head ⟨ta, fa, fa + k, sn⟩ HWF.out (by show (sn : Int) < (n : Int) - 2; omega)
          go_ret3
          exact HSO.out ((⟨ta, fa, fa + k, sn⟩ : Hd), ls) Q1 r _ R _ vs HOPS.out h1 (WK.out.tnd h2) (TK.out.trans h2) (by omega) (by omega) _ (by rfl)
end Go.Proofs.Ytlhpdkapddnbcaa

namespace Go.Proofs.Ytlhpdkapddnbcaa
open Go.RowKit
set_option maxRecDepth 100000 in
theorem secI : (Try.prog.info? 36).map (fun i => (i.zero, i.size, i.bytes)) = some (some (.slice none 0 0), 1, 24) := by kernel_rfl
set_option maxRecDepth 100000 in
theorem mk_secs (n : Nat) (hn : n ≤ 1000000) (w : World) : (Instr.makeSlice 28 (.int .i64 (n : Int)) (.int .i64 (n : Int))).run Try.prog w = .ok (.slice (some ⟨w.heap.size, 0, none⟩) n n) (w.alloc (.cells (List.replicate n (.slice none 0 0)).toArray 36)) := by
  obtain ⟨i, hi, hz, hs, hb⟩ := info_parts secI
  have hr := run_make (P := Try.prog) w 28 36 i (.slice none 0 0) secT hi hz .i64 .i64 n n (by omega) (Int.le_refl _) (by rw [hb]; omega) (by omega)
  rw [hr, hs, Int.toNat_natCast, Nat.mul_one]
  congr 4
  rw [show (Value.slice none 0 0).cells = #[.slice none 0 0] from rfl, ← toList_madeCells_one]
def rightB (n size : Int) : Bool := decide (1 ≤ n) && decide (n ≤ 65536) && decide (64 ≤ size) && decide (size ≤ 4096)
def dk0 (n size : Nat) : Dk := ⟨false, 0, [], size, List.replicate n (List.replicate size 0), [], 0, 0⟩
set_option linter.unusedSimpArgs false in
set_option linter.unusedVariables false in
set_option maxRecDepth 100000 in
set_option maxHeartbeats 2000000 in
theorem right_any (n size : Int) (w : World) : Calls Try.prog 39 #[.int .i64 n, .int .i64 size] w fun e w' => e = .returned (.bool (rightB n size)) ∧ w = w' := by
  have hE : rightB n size = (decide (1 ≤ n) && decide (n ≤ 65536) && decide (64 ≤ size) && decide (size ≤ 4096)) := rfl
  rw [hE]
  clear hE
  have key : ∀ b1 b2 b3 b4 : Bool, decide (1 ≤ n) = b1 → decide (n ≤ 65536) = b2 → decide (64 ≤ size) = b3 → decide (size ≤ 4096) = b4 → Calls Try.prog 39 #[.int .i64 n, .int .i64 size] w fun e w' => e = .returned (.bool (b1 && b2 && b3 && b4)) ∧ w = w' := by
    intro b1 b2 b3 b4 h1 h2 h3 h4
    cases b1 <;> cases b2 <;> cases b3 <;> cases b4
    all_goals
      go_enter Try.func39, Try.ntmps39
      go_wp2
      go_ret
      exact ⟨rfl, rfl⟩
  exact key _ _ _ _ rfl rfl rfl rfl
set_option maxRecDepth 100000 in
theorem new_no (n size : Int) (w : World) (h : rightB n size = false) : Calls Try.prog 13 #[.int .i64 n, .int .i64 size] w fun e w' => e = .returned (.tuple #[.pointer none, .int .i64 1]) ∧ w = w' := by
  go_enter Try.func13, Try.ntmps13
  go_wp2_with fail
  refine (right_any _ _ _).mono ?_
  rintro e w1 ⟨rfl, rfl⟩
  rw [h]
  go_wp2_with fail
  go_ret2
  exact ⟨rfl, rfl⟩
theorem dk0_ok (n size : Nat) (h : rightB n size = true) : DkOk (dk0 n size) := by
  unfold rightB at h
  simp only [Bool.and_eq_true, decide_eq_true_eq] at h
  refine ⟨⟨by show 64 ≤ size; omega, by show size ≤ 4096; omega⟩, ⟨?_, ?_⟩, fun l hl => ?_, (fun _ h => by cases h), ⟨(show (0:Int) ≤ 0 by decide), (show (0:Int) ≤ 9223372036854775807 by decide)⟩, Nat.zero_le _, ⟨(show (0:Int) ≤ 0 by decide), (show (0:Int) ≤ 4611686018427387904 by decide)⟩, ⟨(show (0:Int) ≤ 0 by decide), (show (0:Int) ≤ 4611686018427387904 by decide)⟩⟩
  · show 1 ≤ (List.replicate n _).length
    rw [List.length_replicate]; omega
  · show (List.replicate n _).length ≤ 65536
    rw [List.length_replicate]; omega
  · rw [List.eq_of_mem_replicate (show l ∈ List.replicate n _ from hl), List.length_replicate]
    rfl
theorem dk0_at (n size : Nat) (w : World) (h : rightB n size = true) (kb mb d : Nat) (hkb : kb < w.heap.size) (hmb : mb < w.heap.size) (hd : d < w.heap.size) (B : Nat) (hB : B ≤ kb ∧ B ≤ mb ∧ B ≤ d) (hne : d ≠ kb ∧ d ≠ mb ∧ kb ≠ mb)
    (hk : w.heap[kb]? = some (.cells (List.replicate n (.slice none 0 0)).toArray 36 (0, 0))) (hm : MapAt w mb (fun _ => none))
    (hr : w.heap[d]? = some (.cells #[.bool false, .int .i64 0, .slice none 0 0, .int .i64 size, .slice (some ⟨kb, 0, none⟩) n n, .slice none 0 0, .map (some mb), .int .i64 0, .int .i64 0] 51 (0, 0))) :
    DkIn w (fun k => B ≤ k ∧ k < w.heap.size) d (dk0 n size) := by
  refine ⟨fun k hk => hk.2, kb, mb, .slice none 0 0, .slice none 0 0, List.replicate n (.slice none 0 0), [], ?_, hk, ?_, World.ownsRow_nil _ _ _ _, All2.nil _, hm.congr (fun _ => rfl), ⟨none, 0, 0, rfl, ⟨rfl, Nat.le_refl _, by unfold maxLen; omega, fun i hi => by omega, fun _ => rfl⟩, fun q hq => by cases hq⟩, hne, (fun g hg => by cases hg), fun b hb => ?_, dk0_ok n size h⟩
  · rw [hr]
    show _ = some (Obj.cells #[_, _, _, _, .slice _ (List.replicate n _).length (List.replicate n _).length, _, _, _, _] _ _)
    rw [List.length_replicate]
    rfl
  · refine ⟨by show _ = (List.replicate n _).length; simp, fun i a b ha hb => ?_⟩
    have hb' : (List.replicate n (List.replicate size (0 : Int)))[i]? = some b := hb
    rw [List.getElem?_replicate] at ha hb'
    by_cases hi : i < n
    · rw [if_pos hi] at ha hb'
      injection ha with ha
      injection hb' with hb'
      exact .inl ⟨ha.symm, hb'.symm⟩
    · rw [if_neg hi] at ha
      cases ha
  · rcases hb with hb | hb | hb | hb
    · subst hb; exact ⟨hB.2.2, hd⟩
    · subst hb; exact ⟨hB.1, hkb⟩
    · subst hb; exact ⟨hB.2.1, hmb⟩
    · cases hb
set_option linter.unusedSimpArgs false in
set_option linter.unusedVariables false in
set_option maxRecDepth 100000 in
set_option maxHeartbeats 2000000 in
theorem new_any (n size : Nat) (w : World) (h : rightB n size = true) : Calls Try.prog 13 #[.int .i64 n, .int .i64 size] w fun e w' => ∃ d Z, e = .returned (.tuple #[.pointer (some ⟨d, 0, none⟩), .int .i64 0]) ∧ DkIn w' Z d (dk0 n size) ∧ (∀ k, Z k → w.heap.size ≤ k) ∧ Below w.heap.size w w' := by
  have hn : n ≤ 1000000 := by
    unfold rightB at h
    simp only [Bool.and_eq_true, decide_eq_true_eq] at h
    omega
  have hmk := mk_secs n hn
  have hmm := @run_makeMap Try.prog
  have H := Lib.hid h
  clear h
  go_enter Try.func13, Try.ntmps13
  go_wp2_with fail
  refine (right_any _ _ _).mono ?_
  rintro e w1 ⟨rfl, rfl⟩
  rw [H.out]
  go_wp2_with fail
  go_ret2
  generalize hA : (w.alloc (.cells (Array.replicate n (.slice none 0 0)) 36)) = wA
  have hsA : wA.heap.size = w.heap.size + 1 := by rw [← hA]; simp
  have hbA : Below w.heap.size w wA := by rw [← hA]; exact (Below.refl _ _).alloc (Nat.le_refl _) _
  have hkA : wA.heap[w.heap.size]? = some (.cells (List.replicate n (.slice none 0 0)).toArray 36 (0, 0)) := by
    rw [← hA, List.toArray_replicate]; exact heap_alloc_new _ _
  generalize hB : wA.alloc (.map #[] 0) = wB
  have hsB : wB.heap.size = w.heap.size + 1 + 1 := by rw [← hB]; simp [hsA]
  have hbB : Below wA.heap.size wA wB := by rw [← hB]; exact (Below.refl _ _).alloc (Nat.le_refl _) _
  have hmB : MapAt wB (w.heap.size + 1) (fun _ => none) := by rw [← hB, ← hsA]; exact map_made wA
  generalize hC : wB.alloc (.cells #[.bool false, .int .i64 0, .slice none 0 0, .int .i64 size, .slice (some ⟨w.heap.size, 0, none⟩) n n, .slice none 0 0, .map (some (w.heap.size + 1)), .int .i64 0, .int .i64 0] 51) = wC
  have hsC : wC.heap.size = w.heap.size + 1 + 1 + 1 := by rw [← hC]; simp [hsB]
  have hbC : Below wB.heap.size wB wC := by rw [← hC]; exact (Below.refl _ _).alloc (Nat.le_refl _) _
  have hrC := heap_alloc_new wB (.cells #[.bool false, .int .i64 0, .slice none 0 0, .int .i64 size, .slice (some ⟨w.heap.size, 0, none⟩) n n, .slice none 0 0, .map (some (w.heap.size + 1)), .int .i64 0, .int .i64 0] 51)
  rw [hC, hsB] at hrC
  refine ⟨w.heap.size + 1 + 1, _, rfl, dk0_at n size wC H.out w.heap.size (w.heap.size + 1) _ (by omega) (by omega) (by omega) w.heap.size ⟨by omega, by omega, by omega⟩ ⟨by omega, by omega, by omega⟩ ?_ ?_ hrC, fun k hk => hk.1, ?_⟩
  · exact row_keep (row_keep hkA hbB) hbC
  · exact hmB.at (hbC.block _ (by omega))
  · exact Below.call (Below.call hbA hbB) hbC
def armS (st : Dk) (n : Int) (keep : List Bool) : Dk := { st with armed := if n < 1 then 1 else n, keep := keep }
set_option linter.unusedSimpArgs false in
set_option linter.unusedVariables false in
set_option maxRecDepth 100000 in
set_option maxHeartbeats 2000000 in
theorem armP {w w' : World} {Z : Nat → Prop} {d kb mb : Nat} {pv kv : Value} {vals pvs : List Value} {st : Dk} (p : DkP w Z d kb mb pv kv vals pvs st) (hoth : ∀ x, Z x → x ≠ d → w'.heap[x]? = w.heap[x]?) (n : Int)
    (row : w'.heap[d]? = some (.cells #[.bool st.off, .int .i64 (if n < 1 then 1 else n), .slice none 0 0, .int .i64 st.size, .slice (some ⟨kb, 0, none⟩) st.kept.length st.kept.length, pv, .map (some mb), .int .i64 st.writes, .int .i64 st.reads] 51 (0, 0))) (h2 : n ≤ 9223372036854775807) :
    DkP w' Z d kb mb pv (.slice none 0 0) vals pvs (armS st n []) := by
  have hm : ∀ x, Z x → ¬ MutD d kb mb pv x → w'.heap[x]? = w.heap[x]? := fun x hx h => hoth x hx (fun e => h (.inl e))
  refine ⟨row, ?_, ?_, ?_, ?_, ?_, ⟨none, 0, 0, rfl, ⟨rfl, Nat.le_refl _, by unfold maxLen; omega, fun i hi => by omega, fun _ => rfl⟩, fun q hq => by cases hq⟩, p.ne, p.rm, p.z, ⟨p.ok.size, p.ok.n, p.ok.kept, p.ok.pend, ?_, p.ok.few, p.ok.writes, p.ok.reads⟩⟩
  · rw [hoth kb (p.z kb (.inr (.inl rfl))) p.ne.1.symm]; exact p.krow
  · exact p.kvals.imp fun v l h => h.at hm (fun _ _ h => h) (fun _ h => h)
  · exact ownsRow_at p.prow (fun g hg => hoth g (p.z g (.inr (.inr (.inr hg)))) (p.rm g hg).1)
  · exact p.pvals.imp fun v l h => h.at hm (fun _ _ h => h) (fun _ h => h)
  · exact p.map.at (hoth mb (p.z mb (.inr (.inr (.inl rfl)))) p.ne.2.1.symm)
  · show 0 ≤ (if n < 1 then 1 else n) ∧ (if n < 1 then 1 else n) ≤ 9223372036854775807
    split <;> omega
set_option maxRecDepth 100000 in
theorem clone_nil (w : World) : Calls Try.prog 44 #[.slice none 0 0] w fun e w' => e = .returned (.slice none 0 0) ∧ w = w' := by
  have hnil := fun (w : World) (a : Option Addr) (n c : Nat) => Lib.run_eql_slice_nil (P := Try.prog) w 38 4 a n c 0 0 Try.underlying38
  go_enter Try.func44, Try.ntmps44
  go_wp2
  go_ret
  exact ⟨rfl, rfl⟩
set_option linter.unusedSimpArgs false in
set_option linter.unusedVariables false in
set_option maxRecDepth 100000 in
set_option maxHeartbeats 2000000 in
theorem arm_nil (Z : Nat → Prop) (d : Nat) (st : Dk) (n : Int) (w : World) (h : DkIn w Z d st) (h1 : -9223372036854775808 ≤ n) (h2 : n ≤ 9223372036854775807) : Calls Try.prog 15 #[.pointer (some ⟨d, 0, none⟩), .int .i64 n, .slice none 0 0] w fun e w' => e = .returned (.tuple #[]) ∧ DkIn w' Z d (armS st n []) ∧ Tnd Z Z w w' := by
  obtain ⟨hz, kb, mb, pv, kv, vals, pvs, p⟩ := h
  obtain ⟨c0, c1, c2, c3, c4, c5, c6, c7, c8, cf⟩ := cellsD p.row
  have P := Lib.hid p
  have hZm := p.z
  clear p
  by_cases hn1 : n < 1
  · have e1 : (if n < 1 then 1 else n) = 1 := if_pos hn1
    have e2 : (max n 1 : Int) = 1 := by omega
    go_enter Try.func15, Try.ntmps15
    go_wp2_with fail
    refine (clone_nil _).mono ?_
    rintro e w1 ⟨rfl, rfl⟩
    go_wp2_with fail
    go_end0
    have hoth : ∀ x, x ≠ d → ((w.setCell ⟨d, 1, none⟩ (.int .i64 1)).setCell ⟨d, 2, none⟩ (.slice none 0 0)).heap[x]? = w.heap[x]? := fun x hne => by
      rw [heap_setCell_other _ ⟨d, 2, none⟩ x _ hne, heap_setCell_other w ⟨d, 1, none⟩ x _ hne]
    have hrow : ((w.setCell ⟨d, 1, none⟩ (.int .i64 1)).setCell ⟨d, 2, none⟩ (.slice none 0 0)).heap[d]? = some (.cells #[.bool st.off, .int .i64 1, .slice none 0 0, .int .i64 st.size, .slice (some ⟨kb, 0, none⟩) st.kept.length st.kept.length, pv, .map (some mb), .int .i64 st.writes, .int .i64 st.reads] 51 (0, 0)) := by
      rw [heap_setCell_same _ d 2 _ _ _ (heap_setCell_same w d 1 _ _ _ P.out.row)]
      simp
    refine ⟨rfl, ⟨fun x hx => by simpa using hz x hx, kb, mb, pv, .slice none 0 0, vals, pvs, armP P.out (fun x _ hne => hoth x hne) n (by rw [e1]; exact hrow) (by omega)⟩, ⟨rfl, rfl, rfl, by simp, fun x _ hzx => hoth x (fun e => hzx (by rw [e]; exact hZm d (.inl rfl))), fun x h => .inl h⟩⟩
  · have e1 : (if n < 1 then 1 else n) = n := if_neg hn1
    go_enter Try.func15, Try.ntmps15
    go_wp2_with fail
    refine (clone_nil _).mono ?_
    rintro e w1 ⟨rfl, rfl⟩
    go_wp2_with fail
    go_end0
    have hoth : ∀ x, x ≠ d → ((w.setCell ⟨d, 1, none⟩ (.int .i64 n)).setCell ⟨d, 2, none⟩ (.slice none 0 0)).heap[x]? = w.heap[x]? := fun x hne => by
      rw [heap_setCell_other _ ⟨d, 2, none⟩ x _ hne, heap_setCell_other w ⟨d, 1, none⟩ x _ hne]
    have hrow : ((w.setCell ⟨d, 1, none⟩ (.int .i64 n)).setCell ⟨d, 2, none⟩ (.slice none 0 0)).heap[d]? = some (.cells #[.bool st.off, .int .i64 n, .slice none 0 0, .int .i64 st.size, .slice (some ⟨kb, 0, none⟩) st.kept.length st.kept.length, pv, .map (some mb), .int .i64 st.writes, .int .i64 st.reads] 51 (0, 0)) := by
      rw [heap_setCell_same _ d 2 _ _ _ (heap_setCell_same w d 1 _ _ _ P.out.row)]
      simp
    refine ⟨rfl, ⟨fun x hx => by simpa using hz x hx, kb, mb, pv, .slice none 0 0, vals, pvs, armP P.out (fun x _ hne => hoth x hne) n (by rw [e1]; exact hrow) (by omega)⟩, ⟨rfl, rfl, rfl, by simp, fun x _ hzx => hoth x (fun e => hzx (by rw [e]; exact hZm d (.inl rfl))), fun x h => .inl h⟩⟩
end Go.Proofs.Ytlhpdkapddnbcaa

namespace Go.Proofs.Ytlhpdkapddnbcaa
open Go.RowKit
set_option linter.unusedSimpArgs false in
set_option linter.unusedVariables false in
set_option maxRecDepth 100000 in
set_option maxHeartbeats 2000000 in
theorem ropen_no (Z : Nat → Prop) (d : Nat) (st : Dk) (lo n : Nat) (w0 : World) (h : DkIn w0 Z d st) (h4 : 4 ≤ n) (hn : n ≤ st.kept.length) (hn2 : st.kept.length < lo + n) (hlo : lo ≤ 1000000) :
    Calls Try.prog 19 #[.pointer (some ⟨d, 0, none⟩), .int .i64 (lo : Int), .int .i64 (n : Int)] w0 fun e w' => (∃ v, e = .returned (.tuple #[.pointer none, .slice none 0 0, v]) ∧ FailAt w' v 1) ∧ Below w0.heap.size w0 w' := by
  have HON := Lib.hid (ron_no Z d st lo n w0 h h4 hn hn2 hlo)
  clear h h4 hn hn2 hlo
  go_enter Try.func19, Try.ntmps19
  go_wp2_with fail
  go_step3
  go_wp2_with fail
  refine HON.out.mono ?_
  rintro e w1 ⟨rfl, hb1⟩
  have B1 := Lib.hid hb1
  clear hb1
  go_wp2_with fail
  refine (fail_any 1 w1).mono ?_
  rintro e w4 ⟨rfl, rfl⟩
  go_wp2_with fail
  rw [Exit.noGoto_ret]
  go_ret3
  have hba : Below w1.heap.size w1 (w1.alloc (.cells #[.int .i64 1] 112)) := (Below.refl _ _).alloc (Nat.le_refl _) _
  refine ⟨⟨_, rfl, w1.heap.size, rfl, ?_⟩, B1.out.trans (hba.mono B1.out.size)⟩
  rw [cell_of_row _ _ _ _ _ _ (heap_alloc_new w1 (.cells #[.int .i64 1] 112))]
  rfl
end Go.Proofs.Ytlhpdkapddnbcaa

namespace Go.Proofs.Ytlhpdkapddnbcaa
open Go.RowKit
theorem getK_appR (l r : List Int) : ∀ k, k ≤ l.length → getK (l ++ r) k = getK l k
  | 0, _ => rfl
  | k + 1, h => by
    rw [getK, getK, getK_appR l r k (by omega), nth_app (by omega)]
theorem getK_putR {u : Int} {n : Nat} (h0 : 0 ≤ u) (h1 : u < 2 ^ (8 * n)) (r : List Int) : getK (putL u n ++ r) n = u := by
  rw [getK_appR _ _ _ (by rw [putL_len]; exact Nat.le_refl _), getK_putL u n h0 n (Nat.le_refl _), Int.emod_eq_of_lt h0 h1]
theorem drop_putR (u : Int) (n : Nat) (r : List Int) : (putL u n ++ r).drop n = r := by
  have h := List.drop_left (l₁ := putL u n) (l₂ := r)
  rw [putL_len] at h
  exact h
theorem secL_open (size : Nat) (b : List Int) : openOk (secL size b) = true ∧ openL (secL size b) = b ++ List.replicate (size - 4 - b.length) 0 := by
  unfold secL
  refine ⟨open_seal _, ?_⟩
  unfold openL
  rw [if_pos (open_seal _), seal_take]
/-- A state's sector is read as that state. -/
theorem hdR_hdS {n size slot : Nat} {h : Hd} (hw : h.Wf) (h1 : 1 ≤ h.first) (h2 : h.first ≤ h.next) (h3 : h.start < (n : Int) - 2) (h4 : h.turn % 2 = slot) : hdR n (hdS size h) slot = some h := by
  obtain ⟨e1, e2⟩ := secL_open size (hdB h)
  unfold hdR hdS
  rw [if_pos e1, e2]
  obtain ⟨Z, hZ⟩ : ∃ Z, List.replicate (size - 4 - (hdB h).length) (0 : Int) = Z := ⟨_, rfl⟩
  rw [hZ]
  obtain ⟨ta, fa, xa, sa⟩ := h
  have hb : hdB ⟨ta, fa, xa, sa⟩ ++ Z = putL 1196312914 4 ++ (putL ta 8 ++ (putL fa 8 ++ (putL xa 8 ++ (putL sa 8 ++ Z)))) := by
    unfold hdB
    simp [hdP]
  rw [hb]
  have p8 : (2 : Int) ^ (8 * 8) = 18446744073709551616 := by decide
  have p4 : (2 : Int) ^ (8 * 4) = 4294967296 := by decide
  have v0 : hdV (putL 1196312914 4 ++ (putL ta 8 ++ (putL fa 8 ++ (putL xa 8 ++ (putL sa 8 ++ Z))))) 0 = ta := by
    unfold hdV
    rw [show 4 + 8 * 0 = 4 from rfl, drop_putR]
    exact getK_putR hw.t0 (by have := hw.t1; rw [p8]; exact Int.lt_add_one_of_le this) _
  have v1 : hdV (putL 1196312914 4 ++ (putL ta 8 ++ (putL fa 8 ++ (putL xa 8 ++ (putL sa 8 ++ Z))))) 1 = fa := by
    unfold hdV
    rw [show 4 + 8 * 1 = 4 + 8 from rfl, ← List.drop_drop, drop_putR, drop_putR]
    exact getK_putR hw.f0 (by have := hw.f1; rw [p8]; exact Int.lt_add_one_of_le this) _
  have v2 : hdV (putL 1196312914 4 ++ (putL ta 8 ++ (putL fa 8 ++ (putL xa 8 ++ (putL sa 8 ++ Z))))) 2 = xa := by
    unfold hdV
    rw [show 4 + 8 * 2 = 4 + 8 + 8 from rfl, ← List.drop_drop, ← List.drop_drop, drop_putR, drop_putR, drop_putR]
    exact getK_putR hw.n0 (by have := hw.n1; rw [p8]; exact Int.lt_add_one_of_le this) _
  have v3 : hdV (putL 1196312914 4 ++ (putL ta 8 ++ (putL fa 8 ++ (putL xa 8 ++ (putL sa 8 ++ Z))))) 3 = sa := by
    unfold hdV
    rw [show 4 + 8 * 3 = 4 + 8 + 8 + 8 from rfl, ← List.drop_drop, ← List.drop_drop, ← List.drop_drop, drop_putR, drop_putR, drop_putR, drop_putR]
    exact getK_putR hw.s0 (by have h : sa ≤ 65536 := hw.s1; rw [p8]; exact Int.lt_of_le_of_lt h (by decide)) _
  have vm : getK (putL 1196312914 4 ++ (putL ta 8 ++ (putL fa 8 ++ (putL xa 8 ++ (putL sa 8 ++ Z))))) 4 = 1196312914 := getK_putR (by decide) (by decide) _
  unfold hdK hdF
  rw [v0, v1, v2, v3, vm, decide_eq_true rfl, decide_eq_true (show ta % 2 = slot from h4), decide_eq_true (show 1 ≤ fa from h1), decide_eq_true (show fa ≤ xa from h2), decide_eq_true (show sa < (n : Int) - 2 from h3)]
  rfl
def recTop : Nat := 67108864
theorem rec_max {n : Nat} (h : n ≤ recTop) : (n : Int) ≤ 67108864 := by unfold recTop at h; omega
theorem rec_p4 {n : Nat} (h : n ≤ recTop) : (n : Int) < 2 ^ (8 * 4) := by
  unfold recTop at h
  have p4 : (2 : Int) ^ (8 * 4) = 4294967296 := by decide
  omega
theorem u64_p8 {x : Int} (h : x ≤ 18446744073709551615) : x < 2 ^ (8 * 8) := by
  have p8 : (2 : Int) ^ (8 * 8) = 18446744073709551616 := by decide
  omega
theorem nat_p2 {i : Nat} (h : i < 65536) : (i : Int) < 2 ^ (8 * 2) := by
  have p2 : (2 : Int) ^ (8 * 2) = 65536 := by decide
  omega
/-- A record's sector, as the part that it is. -/
theorem recS_ptS {size : Nat} {num : Int} {l : List Int} {i len : Nat} {out : List Int} (hn : 0 ≤ num ∧ num ≤ 18446744073709551615) (hi : i < 65536) (hl : l.length ≤ recTop) (hlen : i = 0 ∨ len = l.length) (ho : out = l.take (i * (size - 18))) (hil : i * (size - 18) ≤ l.length) :
    recS size (ptS size num l i) num i len out = some (l.length, l.take ((i + 1) * (size - 18))) := by
  obtain ⟨R, hR⟩ : ∃ R, size - 18 = R := ⟨_, rfl⟩
  obtain ⟨e1, e2⟩ := secL_open size (ptX num l i ++ ptP size l i)
  unfold recS ptS
  rw [if_pos e1, e2]
  obtain ⟨Z, hZ⟩ : ∃ Z, List.replicate (size - 4 - (ptX num l i ++ ptP size l i).length) (0 : Int) = Z := ⟨_, rfl⟩
  rw [hZ]
  have hb : ptX num l i ++ ptP size l i ++ Z = putL num 8 ++ (putL i 2 ++ (putL l.length 4 ++ (ptP size l i ++ Z))) := by
    unfold ptX
    simp
  rw [hb]
  have v0 : getK (putL num 8 ++ (putL i 2 ++ (putL l.length 4 ++ (ptP size l i ++ Z)))) 8 = num := getK_putR hn.1 (u64_p8 hn.2) _
  have v1 : getK ((putL num 8 ++ (putL i 2 ++ (putL l.length 4 ++ (ptP size l i ++ Z)))).drop 8) 2 = (i : Int) := by
    rw [drop_putR]
    exact getK_putR (by omega) (nat_p2 hi) _
  have v2 : getK ((putL num 8 ++ (putL i 2 ++ (putL l.length 4 ++ (ptP size l i ++ Z)))).drop 10) 4 = (l.length : Int) := by
    rw [show 10 = 8 + 2 from rfl, ← List.drop_drop, drop_putR, drop_putR]
    exact getK_putR (by omega) (rec_p4 hl) _
  have v3 : (putL num 8 ++ (putL i 2 ++ (putL l.length 4 ++ (ptP size l i ++ Z)))).drop 14 = ptP size l i ++ Z := by
    rw [show 14 = 8 + 2 + 4 from rfl, ← List.drop_drop, ← List.drop_drop, drop_putR, drop_putR, drop_putR]
  have hk : recK (putL num 8 ++ (putL i 2 ++ (putL l.length 4 ++ (ptP size l i ++ Z)))) num i len = true := by
    unfold recK
    simp only [Bool.and_eq_true, Bool.or_eq_true, decide_eq_true_eq]
    refine ⟨⟨⟨v0, v1⟩, by rw [v2]; exact rec_max hl⟩, ?_⟩
    rcases hlen with h | h
    · exact .inl h
    · exact .inr (by rw [v2, h])
  rw [if_pos hk]
  unfold recP
  rw [v2, v3, Int.toNat_natCast]
  have hp : ptP size l i = (l.drop (i * R)).take (min ((i + 1) * R) l.length - i * R) := by
    unfold ptP
    rw [hR] at hil ⊢
    rw [Nat.min_eq_left hil]
  rw [hR] at hil ho ⊢
  have hol : out.length = i * R := by rw [ho, List.length_take]; omega
  have hm : min (l.length - out.length) R = min ((i + 1) * R) l.length - i * R := by rw [hol, Nat.add_mul]; omega
  have hpl : (ptP size l i).length = min ((i + 1) * R) l.length - i * R := by rw [hp, List.length_take, List.length_drop, Nat.add_mul]; omega
  rw [hm, ← hpl, List.take_left, hp, ho]
  have ht : l.take (i * R) ++ (l.drop (i * R)).take (min ((i + 1) * R) l.length - i * R) = l.take ((i + 1) * R) := by
    rw [← List.take_add]
    rw [show i * R + (min ((i + 1) * R) l.length - i * R) = min ((i + 1) * R) l.length by rw [Nat.add_mul]; omega]
    rw [← List.take_take, List.take_length]
  rw [ht]
theorem recGo_back {kx : Nat → List Int} {lo n size at0 : Nat} {num : Int} {l : List Int} (hs : 64 ≤ size) (hn : 0 ≤ num ∧ num ≤ 18446744073709551615) (hl : l.length ≤ recTop) (hN : ndN size l.length ≤ 65536) (hk : ∀ i, i < ndN size l.length → kx (lo + 2 + (at0 + i) % (n - 2)) = ptS size num l i) :
    ∀ (f k len : Nat), ndN size l.length ≤ k + f → k ≤ ndN size l.length → (k = 0 ∨ len = l.length) → recGo kx lo n size at0 num f k len (l.take (k * (size - 18))) = some l := by
  obtain ⟨N, hNN⟩ : ∃ N, ndN size l.length = N := ⟨_, rfl⟩
  have hN1 : 1 ≤ N := by rw [← hNN]; unfold ndN; omega
  have hfull : l.take (N * (size - 18)) = l := List.take_of_length_le (nd_mul hs (by rw [hNN]; exact Nat.le_refl _))
  rw [hNN] at hN hk ⊢
  have hend : ∀ f len, len = l.length → recGo kx lo n size at0 num f N len (l.take (N * (size - 18))) = some l := fun f len h => by
    have hm : ¬ (N = 0 ∨ N < ndN size len) := by rw [h, hNN]; omega
    cases f with
    | zero => unfold recGo; rw [if_neg hm, hfull]
    | succ f => unfold recGo; rw [if_neg hm, hfull]
  intro f
  induction f with
  | zero =>
    intro k len h1 h2 h3
    obtain rfl : k = N := by omega
    exact hend 0 len (h3.resolve_left (by omega))
  | succ f ih =>
    intro k len h1 h2 h3
    by_cases hkN : k = N
    · subst hkN
      exact hend (f + 1) len (h3.resolve_left (by omega))
    · have hm : k = 0 ∨ k < ndN size len := by
        rcases h3 with h | h
        · exact .inl h
        · exact .inr (by rw [h, hNN]; omega)
      have hil : k * (size - 18) ≤ l.length := by
        by_cases h0 : k = 0
        · rw [h0, Nat.zero_mul]; exact Nat.zero_le _
        · exact Nat.le_of_lt (nd_lt hs (by omega) (by rw [hNN]; omega))
      unfold recGo
      rw [if_pos hm, hk k (by omega), recS_ptS hn (by omega) hl h3 rfl hil]
      exact ih (k + 1) l.length (by omega) (by omega) (.inr rfl)
/-- A record that lies there is read. -/
theorem recF_back {kx : Nat → List Int} {lo n size at0 most : Nat} {num : Int} {l : List Int} (hs : 64 ≤ size) (hn : 0 ≤ num ∧ num ≤ 18446744073709551615) (hl : l.length ≤ recTop) (hN : ndN size l.length ≤ 65536) (hm : ndN size l.length ≤ most) (hk : ∀ i, i < ndN size l.length → kx (lo + 2 + (at0 + i) % (n - 2)) = ptS size num l i) :
    recF kx lo n size at0 num most = some l := by
  unfold recF
  have h := recGo_back hs hn hl hN hk most 0 0 (by omega) (Nat.zero_le _) (.inl rfl)
  rw [Nat.zero_mul, List.take_zero] at h
  exact h
/-- Records that lie one behind the other, from a sector of the area on. -/
def LieAt (kx : Nat → List Int) (lo n size : Nat) : Nat → Int → List (List Int) → Prop
  | _, _, [] => True
  | p, num, l :: r => l.length ≤ recTop ∧ (∀ i, i < ndN size l.length → kx (lo + 2 + (p + i) % (n - 2)) = ptS size num l i) ∧ LieAt kx lo n size (p + ndN size l.length) (num + 1) r
theorem opF_back {kx : Nat → List Int} {lo n size : Nat} (hs : 64 ≤ size) (hn4 : 4 ≤ n) (hn : n ≤ 65536) : ∀ (L : List (List Int)) (p p' : Nat) (num : Int) (left : Nat), 0 ≤ num → num + L.length ≤ 18446744073709551615 → p' % (n - 2) = p % (n - 2) → sumN (ksOf size L) ≤ left → left ≤ n - 2 → LieAt kx lo n size p num L → opF kx lo n size L.length p' num left = some L
  | [], _, _, _, _, _, _, _, _, _, _ => rfl
  | l :: r, p, p', num, left, h0, h1, hp, hsum, hlf, hL => by
    obtain ⟨a1, a2, a3⟩ := hL
    have hsum' : ndN size l.length + sumN (ksOf size r) ≤ left := hsum
    have hmodadd : ∀ i, (p' + i) % (n - 2) = (p + i) % (n - 2) := fun i => by rw [Nat.add_mod, hp, ← Nat.add_mod]
    have h2 : recF kx lo n size p' num left = some l := recF_back hs ⟨h0, by simp at h1; omega⟩ a1 (by omega) (by omega) (fun i hi => by rw [hmodadd]; exact a2 i hi)
    have h3 := opF_back hs hn4 hn r (p + ndN size l.length) ((p' + ndN size l.length) % (n - 2)) (num + 1) (left - ndN size l.length) (by omega) (by simp at h1; omega) (by rw [Nat.mod_mod, hmodadd]) (by omega) (by omega) a3
    show (recF kx lo n size p' num left).bind _ = _
    rw [h2]
    show (opF kx lo n size r.length ((p' + ndN size l.length) % (n - 2)) (num + 1) (left - ndN size l.length)).map _ = _
    rw [h3]
    rfl
end Go.Proofs.Ytlhpdkapddnbcaa
