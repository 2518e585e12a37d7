/- The document's regions: with. -/
import Derived.Test.YtoampbdipmecmaaRgMade
import Derived.WalkArith
namespace Go.Proofs.Ytoampbdipmecmaa
open Go.RowKit
theorem insU_le (x : Int) : ∀ l : List Int, (insU x l).length ≤ l.length + 1
  | [] => by simp [insU]
  | c :: l => by
    have h := insU_le x l
    unfold insU
    split
    · simp; omega
    · split <;> simp
theorem cutsA_le : ∀ (all out : List Int), (all.foldl (fun out x => insU x out) out).length ≤ out.length + all.length
  | [], out => by simp
  | x :: all, out => by
    have h1 := cutsA_le all (insU x out)
    have h2 := insU_le x out
    rw [List.foldl_cons, List.length_cons]
    omega
theorem cutsL_le (L : List Rg) (more : List Int) : (cutsL L more).length ≤ more.length + 2 * L.length := by
  have h := cutsA_le (more ++ endsL L) []
  rw [List.length_append, endsL_len] at h
  unfold cutsL cutsA
  rw [List.length_nil] at h
  omega
theorem pf_wf : ∀ {L : List Rg} (x : Int), (∀ r ∈ L, r.Wf) → (Lit.int .i64 (pf L x)).wf = true
  | [], x, _ => by show (Lit.int .i64 (-1)).wf = true; decide
  | r :: L, x, h => by
    unfold pf
    split
    · exact Go.WalkArith.wf_i64 (h r (List.mem_cons_self ..)).p
    · exact pf_wf x (fun s hs => h s (List.mem_cons_of_mem _ hs))
theorem map_take_one (f : Int → Int) {A : List Int} {k : Nat} {x : Int} (hx : A[k]? = some x) : (A.take (k + 1)).map f = (A.take k).map f ++ [f x] := by
  rw [List.take_add_one, hx, List.map_append]
  rfl
set_option linter.unusedSimpArgs false in
set_option linter.unusedVariables false in
set_option maxRecDepth 100000 in
set_option maxHeartbeats 2000000 in
theorem with_any (a : Option Addr) (n c : Nat) (L : List Rg) (lo hi how : Int) (w : World) (h : RdS Rg.cells 3 w a n c L) (hn : n ≤ 1000) (hw : ∀ r ∈ L, r.Wf) (hlo : (Lit.int .i64 lo).wf = true) (hhi : (Lit.int .i64 hi).wf = true) (hhow : (Lit.int .i64 how).wf = true) :
    Calls Try.prog 36 #[.slice a n c, .int .i64 lo, .int .i64 hi, .int .i64 how] w (GivesRgs (withL L lo hi how) w) := by
  have H := Lib.hid h
  have HW := Lib.hid hw
  have HLO := Lib.hid hlo
  have HHI := Lib.hid hhi
  have HHOW := Lib.hid hhow
  clear h hw hlo hhi hhow
  have hba := below_a w (.cells #[.int .i64 lo, .int .i64 hi] 3)
  have hrow := heap_alloc_new w (.cells #[.int .i64 lo, .int .i64 hi] 3)
  have HC : Hid (∀ w1, w.alloc (.cells #[.int .i64 lo, .int .i64 hi] 3) = w1 → Calls Try.prog 33 #[.slice a n c, .slice (some ⟨w.heap.size, 0, none⟩) 2 2] w1 (GivesInts (cutsL L [lo, hi]) w1)) := by
    intro w1 hw1
    rw [hw1] at hba hrow
    exact cuts_any a n c L _ _ _ [lo, hi] w1 (H.out.below hba) hn HW.out (rd_row2 hrow HLO.out HHI.out) (Nat.le_refl _)
  go_enter Try.func36, Try.ntmps36
  go_wp2_with (go_at_call 33; refine (HC.out _ rfl).mono ?_; rintro e w1 ⟨v1, rfl, ho1, hb1⟩)
  have hl1 := cutsL_le L [lo, hi]
  have hmem : (cutsL L [lo, hi]).length ≠ 0 := fun e => by
    have := (cutsL_mem (l := L) (more := [lo, hi]) (c := lo)).2 (.inl (by simp))
    rw [List.length_eq_zero_iff.1 e] at this
    cases this
  obtain ⟨A, hA⟩ : ∃ A, cutsL L [lo, hi] = A := ⟨_, rfl⟩
  have HGOAL : Hid (withL L lo hi how = madeL (withF L lo hi how) A) := by show _ = _; rw [← hA]; rfl
  rw [hA] at ho1 hl1 hmem
  obtain ⟨q, hq⟩ : ∃ q, A.length = q := ⟨_, rfl⟩
  obtain ⟨aq, cq, rfl⟩ := ho1.shapeN q hq
  have O1 := Lib.hid ho1
  have B1 : Hid (Below w.heap.size w w1) := Below.call (below_a w _) hb1
  have HLL := H.out.len
  have hq0 : q ≠ 0 := by omega
  have hqb : q ≤ 2002 := by simp at hl1; omega
  have HQ := Lib.hid hq
  have HR1 : Hid (RdS Rg.cells 3 w1 a n c L) := H.out.below B1.out
  obtain ⟨F, hF⟩ : ∃ F, withF L lo hi how = F := ⟨_, rfl⟩
  rw [hF] at HGOAL
  have HF := Lib.hid hF
  clear hba hrow HC ho1 hb1 hl1 hmem hA hq HLL hF
  go_loopw [10, 11] (fun v i wr => ∃ k : Nat, k + 1 ≤ q ∧ i = .int .i64 k ∧ Hid (Owns .i64 3 wr w1.heap.size v ((A.take k).map F) ∧ Below w1.heap.size w1 wr)) (fun _ i _ => q - (intOf i).toNat)
  case atStart => exact ⟨0, by omega, rfl, Owns.nil _ _ _ _, Below.refl _ _⟩
  case round =>
    obtain ⟨k, hk, rfl, hh⟩ := hrel
    obtain ⟨h1, h2⟩ := hh.out
    have X := Lib.hid h1
    have B := Lib.hid h2
    clear hh h1 h2
    have hk1w : IntKind.i64.wrap ((k : Int) + 1) = (k : Int) + 1 := IntWalk.i64_in _ (by omega)
    by_cases hkn : k + 1 < q
    · have hkn0 : k < q := by omega
      have hkci : decide ((k : Int) + 1 < (q : Int)) = true := decide_eq_true (by omega)
      have hl := HQ.out
      obtain ⟨x, hx⟩ : ∃ x, A[k]? = some x := ⟨A[k], List.getElem?_eq_getElem (by omega)⟩
      obtain ⟨g, o, ea, c0⟩ := ((O1.out.rd).below B.out).cell k (by omega)
      subst ea
      rw [show nth A k = x by unfold nth; rw [List.getD_eq_getElem?_getD, hx]; rfl] at c0
      have HE : Hid ((A.take (k + 1)).map F = (A.take k).map F ++ [F x]) := map_take_one F hx
      have hjl : ((A.take k).map F).length ≤ 2002 := by simp; omega
      have HJL := Lib.hid hjl
      by_cases hin : lo ≤ x ∧ x < hi
      · have hi1 : decide (lo ≤ x) = true := decide_eq_true hin.1
        have hi2 : decide (x < hi) = true := decide_eq_true hin.2
        have HFX : Hid (F x = how) := by show _ = _; rw [← HF.out]; unfold withF; rw [if_pos hin]
        clear hx hl hin hjl
        go_wp2_with (at_builtin; refine app_one intT intI (by decide) rfl (.tmp 38) (.tmp 40) rfl _ w1.heap.size _ ((A.take k).map F) rfl X.out how rfl HHOW.out (by have := HJL.out; omega) B.out.size ?_; intro v2 w2 ho2 hg2)
        go_roundw
        case rel =>
          refine ⟨k + 1, by omega, by go_num, ?_, B.out.trans (hg2.below B.out.size (fun y e => (X.out.at_base y e).1))⟩
          rw [HE.out, HFX.out]
          exact ho2
        case measure => simp [intOf] <;> omega
      · have HFX : Hid (F x = pf L x) := by show _ = _; rw [← HF.out]; unfold withF; rw [if_neg hin]
        have HPW : Hid ((Lit.int .i64 (pf L x)).wf = true) := pf_wf x HW.out
        have HPC : Hid (∀ w2, w2 = wr → Calls Try.prog 37 #[.slice a n c, .int .i64 x] w2 fun e w' => e = .returned (.int .i64 (pf L x)) ∧ w2 = w') := fun w2 e => refprot_any a n c L x w2 (by rw [e]; exact HR1.out.below B.out) hn
        obtain ⟨px, hpx⟩ : ∃ px, pf L x = px := ⟨_, rfl⟩
        rw [hpx] at HFX HPW HPC
        clear hx hl hjl hpx
        by_cases hi1 : lo ≤ x
        · have hi2 : decide (x < hi) = false := decide_eq_false (fun e => hin ⟨hi1, e⟩)
          have hi1 : decide (lo ≤ x) = true := decide_eq_true hi1
          clear hin
          go_wp2_with (first | (go_at_call 37; refine (HPC.out _ rfl).mono ?_; rintro e w' ⟨rfl, rfl⟩) | (at_builtin; refine app_one intT intI (by decide) rfl (.tmp 42) (.tmp 49) rfl _ w1.heap.size _ ((A.take k).map F) rfl X.out px rfl HPW.out (by have := HJL.out; omega) B.out.size ?_; intro v2 w2 ho2 hg2))
          go_roundw
          case rel =>
            refine ⟨k + 1, by omega, by go_num, ?_, B.out.trans (hg2.below B.out.size (fun y e => (X.out.at_base y e).1))⟩
            rw [HE.out, HFX.out]
            exact ho2
          case measure => simp [intOf] <;> omega
        · have hi1 : decide (lo ≤ x) = false := decide_eq_false hi1
          clear hin
          go_wp2_with (first | (go_at_call 37; refine (HPC.out _ rfl).mono ?_; rintro e w' ⟨rfl, rfl⟩) | (at_builtin; refine app_one intT intI (by decide) rfl (.tmp 42) (.tmp 49) rfl _ w1.heap.size _ ((A.take k).map F) rfl X.out px rfl HPW.out (by have := HJL.out; omega) B.out.size ?_; intro v2 w2 ho2 hg2))
          go_roundw
          case rel =>
            refine ⟨k + 1, by omega, by go_num, ?_, B.out.trans (hg2.below B.out.size (fun y e => (X.out.at_base y e).1))⟩
            rw [HE.out, HFX.out]
            exact ho2
          case measure => simp [intOf] <;> omega
    · obtain rfl : q = k + 1 := by omega
      have hkci : decide ((k : Int) + 1 < ((k + 1 : Nat) : Int)) = false := decide_eq_false (by omega)
      have hl := HQ.out
      have e : A.take k = A.dropLast := by rw [List.dropLast_eq_take, hl, Nat.add_sub_cancel]
      rw [e] at X
      have hpl : (A.dropLast.map F).length = k := by simp [hl]
      obtain ⟨ap, cp, rfl⟩ := X.out.shapeN k hpl
      have HM : Hid (∀ w2, w2 = wr → Calls Try.prog 34 #[.slice aq (k + 1) cq, .slice ap k cp] w2 (GivesRgs (madeL F A) w2)) := fun w2 e => by
        subst e
        exact made_any aq (k + 1) cq A ap k cp F w2 ((O1.out.rd).below B.out) X.out.rd (by omega)
      clear hl e hpl
      go_wp2_with (go_at_call 34; refine (HM.out _ rfl).mono ?_; rintro e w4 ⟨v4, rfl, ho4, hb4⟩)
      go_ret
      rw [HGOAL.out]
      have hb : Below w.heap.size w wr := Below.call B1.out B.out
      exact ⟨_, rfl, ho4.mono hb.size, Below.call hb hb4⟩
end Go.Proofs.Ytoampbdipmecmaa
