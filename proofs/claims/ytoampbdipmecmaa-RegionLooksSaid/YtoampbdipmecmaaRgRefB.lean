/- The document's regions: Unmap, Map, Protect, Pages. -/
import Derived.Test.YtoampbdipmecmaaRgRefA
import Derived.Test.YtoampbdipmecmaaFree
import Derived.Test.YtoampbdipmecmaaRgMap2
namespace Go.Proofs.Ytoampbdipmecmaa
open Go.RowKit
theorem rightB_yes {lo hi p : Int} (h1 : 0 ≤ lo) (h2 : lo < hi) (h3 : 0 ≤ p) (h4 : p ≤ 3) : rightB lo hi p = true := by
  unfold rightB protB
  rw [decide_eq_true h1, decide_eq_true h2, decide_eq_true h3, decide_eq_true h4]
  rfl
theorem rightB_iff {lo hi p : Int} (h : rightB lo hi p = true) : 0 ≤ lo ∧ lo < hi ∧ 0 ≤ p ∧ p ≤ 3 := by
  unfold rightB protB at h
  simp only [Bool.and_eq_true, decide_eq_true_eq] at h
  exact h
/-- Has some region a page of the stretch? -/
def usedB (L : List Rg) (lo hi : Int) : Bool := L.any fun r => decide (r.lo < hi) && decide (lo < r.hi)
theorem used_iff {L : List Rg} {lo hi : Int} : usedB L lo hi = true ↔ ∃ r ∈ L, r.lo < hi ∧ lo < r.hi := by
  unfold usedB
  rw [List.any_eq_true]
  constructor
  · rintro ⟨r, h1, h2⟩; exact ⟨r, h1, by simpa using h2⟩
  · rintro ⟨r, h1, h2⟩; exact ⟨r, h1, by simpa using h2⟩
theorem used_pieces {L : List Rg} {lo hi : Int} (hn : NiceL L) (h0 : lo < hi) : usedB L lo hi = false ↔ piecesL L lo hi = [] := by
  rw [pieces_none hn h0]
  constructor
  · intro h r hr e
    have := used_iff.2 ⟨r, hr, e⟩
    rw [h] at this
    cases this
  · intro h
    cases e : usedB L lo hi with
    | false => rfl
    | true =>
      obtain ⟨r, hr, e⟩ := used_iff.1 e
      exact (h r hr e).elim
theorem used_at {L : List Rg} {lo hi : Int} {k : Nat} {r : Rg} (hr : L[k]? = some r) (h1 : r.lo < hi) (h2 : lo < r.hi) : usedB L lo hi = true := used_iff.2 ⟨r, List.mem_of_getElem? hr, h1, h2⟩
theorem used_take {L : List Rg} {lo hi : Int} {k : Nat} {r : Rg} (hr : L[k]? = some r) (h0 : usedB (L.take k) lo hi = false) (h : ¬ (r.lo < hi ∧ lo < r.hi)) : usedB (L.take (k + 1)) lo hi = false := by
  unfold usedB at h0 ⊢
  rw [List.take_add_one, hr, List.any_append, h0]
  have : (decide (r.lo < hi) && decide (lo < r.hi)) = false := by
    cases e : (decide (r.lo < hi) && decide (lo < r.hi)) with
    | false => rfl
    | true => exact (h (by simpa using e)).elim
  simp [this]
set_option linter.unusedSimpArgs false in
set_option linter.unusedVariables false in
set_option maxRecDepth 100000 in
set_option maxHeartbeats 2000000 in
theorem refmap_arg (a : Option Addr) (n c : Nat) (lo hi p : Int) (w : World) (hr : rightB lo hi p = false) :
    Calls Try.prog 20 #[.slice a n c, .int .i64 lo, .int .i64 hi, .int .i64 p] w (GivesRE [] 1 w) := by
  have HR := Lib.hid hr
  clear hr
  by_cases x1 : lo < 0
  · skip
    have d1 : decide (lo < 0) = true := decide_eq_true x1
    go_enter Try.func20, Try.ntmps20
    go_wp2
    refine bodyPost_ret (v := .tuple #[.slice none 0 0, .int .i64 1]) (by simp [results, Try.results20, go_sem]) rfl ?_
    exact ⟨_, rfl, OwnsS.nil _ _ _ _ _, Below.refl _ _⟩
  by_cases x2 : hi ≤ lo
  · skip
    have d1 : decide (lo < 0) = false := decide_eq_false x1
    have d2 : decide (hi ≤ lo) = true := decide_eq_true x2
    go_enter Try.func20, Try.ntmps20
    go_wp2
    refine bodyPost_ret (v := .tuple #[.slice none 0 0, .int .i64 1]) (by simp [results, Try.results20, go_sem]) rfl ?_
    exact ⟨_, rfl, OwnsS.nil _ _ _ _ _, Below.refl _ _⟩
  by_cases x3 : p < 0
  · skip
    have d1 : decide (lo < 0) = false := decide_eq_false x1
    have d2 : decide (hi ≤ lo) = false := decide_eq_false x2
    have d3 : decide (p < 0) = true := decide_eq_true x3
    go_enter Try.func20, Try.ntmps20
    go_wp2
    refine bodyPost_ret (v := .tuple #[.slice none 0 0, .int .i64 1]) (by simp [results, Try.results20, go_sem]) rfl ?_
    exact ⟨_, rfl, OwnsS.nil _ _ _ _ _, Below.refl _ _⟩
  have x4 : 3 < p := by
    rcases Int.lt_or_le 3 p with e | e
    · exact e
    · have := HR.out
      rw [rightB_yes (by omega) (by omega) (by omega) e] at this
      cases this
  have d1 : decide (lo < 0) = false := decide_eq_false x1
  have d2 : decide (hi ≤ lo) = false := decide_eq_false x2
  have d3 : decide (p < 0) = false := decide_eq_false x3
  have d4 : decide (3 < p) = true := decide_eq_true (by omega)
  go_enter Try.func20, Try.ntmps20
  go_wp2
  refine bodyPost_ret (v := .tuple #[.slice none 0 0, .int .i64 1]) (by simp [results, Try.results20, go_sem]) rfl ?_
  exact ⟨_, rfl, OwnsS.nil _ _ _ _ _, Below.refl _ _⟩
set_option linter.unusedSimpArgs false in
set_option linter.unusedVariables false in
set_option maxRecDepth 100000 in
set_option maxHeartbeats 2000000 in
theorem refprotect_arg (a : Option Addr) (n c : Nat) (lo hi p : Int) (w : World) (hr : rightB lo hi p = false) :
    Calls Try.prog 21 #[.slice a n c, .int .i64 lo, .int .i64 hi, .int .i64 p] w (GivesRE [] 1 w) := by
  have HR := Lib.hid hr
  clear hr
  by_cases x1 : lo < 0
  · skip
    have d1 : decide (lo < 0) = true := decide_eq_true x1
    go_enter Try.func21, Try.ntmps21
    go_wp2
    refine bodyPost_ret (v := .tuple #[.slice none 0 0, .int .i64 1]) (by simp [results, Try.results21, go_sem]) rfl ?_
    exact ⟨_, rfl, OwnsS.nil _ _ _ _ _, Below.refl _ _⟩
  by_cases x2 : hi ≤ lo
  · skip
    have d1 : decide (lo < 0) = false := decide_eq_false x1
    have d2 : decide (hi ≤ lo) = true := decide_eq_true x2
    go_enter Try.func21, Try.ntmps21
    go_wp2
    refine bodyPost_ret (v := .tuple #[.slice none 0 0, .int .i64 1]) (by simp [results, Try.results21, go_sem]) rfl ?_
    exact ⟨_, rfl, OwnsS.nil _ _ _ _ _, Below.refl _ _⟩
  by_cases x3 : p < 0
  · skip
    have d1 : decide (lo < 0) = false := decide_eq_false x1
    have d2 : decide (hi ≤ lo) = false := decide_eq_false x2
    have d3 : decide (p < 0) = true := decide_eq_true x3
    go_enter Try.func21, Try.ntmps21
    go_wp2
    refine bodyPost_ret (v := .tuple #[.slice none 0 0, .int .i64 1]) (by simp [results, Try.results21, go_sem]) rfl ?_
    exact ⟨_, rfl, OwnsS.nil _ _ _ _ _, Below.refl _ _⟩
  have x4 : 3 < p := by
    rcases Int.lt_or_le 3 p with e | e
    · exact e
    · have := HR.out
      rw [rightB_yes (by omega) (by omega) (by omega) e] at this
      cases this
  have d1 : decide (lo < 0) = false := decide_eq_false x1
  have d2 : decide (hi ≤ lo) = false := decide_eq_false x2
  have d3 : decide (p < 0) = false := decide_eq_false x3
  have d4 : decide (3 < p) = true := decide_eq_true (by omega)
  go_enter Try.func21, Try.ntmps21
  go_wp2
  refine bodyPost_ret (v := .tuple #[.slice none 0 0, .int .i64 1]) (by simp [results, Try.results21, go_sem]) rfl ?_
  exact ⟨_, rfl, OwnsS.nil _ _ _ _ _, Below.refl _ _⟩
set_option linter.unusedSimpArgs false in
set_option linter.unusedVariables false in
set_option maxRecDepth 100000 in
set_option maxHeartbeats 2000000 in
/-- How the document's Map ends, of a stretch that may be. -/
def GivesRMap (L : List Rg) (lo hi p : Int) (w : World) : Ending → World → Prop := if usedB L lo hi = true then GivesRE [] 3 w else GivesRE (withL L lo hi p) 0 w
theorem gives_rused {L : List Rg} {lo hi p : Int} {w : World} {e : Ending} {w' : World} (h : usedB L lo hi = true) (k : GivesRE [] 3 w e w') : GivesRMap L lo hi p w e w' := by
  unfold GivesRMap; rw [if_pos h]; exact k
theorem gives_rmapped {L : List Rg} {lo hi p : Int} {w : World} {e : Ending} {w' : World} (h : usedB L lo hi = false) (k : GivesRE (withL L lo hi p) 0 w e w') : GivesRMap L lo hi p w e w' := by
  unfold GivesRMap; rw [if_neg (by simp [h])]; exact k
set_option linter.unusedSimpArgs false in
set_option linter.unusedVariables false in
set_option maxRecDepth 100000 in
set_option maxHeartbeats 2000000 in
theorem refmap_yes (a : Option Addr) (n c : Nat) (L : List Rg) (lo hi p : Int) (w : World) (h : RdS Rg.cells 3 w a n c L) (hn : n ≤ 1000) (hw : ∀ r ∈ L, r.Wf) (hlo : (Lit.int .i64 lo).wf = true) (hhi : (Lit.int .i64 hi).wf = true) (hr : rightB lo hi p = true) :
    Calls Try.prog 20 #[.slice a n c, .int .i64 lo, .int .i64 hi, .int .i64 p] w (GivesRMap L lo hi p w) := by
  obtain ⟨r1, r2, r3, r4⟩ := rightB_iff hr
  have d1 : decide (lo < 0) = false := decide_eq_false (by omega)
  have d2 : decide (hi ≤ lo) = false := decide_eq_false (by omega)
  have d3 : decide (p < 0) = false := decide_eq_false (by omega)
  have d4 : decide (3 < p) = false := decide_eq_false (by omega)
  have HWI := Lib.hid (with_any a n c L lo hi p w h hn hw hlo hhi (Go.WalkArith.wf_i64 (by omega)))
  have H := Lib.hid h
  clear h hw hlo hhi hr
  go_enter Try.func20, Try.ntmps20
  go_wp2
  go_loop [10] (fun i => ∃ k : Nat, k ≤ n ∧ i = .int .i64 k ∧ Hid (usedB (L.take k) lo hi = false)) (fun i => n - (intOf i).toNat)
  case atStart => exact ⟨0, by omega, rfl, rfl⟩
  case round =>
    obtain ⟨k, hk, rfl, X⟩ := hrel
    by_cases hkn : k < n
    · have hl := H.out.len
      obtain ⟨r, hr⟩ : ∃ r, L[k]? = some r := ⟨L[k], List.getElem?_eq_getElem (by omega)⟩
      obtain ⟨b, o, ha, c0, c1, c2⟩ := H.out.three k r hr
      subst ha
      have HX := Lib.hid hr
      clear hr hl
      obtain ⟨rlo, rhi, rp⟩ := r
      replace c0 : w.cell? ⟨b, o + k * 3, none⟩ = some (.int .i64 rlo) := c0
      replace c1 : w.cell? ⟨b, o + k * 3 + 1, none⟩ = some (.int .i64 rhi) := c1
      by_cases x1 : rlo < hi
      · by_cases x2 : lo < rhi
        · have HU : Hid (usedB L lo hi = true) := used_at HX.out x1 x2
          have e1 : decide (rlo < hi) = true := decide_eq_true x1
          have e2 : decide (lo < rhi) = true := decide_eq_true x2
          go_wp2
          refine bodyPost_ret (v := .tuple #[.slice none 0 0, .int .i64 3]) (by simp [results, Try.results20, go_sem]) rfl ?_
          exact gives_rused HU.out ⟨_, rfl, OwnsS.nil _ _ _ _ _, Below.refl _ _⟩
        · have HU : Hid (usedB (L.take (k + 1)) lo hi = false) := used_take HX.out X.out (fun e => x2 e.2)
          have e1 : decide (rlo < hi) = true := decide_eq_true x1
          have e2 : decide (lo < rhi) = false := decide_eq_false x2
          go_wp2
          go_round
          case rel => exact ⟨k + 1, by omega, by go_num, HU.out⟩
          case measure => simp [intOf] <;> omega
      · have HU : Hid (usedB (L.take (k + 1)) lo hi = false) := used_take HX.out X.out (fun e => x1 e.1)
        have e1 : decide (rlo < hi) = false := decide_eq_false x1
        go_wp2
        go_round
        case rel => exact ⟨k + 1, by omega, by go_num, HU.out⟩
        case measure => simp [intOf] <;> omega
    · obtain rfl : k = n := by omega
      have hl := H.out.len
      have e : L.take k = L := List.take_of_length_le (by omega)
      rw [e] at X
      clear hl e
      go_wp2_with (go_at_call 36; refine HWI.out.mono ?_; rintro e w' ⟨v, rfl, ho, hb⟩)
      refine bodyPost_ret (v := .tuple #[v, .int .i64 0]) (by simp [results, Try.results20, go_sem]) rfl ?_
      exact gives_rmapped X.out ⟨_, rfl, ho, hb⟩
theorem rerun {L : List Rg} {w w1 w2 : World} {v : Value} (hb : Below w.heap.size w w1) (ho : OwnsS Rg.cells 3 29 w2 w1.heap.size v L) (hb2 : Below w1.heap.size w1 w2) : GivesRE L 0 w (.returned (.tuple #[v, .int .i64 0])) w2 :=
  ⟨v, rfl, ho.mono hb.size, Below.call hb hb2⟩
set_option linter.unusedSimpArgs false in
set_option linter.unusedVariables false in
set_option maxRecDepth 100000 in
set_option maxHeartbeats 2000000 in
theorem refprotect_yes (a : Option Addr) (n c : Nat) (L : List Rg) (lo hi p : Int) (w : World) (h : RdS Rg.cells 3 w a n c L) (hn : n ≤ 1000) (hw : ∀ r ∈ L, r.Wf) (hlo : (Lit.int .i64 lo).wf = true) (hhi : (Lit.int .i64 hi).wf = true) (hr : rightB lo hi p = true) :
    Calls Try.prog 21 #[.slice a n c, .int .i64 lo, .int .i64 hi, .int .i64 p] w (if refAll L lo hi (okW 0) = false then GivesRE [] 2 w else GivesRE (withL L lo hi p) 0 w) := by
  obtain ⟨r1, r2, r3, r4⟩ := rightB_iff hr
  have d1 : decide (lo < 0) = false := decide_eq_false (by omega)
  have d2 : decide (hi ≤ lo) = false := decide_eq_false (by omega)
  have d3 : decide (p < 0) = false := decide_eq_false (by omega)
  have d4 : decide (3 < p) = false := decide_eq_false (by omega)
  have HWI : Hid (∀ w1, Below w.heap.size w w1 → Calls Try.prog 36 #[.slice a n c, .int .i64 lo, .int .i64 hi, .int .i64 p] w1 (GivesRgs (withL L lo hi p) w1)) := fun w1 hb => with_any a n c L lo hi p w1 (h.below hb) hn hw hlo hhi (Go.WalkArith.wf_i64 (by omega))
  have HA := Lib.hid (refall_any a n c L lo hi 0 w h hn hw hlo hhi)
  clear h hw hlo hhi hr
  obtain ⟨AB, hAB⟩ : ∃ x, refAll L lo hi (okW 0) = x := ⟨_, rfl⟩
  rw [hAB] at HA ⊢
  clear hAB
  cases AB with
  | false =>
    rw [if_pos rfl]
    go_enter Try.func21, Try.ntmps21
    go_wp2_with (go_at_call 26; refine HA.out.mono ?_; rintro e w' ⟨rfl, hb⟩)
    refine bodyPost_ret (v := .tuple #[.slice none 0 0, .int .i64 2]) (by simp [results, Try.results21, go_sem]) rfl ?_
    exact ⟨_, rfl, OwnsS.nil _ _ _ _ _, hb⟩
  | true =>
    rw [if_neg (by simp)]
    go_enter Try.func21, Try.ntmps21
    go_wp2_with (first | (go_at_call 26; refine HA.out.mono ?_; rintro e w1 ⟨rfl, hb⟩) | (go_at_call 36; refine (HWI.out _ (by assumption)).mono ?_; rintro e w2 ⟨v, rfl, ho, hb2⟩))
    refine bodyPost_ret (v := .tuple #[v, .int .i64 0]) (by simp [results, Try.results21, go_sem]) rfl ?_
    exact rerun hb ho hb2
set_option linter.unusedSimpArgs false in
set_option linter.unusedVariables false in
set_option maxRecDepth 100000 in
set_option maxHeartbeats 2000000 in
theorem refunmap_any (a : Option Addr) (n c : Nat) (L : List Rg) (lo hi : Int) (w : World) (h : RdS Rg.cells 3 w a n c L) (hn : n ≤ 1000) (hw : ∀ r ∈ L, r.Wf) (hlo : (Lit.int .i64 lo).wf = true) (hhi : (Lit.int .i64 hi).wf = true) :
    Calls Try.prog 22 #[.slice a n c, .int .i64 lo, .int .i64 hi] w (GivesRgs (if hi ≤ lo then L else withL L lo hi (-1)) w) := by
  by_cases h0 : hi ≤ lo
  · rw [if_pos h0]
    have HL : Hid (n < 1000000000000) := by show _ < _; omega
    have H := Lib.hid h
    clear h hw hlo hhi
    go_enter Try.func22, Try.ntmps22
    go_wp2_with (at_builtin; refine appS_all rgC Try.underlying22 rgI rfl (by decide) rfl _ _ rfl _ w.heap.size _ [] rfl (OwnsS.empty _ _ _ _ _ _ _) _ _ _ L rfl (H.out.alloc _) (by have := HL.out; simp; omega) (by simp) ?_; intro x1 w1 ho1 hg0)
    go_ret
    exact ⟨_, rfl, ho1, hg0.fromEmpty⟩
  · rw [if_neg h0]
    have HWI := Lib.hid (with_any a n c L lo hi (-1) w h hn hw hlo hhi (by decide))
    clear h hw hlo hhi
    have d1 : decide (hi ≤ lo) = false := decide_eq_false h0
    go_enter Try.func22, Try.ntmps22
    go_wp2_with (go_at_call 36; refine HWI.out.mono ?_; rintro e w' ⟨v, rfl, ho, hb⟩)
    go_ret
    exact ⟨_, rfl, ho, hb⟩
set_option linter.unusedSimpArgs false in
set_option linter.unusedVariables false in
set_option maxRecDepth 100000 in
set_option maxHeartbeats 2000000 in
theorem refpages_any (a : Option Addr) (n c : Nat) (L : List Rg) (w : World) (h : RdS Rg.cells 3 w a n c L) (hs : ∀ r ∈ L, r.Sm) (hn : n ≤ 1000) :
    Calls Try.prog 25 #[.slice a n c] w fun e w' => e = .returned (.int .i64 (pagesN L)) ∧ Below w.heap.size w w' := by
  have H := Lib.hid h
  have HS := Lib.hid hs
  clear h hs
  go_enter Try.func25, Try.ntmps25
  go_wp2_with fail
  go_loopw [3, 4] (fun s i wr => ∃ k : Nat, k ≤ n ∧ i = .int .i64 k ∧ s = .int .i64 (pagesN (L.take k)) ∧ Hid (Below w.heap.size w wr)) (fun _ i _ => n - (intOf i).toNat)
  case atStart => exact ⟨0, by omega, rfl, rfl, Below.refl _ _⟩
  case round =>
    obtain ⟨k, hk, rfl, rfl, B⟩ := hrel
    by_cases hkn : k < n
    · have hl := H.out.len
      obtain ⟨r, hr⟩ : ∃ r, L[k]? = some r := ⟨L[k], List.getElem?_eq_getElem (by omega)⟩
      obtain ⟨b, o, ha, c0, c1, c2⟩ := (H.out.below B.out).three k r hr
      subst ha
      have hsm := HS.out r (List.mem_of_getElem? hr)
      obtain ⟨s1, s2⟩ := hsm.lo
      obtain ⟨s3, s4⟩ := hsm.hi
      have hb := pagesN_bd (L.take k) (fun s hs => HS.out s (List.mem_of_mem_take hs))
      have hlk : (L.take k).length ≤ 1000 := by rw [List.length_take]; omega
      have HN := Lib.hid (pagesN_take hr)
      obtain ⟨S, hS⟩ : ∃ S, pagesN (L.take k) = S := ⟨_, rfl⟩
      rw [hS] at HN hb ⊢
      have hb1 : -1099511627776000 ≤ S ∧ S ≤ 1099511627776000 := by omega
      obtain ⟨hb2, hb3⟩ := hb1
      clear hS hb hlk hr hsm hl
      have hw1 : IntKind.i64.wrap (S + r.hi) = S + r.hi := IntWalk.i64_in _ (by omega)
      have hw2 : IntKind.i64.wrap (S + r.hi - r.lo) = S + r.hi - r.lo := IntWalk.i64_in _ (by omega)
      go_wp2
      go_quiet (fail)
      go_wp2
      go_roundw
      case rel => exact ⟨k + 1, by omega, by go_num, by rw [HN.out]; congr 1; omega, Below.call B.out (belowN (Below.refl _ _) _)⟩
      case measure => simp [intOf] <;> omega
    · obtain rfl : k = n := by omega
      have hl := H.out.len
      have e : L.take k = L := List.take_of_length_le (by omega)
      rw [e]
      clear hl e
      go_wp2
      go_ret
      exact ⟨rfl, B.out⟩
end Go.Proofs.Ytoampbdipmecmaa
