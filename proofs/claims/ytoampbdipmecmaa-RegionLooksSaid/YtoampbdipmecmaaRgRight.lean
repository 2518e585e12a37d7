/- region: Right; the document's. -/
import Derived.Test.YtoampbdipmecmaaRgRefC
namespace Go.Proofs.Ytoampbdipmecmaa
open Go.RowKit
/-- May a region be? -/
def rightOne (pages : Int) (r : Rg) : Bool := decide (0 ≤ r.lo) && (decide (r.lo < r.hi) && (decide (r.hi ≤ pages) && (decide (0 ≤ r.p) && decide (r.p ≤ 3))))
/-- May it be behind this one? -/
def rightTwo (q : Option Rg) (r : Rg) : Bool := match q with | none => true | some q => !decide (r.lo < q.hi) && !(decide (q.hi = r.lo) && decide (q.p = r.p))
def rightGo (pages : Int) : Option Rg → List Rg → Bool
  | _, [] => true
  | q, r :: l => rightOne pages r && (rightTwo q r && rightGo pages (some r) l)
def rightL (L : List Rg) (pages : Int) : Bool := rightGo pages none L
def prevK (L : List Rg) : Nat → Option Rg
  | 0 => none
  | k + 1 => L[k]?
theorem right_step {L : List Rg} {pages : Int} {k : Nat} {r : Rg} (hr : L[k]? = some r) : rightGo pages (prevK L k) (L.drop k) = (rightOne pages r && (rightTwo (prevK L k) r && rightGo pages (prevK L (k + 1)) (L.drop (k + 1)))) := by
  rw [drop_at hr, rightGo]
  show _ = (rightOne pages r && (rightTwo (prevK L k) r && rightGo pages (L[k]?) (L.drop (k + 1))))
  rw [hr]
set_option linter.unusedSimpArgs false in
set_option linter.unusedVariables false in
set_option maxRecDepth 100000 in
set_option maxHeartbeats 2000000 in
theorem rightR_any (a : Option Addr) (n c : Nat) (L : List Rg) (pages : Int) (w : World) (h : RdS Rg.cells 3 w a n c L) (hn : n ≤ 1000) :
    Calls Try.prog 18 #[.slice a n c, .int .i64 pages] w fun e w' => e = .returned (.bool (rightL L pages)) ∧ Below w.heap.size w w' := by
  have H := Lib.hid h
  clear h
  go_enter Try.func18, Try.ntmps18
  go_wp2
  go_loopw [9] (fun i wr => ∃ k : Nat, k ≤ n ∧ i = .int .i64 k ∧ Hid (Below w.heap.size w wr ∧ rightL L pages = rightGo pages (prevK L k) (L.drop k))) (fun i _ => n - (intOf i).toNat)
  case atStart => exact ⟨0, by omega, rfl, Below.refl _ _, rfl⟩
  case round =>
    obtain ⟨k, hk, rfl, hh⟩ := hrel
    obtain ⟨h1, h2⟩ := hh.out
    have B := Lib.hid h1
    have F := Lib.hid h2
    clear hh h1 h2
    by_cases hkn : k < n
    · have hl := H.out.len
      obtain ⟨r, hr⟩ : ∃ r, L[k]? = some r := ⟨L[k], List.getElem?_eq_getElem (by omega)⟩
      obtain ⟨b, o, ha, c0, c1, c2⟩ := (H.out.below B.out).three k r hr
      subst ha
      have HE : Hid (rightL L pages = (rightOne pages r && (rightTwo (prevK L k) r && rightGo pages (prevK L (k + 1)) (L.drop (k + 1))))) := by show _ = _; rw [F.out]; exact right_step hr
      clear hr hl
      obtain ⟨rlo, rhi, rp⟩ := r
      replace c0 : wr.cell? ⟨b, o + k * 3, none⟩ = some (.int .i64 rlo) := c0
      replace c1 : wr.cell? ⟨b, o + k * 3 + 1, none⟩ = some (.int .i64 rhi) := c1
      replace c2 : wr.cell? ⟨b, o + k * 3 + 2, none⟩ = some (.int .i64 rp) := c2
      have HO : Hid (rightOne pages ⟨rlo, rhi, rp⟩ = (decide (0 ≤ rlo) && (decide (rlo < rhi) && (decide (rhi ≤ pages) && (decide (0 ≤ rp) && decide (rp ≤ 3)))))) := rfl
      have hb4 := below_a wr (.cells #[.int .i64 rlo, .int .i64 rhi, .int .i64 rp] 29)
      have hbox := heap_alloc_new wr (.cells #[.int .i64 rlo, .int .i64 rhi, .int .i64 rp] 29)
      obtain ⟨w4, hw4⟩ : ∃ w4, wr.alloc (.cells #[.int .i64 rlo, .int .i64 rhi, .int .i64 rp] 29) = w4 := ⟨_, rfl⟩
      obtain ⟨xb, hxb⟩ : ∃ xb, wr.heap.size = xb := ⟨_, rfl⟩
      rw [hw4] at hb4 hbox
      rw [hxb] at hbox
      have B4 := Lib.hid (Below.call B.out hb4)
      have HB4 := Lib.hid hb4
      obtain ⟨p0, p1, p2⟩ := cells3 hbox
      clear hb4 hbox
      obtain ⟨PB, hPB⟩ : ∃ x, protB rp = x := ⟨_, rfl⟩
      have HP : Hid (∀ w, Calls Try.prog 35 #[.int .i64 rp] w fun e w' => e = .returned (.bool PB) ∧ w = w') := fun w => by rw [← hPB]; exact prot_any rp w
      by_cases x1 : rlo < 0
      · skip
        have HN : Hid (rightL L pages = false) := by show _ = _; rw [HE.out, HO.out, decide_eq_false (show ¬ 0 ≤ rlo by omega)]; simp
        have d1 : decide (rlo < 0) = true := decide_eq_true x1
        go_wp2_with (first | (rw [hw4]) | (go_at_call 35; refine (HP.out _).mono ?_; rintro e w' ⟨rfl, rfl⟩))
        go_ret
        rw [HN.out]
        exact ⟨rfl, B4.out⟩
      have d1 : decide (rlo < 0) = false := decide_eq_false x1
      by_cases x2 : rhi ≤ rlo
      · skip
        have HN : Hid (rightL L pages = false) := by show _ = _; rw [HE.out, HO.out, decide_eq_false (show ¬ rlo < rhi by omega)]; simp
        have d2 : decide (rhi ≤ rlo) = true := decide_eq_true x2
        go_wp2_with (first | (rw [hw4]) | (go_at_call 35; refine (HP.out _).mono ?_; rintro e w' ⟨rfl, rfl⟩))
        go_ret
        rw [HN.out]
        exact ⟨rfl, B4.out⟩
      have d2 : decide (rhi ≤ rlo) = false := decide_eq_false x2
      by_cases x3 : pages < rhi
      · skip
        have HN : Hid (rightL L pages = false) := by show _ = _; rw [HE.out, HO.out, decide_eq_false (show ¬ rhi ≤ pages by omega)]; simp
        have d3 : decide (pages < rhi) = true := decide_eq_true x3
        go_wp2_with (first | (rw [hw4]) | (go_at_call 35; refine (HP.out _).mono ?_; rintro e w' ⟨rfl, rfl⟩))
        go_ret
        rw [HN.out]
        exact ⟨rfl, B4.out⟩
      have d3 : decide (pages < rhi) = false := decide_eq_false x3
      have HPD : Hid ((decide (0 ≤ rp) && decide (rp ≤ 3)) = PB) := hPB
      clear hPB
      by_cases x4 : PB = false
      · subst x4
        have HN : Hid (rightL L pages = false) := by show _ = _; rw [HE.out, HO.out, HPD.out]; simp
        go_wp2_with (first | (rw [hw4]) | (go_at_call 35; refine (HP.out _).mono ?_; rintro e w' ⟨rfl, rfl⟩))
        go_ret
        rw [HN.out]
        exact ⟨rfl, B4.out⟩
      obtain rfl : PB = true := by simpa using x4
      clear x4
      have hpp : 0 ≤ rp ∧ rp ≤ 3 := by simpa using HPD.out
      have HOK : Hid (rightL L pages = (rightTwo (prevK L k) ⟨rlo, rhi, rp⟩ && rightGo pages (prevK L (k + 1)) (L.drop (k + 1)))) := by show _ = _; rw [HE.out, HO.out, decide_eq_true (show 0 ≤ rlo by omega), decide_eq_true (show rlo < rhi by omega), decide_eq_true (show rhi ≤ pages by omega), decide_eq_true (show 0 ≤ rp by omega), decide_eq_true (show rp ≤ 3 by omega)]; rfl
      clear hpp
      clear x1 x2 x3
      cases k with
      | zero =>
        rw [Nat.zero_mul, Nat.add_zero] at c0 c1 c2
        have HX : Hid (rightL L pages = rightGo pages (prevK L (0 + 1)) (L.drop (0 + 1))) := HOK.out
        have hd0 : decide ((0 : Int) < 0) = false := rfl
        go_wp2_with (first | (rw [hw4]) | (go_at_call 35; refine (HP.out _).mono ?_; rintro e w' ⟨rfl, rfl⟩))
        go_quiet (fail)
        go_wp2
        go_roundw
        case rel => exact ⟨0 + 1, by omega, by go_num, Below.call B4.out (belowN (Below.refl _ _) _), HX.out⟩
        case measure => simp [intOf] <;> omega
      | succ j =>
        obtain ⟨q, hq⟩ : ∃ q, L[j]? = some q := ⟨L[j]'(by have := H.out.len; omega), List.getElem?_eq_getElem (by have := H.out.len; omega)⟩
        obtain ⟨b', o', ha', z0, z1, z2⟩ := (H.out.below B4.out).three j q hq
        injection ha' with ha'
        injection ha' with e1 e2
        subst e1 e2
        have HT : Hid (rightTwo (prevK L (j + 1)) ⟨rlo, rhi, rp⟩ = (!decide (rlo < q.hi) && !(decide (q.hi = rlo) && decide (q.p = rp)))) := by show rightTwo L[j]? _ = _; rw [hq]; rfl
        clear hq
        obtain ⟨qlo, qhi, qp⟩ := q
        replace z1 : w4.cell? ⟨b, o + j * 3 + 1, none⟩ = some (.int .i64 qhi) := z1
        replace z2 : w4.cell? ⟨b, o + j * 3 + 2, none⟩ = some (.int .i64 qp) := z2
        replace HT : Hid (rightTwo (prevK L (j + 1)) ⟨rlo, rhi, rp⟩ = (!decide (rlo < qhi) && !(decide (qhi = rlo) && decide (qp = rp)))) := HT
        by_cases y1 : rlo < qhi
        · skip
          have HX : Hid (rightL L pages = false) := by show _ = _; rw [HOK.out, HT.out, decide_eq_true y1]; rfl
          have e1 : decide (rlo < qhi) = true := decide_eq_true y1
          go_wp2_with (first | (rw [hw4]) | (go_at_call 35; refine (HP.out _).mono ?_; rintro e w' ⟨rfl, rfl⟩))
          go_quiet (fail)
          go_wp2
          go_ret
          rw [HX.out]
          exact ⟨rfl, Below.call B4.out (belowN (Below.refl _ _) _)⟩
        have e1 : decide (rlo < qhi) = false := decide_eq_false y1
        by_cases y2 : qhi = rlo
        · by_cases y3 : qp = rp
          · skip
            have HX : Hid (rightL L pages = false) := by show _ = _; rw [HOK.out, HT.out, e1, decide_eq_true y2, decide_eq_true y3]; rfl
            subst y2 y3
            go_wp2_with (first | (rw [hw4]) | (go_at_call 35; refine (HP.out _).mono ?_; rintro e w' ⟨rfl, rfl⟩))
            go_quiet (fail)
            go_wp2
            go_ret
            rw [HX.out]
            exact ⟨rfl, Below.call B4.out (belowN (Below.refl _ _) _)⟩
          · skip
            have HX : Hid (rightL L pages = rightGo pages (prevK L (j + 1 + 1)) (L.drop (j + 1 + 1))) := by show _ = _; rw [HOK.out, HT.out, e1, decide_eq_true y2, decide_eq_false y3]; rfl
            have e3 : (rp == qp) = false := by simpa using (fun e => y3 e.symm)
            subst y2
            clear y3
            go_wp2_with (first | (rw [hw4]) | (go_at_call 35; refine (HP.out _).mono ?_; rintro e w' ⟨rfl, rfl⟩))
            go_quiet (fail)
            go_wp2
            go_roundw
            case rel => exact ⟨j + 1 + 1, by omega, by go_num, Below.call B4.out (belowN (Below.refl _ _) _), HX.out⟩
            case measure => simp [intOf] <;> omega
        have HX : Hid (rightL L pages = rightGo pages (prevK L (j + 1 + 1)) (L.drop (j + 1 + 1))) := by show _ = _; rw [HOK.out, HT.out, e1, decide_eq_false y2]; rfl
        have e2 : (rlo == qhi) = false := by simpa using (fun e => y2 e.symm)
        clear y2
        go_wp2_with (first | (rw [hw4]) | (go_at_call 35; refine (HP.out _).mono ?_; rintro e w' ⟨rfl, rfl⟩))
        go_quiet (fail)
        go_wp2
        go_roundw
        case rel => exact ⟨j + 1 + 1, by omega, by go_num, Below.call B4.out (belowN (Below.refl _ _) _), HX.out⟩
        case measure => simp [intOf] <;> omega
    · obtain rfl : k = n := by omega
      have hl := H.out.len
      have HX : Hid (rightL L pages = true) := by show _ = _; rw [F.out, List.drop_of_length_le (by omega)]; cases prevK L k <;> rfl
      clear hl
      go_wp2
      go_ret
      rw [HX.out]
      exact ⟨rfl, B.out⟩
set_option linter.unusedSimpArgs false in
set_option linter.unusedVariables false in
set_option maxRecDepth 100000 in
set_option maxHeartbeats 2000000 in
theorem refright_any (a : Option Addr) (n c : Nat) (L : List Rg) (pages : Int) (w : World) (h : RdS Rg.cells 3 w a n c L) (hn : n ≤ 1000) :
    Calls Try.prog 19 #[.slice a n c, .int .i64 pages] w fun e w' => e = .returned (.bool (rightL L pages)) ∧ Below w.heap.size w w' := by
  have H := Lib.hid h
  clear h
  go_enter Try.func19, Try.ntmps19
  go_wp2
  go_loopw [5] (fun i wr => ∃ k : Nat, k ≤ n ∧ i = .int .i64 k ∧ Hid (Below w.heap.size w wr ∧ rightL L pages = rightGo pages (prevK L k) (L.drop k))) (fun i _ => n - (intOf i).toNat)
  case atStart => exact ⟨0, by omega, rfl, Below.refl _ _, rfl⟩
  case round =>
    obtain ⟨k, hk, rfl, hh⟩ := hrel
    obtain ⟨h1, h2⟩ := hh.out
    have B := Lib.hid h1
    have F := Lib.hid h2
    clear hh h1 h2
    by_cases hkn : k < n
    · have hl := H.out.len
      obtain ⟨r, hr⟩ : ∃ r, L[k]? = some r := ⟨L[k], List.getElem?_eq_getElem (by omega)⟩
      obtain ⟨b, o, ha, c0, c1, c2⟩ := (H.out.below B.out).three k r hr
      subst ha
      have HE : Hid (rightL L pages = (rightOne pages r && (rightTwo (prevK L k) r && rightGo pages (prevK L (k + 1)) (L.drop (k + 1))))) := by show _ = _; rw [F.out]; exact right_step hr
      clear hr hl
      obtain ⟨rlo, rhi, rp⟩ := r
      replace c0 : wr.cell? ⟨b, o + k * 3, none⟩ = some (.int .i64 rlo) := c0
      replace c1 : wr.cell? ⟨b, o + k * 3 + 1, none⟩ = some (.int .i64 rhi) := c1
      replace c2 : wr.cell? ⟨b, o + k * 3 + 2, none⟩ = some (.int .i64 rp) := c2
      have HO : Hid (rightOne pages ⟨rlo, rhi, rp⟩ = (decide (0 ≤ rlo) && (decide (rlo < rhi) && (decide (rhi ≤ pages) && (decide (0 ≤ rp) && decide (rp ≤ 3)))))) := rfl
      have hb4 := below_a wr (.cells #[.int .i64 rlo, .int .i64 rhi, .int .i64 rp] 29)
      have hbox := heap_alloc_new wr (.cells #[.int .i64 rlo, .int .i64 rhi, .int .i64 rp] 29)
      obtain ⟨w4, hw4⟩ : ∃ w4, wr.alloc (.cells #[.int .i64 rlo, .int .i64 rhi, .int .i64 rp] 29) = w4 := ⟨_, rfl⟩
      obtain ⟨xb, hxb⟩ : ∃ xb, wr.heap.size = xb := ⟨_, rfl⟩
      rw [hw4] at hb4 hbox
      rw [hxb] at hbox
      have B4 := Lib.hid (Below.call B.out hb4)
      have HB4 := Lib.hid hb4
      obtain ⟨p0, p1, p2⟩ := cells3 hbox
      clear hb4 hbox
      obtain ⟨PB, hPB⟩ : ∃ x, protB rp = x := ⟨_, rfl⟩
      by_cases x1 : rlo < 0
      · skip
        have HN : Hid (rightL L pages = false) := by show _ = _; rw [HE.out, HO.out, decide_eq_false (show ¬ 0 ≤ rlo by omega)]; simp
        have d1 : decide (rlo < 0) = true := decide_eq_true x1
        go_wp2_with (rw [hw4])
        go_ret
        rw [HN.out]
        exact ⟨rfl, B4.out⟩
      have d1 : decide (rlo < 0) = false := decide_eq_false x1
      by_cases x2 : rhi ≤ rlo
      · skip
        have HN : Hid (rightL L pages = false) := by show _ = _; rw [HE.out, HO.out, decide_eq_false (show ¬ rlo < rhi by omega)]; simp
        have d2 : decide (rhi ≤ rlo) = true := decide_eq_true x2
        go_wp2_with (rw [hw4])
        go_ret
        rw [HN.out]
        exact ⟨rfl, B4.out⟩
      have d2 : decide (rhi ≤ rlo) = false := decide_eq_false x2
      by_cases x3 : pages < rhi
      · skip
        have HN : Hid (rightL L pages = false) := by show _ = _; rw [HE.out, HO.out, decide_eq_false (show ¬ rhi ≤ pages by omega)]; simp
        have d3 : decide (pages < rhi) = true := decide_eq_true x3
        go_wp2_with (rw [hw4])
        go_ret
        rw [HN.out]
        exact ⟨rfl, B4.out⟩
      have d3 : decide (pages < rhi) = false := decide_eq_false x3
      by_cases x4 : rp < 0
      · skip
        have HN : Hid (rightL L pages = false) := by show _ = _; rw [HE.out, HO.out, decide_eq_false (show ¬ 0 ≤ rp by omega)]; simp
        have d4 : decide (rp < 0) = true := decide_eq_true x4
        go_wp2_with (rw [hw4])
        go_ret
        rw [HN.out]
        exact ⟨rfl, B4.out⟩
      have d4 : decide (rp < 0) = false := decide_eq_false x4
      by_cases x5 : 3 < rp
      · skip
        have HN : Hid (rightL L pages = false) := by show _ = _; rw [HE.out, HO.out, decide_eq_false (show ¬ rp ≤ 3 by omega)]; simp
        have d5 : decide (3 < rp) = true := decide_eq_true x5
        go_wp2_with (rw [hw4])
        go_ret
        rw [HN.out]
        exact ⟨rfl, B4.out⟩
      have d5 : decide (3 < rp) = false := decide_eq_false x5
      have HOK : Hid (rightL L pages = (rightTwo (prevK L k) ⟨rlo, rhi, rp⟩ && rightGo pages (prevK L (k + 1)) (L.drop (k + 1)))) := by show _ = _; rw [HE.out, HO.out, decide_eq_true (show 0 ≤ rlo by omega), decide_eq_true (show rlo < rhi by omega), decide_eq_true (show rhi ≤ pages by omega), decide_eq_true (show 0 ≤ rp by omega), decide_eq_true (show rp ≤ 3 by omega)]; rfl
      clear x1 x2 x3 x4 x5
      cases k with
      | zero =>
        rw [Nat.zero_mul, Nat.add_zero] at c0 c1 c2
        have HX : Hid (rightL L pages = rightGo pages (prevK L (0 + 1)) (L.drop (0 + 1))) := HOK.out
        have hd0 : decide ((0 : Int) < 0) = false := rfl
        go_wp2_with (rw [hw4])
        go_quiet (fail)
        go_wp2
        go_roundw
        case rel => exact ⟨0 + 1, by omega, by go_num, Below.call B4.out (belowN (Below.refl _ _) _), HX.out⟩
        case measure => simp [intOf] <;> omega
      | succ j =>
        obtain ⟨q, hq⟩ : ∃ q, L[j]? = some q := ⟨L[j]'(by have := H.out.len; omega), List.getElem?_eq_getElem (by have := H.out.len; omega)⟩
        obtain ⟨b', o', ha', z0, z1, z2⟩ := (H.out.below B4.out).three j q hq
        injection ha' with ha'
        injection ha' with e1 e2
        subst e1 e2
        have HT : Hid (rightTwo (prevK L (j + 1)) ⟨rlo, rhi, rp⟩ = (!decide (rlo < q.hi) && !(decide (q.hi = rlo) && decide (q.p = rp)))) := by show rightTwo L[j]? _ = _; rw [hq]; rfl
        clear hq
        obtain ⟨qlo, qhi, qp⟩ := q
        replace z1 : w4.cell? ⟨b, o + j * 3 + 1, none⟩ = some (.int .i64 qhi) := z1
        replace z2 : w4.cell? ⟨b, o + j * 3 + 2, none⟩ = some (.int .i64 qp) := z2
        replace HT : Hid (rightTwo (prevK L (j + 1)) ⟨rlo, rhi, rp⟩ = (!decide (rlo < qhi) && !(decide (qhi = rlo) && decide (qp = rp)))) := HT
        by_cases y1 : rlo < qhi
        · skip
          have HX : Hid (rightL L pages = false) := by show _ = _; rw [HOK.out, HT.out, decide_eq_true y1]; rfl
          have e1 : decide (rlo < qhi) = true := decide_eq_true y1
          go_wp2_with (rw [hw4])
          go_quiet (fail)
          go_wp2
          go_ret
          rw [HX.out]
          exact ⟨rfl, Below.call B4.out (belowN (Below.refl _ _) _)⟩
        have e1 : decide (rlo < qhi) = false := decide_eq_false y1
        by_cases y2 : qhi = rlo
        · by_cases y3 : qp = rp
          · skip
            have HX : Hid (rightL L pages = false) := by show _ = _; rw [HOK.out, HT.out, e1, decide_eq_true y2, decide_eq_true y3]; rfl
            subst y2 y3
            go_wp2_with (rw [hw4])
            go_quiet (fail)
            go_wp2
            go_ret
            rw [HX.out]
            exact ⟨rfl, Below.call B4.out (belowN (Below.refl _ _) _)⟩
          · skip
            have HX : Hid (rightL L pages = rightGo pages (prevK L (j + 1 + 1)) (L.drop (j + 1 + 1))) := by show _ = _; rw [HOK.out, HT.out, e1, decide_eq_true y2, decide_eq_false y3]; rfl
            have e3 : (qp == rp) = false := by simpa using y3
            subst y2
            clear y3
            go_wp2_with (rw [hw4])
            go_quiet (fail)
            go_wp2
            go_roundw
            case rel => exact ⟨j + 1 + 1, by omega, by go_num, Below.call B4.out (belowN (Below.refl _ _) _), HX.out⟩
            case measure => simp [intOf] <;> omega
        have HX : Hid (rightL L pages = rightGo pages (prevK L (j + 1 + 1)) (L.drop (j + 1 + 1))) := by show _ = _; rw [HOK.out, HT.out, e1, decide_eq_false y2]; rfl
        have e2 : (qhi == rlo) = false := by simpa using y2
        clear y2
        go_wp2_with (rw [hw4])
        go_quiet (fail)
        go_wp2
        go_roundw
        case rel => exact ⟨j + 1 + 1, by omega, by go_num, Below.call B4.out (belowN (Below.refl _ _) _), HX.out⟩
        case measure => simp [intOf] <;> omega
    · obtain rfl : k = n := by omega
      have hl := H.out.len
      have HX : Hid (rightL L pages = true) := by show _ = _; rw [F.out, List.drop_of_length_le (by omega)]; cases prevK L k <;> rfl
      clear hl
      go_wp2
      go_ret
      rw [HX.out]
      exact ⟨rfl, B.out⟩
end Go.Proofs.Ytoampbdipmecmaa
