/- The reference's Reader of records: what lies in it; Int, End. -/
import Derived.Test.YtnlhpfcepbmbfaaRReadVar
import Derived.Test.YtnlhpfcepbmbfaaCTryI
namespace Go.Proofs.Ytnlhpfcepbmbfaa
open Go.RowKit
structure RRdr (w : World) (h : Nat) (a : Option Addr) (n c : Nat) (l : List Int) (e : Int) : Prop where
  row : w.heap[h]? = some (.cells #[.slice a n c, .int .i64 e] 50 (0, 0))
  rd : RdAt .u8 w a n c l
  lo : ∀ q, a = some q → 0 < n → q.block < h
  sp : ∀ q, a = some q → q.spot = none ∨ rvE l l.length ≠ 0
/-- The reference's reader in block h, that has these bytes left, and this error. -/
def RRIn (w : World) (h : Nat) (l : List Int) (e : Int) : Prop := ∃ a n c, RRdr w h a n c l e
section
variable {w w' : World} {h : Nat} {a : Option Addr} {n c : Nat} {l : List Int} {e : Int}
theorem RRdr.ne (r : RRdr w h a n c l e) : ∀ q, a = some q → 0 < n → q.block ≠ h := fun q h1 h2 => Nat.ne_of_lt (r.lo q h1 h2)
theorem RRdr.lt (r : RRdr w h a n c l e) : h < w.heap.size := (Array.getElem?_eq_some_iff.1 r.row).1
theorem RRIn.lt (r : RRIn w h l e) : h < w.heap.size := by obtain ⟨a, n, c, r⟩ := r; exact r.lt
theorem RRdr.cells (r : RRdr w h a n c l e) : w.cell? ⟨h, 0, none⟩ = some (.slice a n c) ∧ w.cell? ⟨h, 1, none⟩ = some (.int .i64 e) ∧ ∀ i, w.frozen? ⟨h, i, none⟩ = false := by
  have := r.row
  refine ⟨?_, ?_, fun i => frozen_of_row w h i _ _ this⟩ <;> simp [World.cell?, this]
theorem RRdr.below (r : RRdr w h a n c l e) (hb : Below w.heap.size w w') : RRdr w' h a n c l e :=
  ⟨by rw [hb.block h r.lt]; exact r.row, r.rd.below hb, r.lo, r.sp⟩
theorem RRIn.below (r : RRIn w h l e) (hb : Below w.heap.size w w') : RRIn w' h l e := by
  obtain ⟨a, n, c, r⟩ := r
  exact ⟨a, n, c, r.below hb⟩
theorem RRdr.setB {a' : Option Addr} {n' c' : Nat} {l' : List Int} (r : RRdr w h a n c l e) (rd : RdAt .u8 w a' n' c' l') (lo : ∀ q, a' = some q → 0 < n' → q.block < h) (sp : ∀ q, a' = some q → q.spot = none) :
    RRdr (w.setCell ⟨h, 0, none⟩ (.slice a' n' c')) h a' n' c' l' e :=
  ⟨heap_setCell_same _ _ _ _ _ _ r.row, rd.far (rcell_grown _ _ _ _) (fun q h1 h2 => Nat.ne_of_lt (lo q h1 h2)), lo, fun q hq => .inl (sp q hq)⟩
theorem RRdr.setE (r : RRdr w h a n c l e) (e' : Int) : RRdr (w.setCell ⟨h, 1, none⟩ (.int .i64 e')) h a n c l e' :=
  ⟨heap_setCell_same _ _ _ _ _ _ r.row, r.rd.far (rcell_grown _ _ _ _) r.ne, r.lo, r.sp⟩
theorem RRdr.grown {row : Option Nat} (r : RRdr w h a n c l e) (hg : w.grownBy w' row) (hk : ∀ k, row = some k → h < k) : RRdr w' h a n c l e := by
  refine ⟨by rw [hg.block h r.lt (fun e => by have := hk h e.symm; omega)]; exact r.row, ⟨r.rd.len, r.rd.cap, r.rd.max, fun i hi => ?_, r.rd.wf, r.rd.void⟩, r.lo, r.sp⟩
  obtain ⟨b, o, e, hc⟩ := r.rd.cell i hi
  have h1 : b < h := r.lo _ e (by omega)
  exact ⟨b, o, e, hg.cell hc (fun e' => by have := hk b e'.symm; omega)⟩
theorem RRIn.grown {row : Option Nat} (r : RRIn w h l e) (hg : w.grownBy w' row) (hk : ∀ k, row = some k → h < k) : RRIn w' h l e := by
  obtain ⟨a, n, c, r⟩ := r
  exact ⟨a, n, c, r.grown hg hk⟩
theorem RRIn.wf (r : RRIn w h l e) : ∀ y ∈ l, (Lit.int .u8 y).wf = true := by obtain ⟨a, n, c, r⟩ := r; exact r.rd.wf
/-- A reader of either kind lies apart from a block: what is written there leaves it. -/
theorem RRdr.apart {k : Nat} (r : RRdr w h a n c l e) (hg : w.grownBy w' (some k)) (hk : h ≠ k) (hne : ∀ q, a = some q → 0 < n → q.block ≠ k) : RRdr w' h a n c l e :=
  ⟨by rw [hg.block h r.lt (fun e => hk (Option.some.inj e))]; exact r.row, r.rd.far hg hne, r.lo, r.sp⟩
end
/-- A reader that has just been made of a slice. -/
theorem RRIn.made {w : World} {h : Nat} {a : Option Addr} {n c : Nat} {l : List Int} (row : w.heap[h]? = some (.cells #[.slice a n c, .int .i64 0] 50 (0, 0))) (rd : RdAt .u8 w a n c l) (lo : ∀ q, a = some q → 0 < n → q.block < h) : RRIn w h l 0 := by
  refine ⟨a, n, c, row, rd, lo, fun q hq => ?_⟩
  by_cases hn : 0 < n
  · obtain ⟨b, o, e, _⟩ := rd.cell 0 hn
    rw [e] at hq
    injection hq with hq
    exact .inl (by rw [← hq])
  · right
    have hl := rd.len
    obtain rfl : l = [] := List.length_eq_zero_iff.1 (by omega)
    decide
/-- How the reference's reading ends. -/
def RREnd {α : Type} (val : Nat → α → Value → World → Prop) (h : Nat) (r : Rd α) (w : World) (e : Ending) (w' : World) : Prop :=
  w.grownBy w' (some h) ∧ RRIn w' h r.l r.e ∧ ∃ v, e = .returned v ∧ val w.heap.size r.v v w'
set_option maxRecDepth 100000 in
theorem fail_ok (h : Nat) (l : List Int) (x : Int) (w : World) (r : RRIn w h l 0) : Calls Try.prog 57 #[.pointer (some ⟨h, 0, none⟩), .int .i64 x] w fun e w' => e = .returned (.tuple #[]) ∧ RRIn w' h l x ∧ w.grownBy w' (some h) := by
  obtain ⟨a, n, c, r⟩ := r
  obtain ⟨c0, c1, cf⟩ := r.cells
  have R := Lib.hid r
  clear r
  go_enter Try.func57, Try.ntmps57
  go_wp2
  go_end0
  exact ⟨rfl, ⟨_, _, _, R.out.setE x⟩, rcell_grown _ _ _ _⟩
set_option linter.unusedSimpArgs false in
set_option maxRecDepth 100000 in
set_option maxHeartbeats 1000000 in
theorem rrInt_any (h : Nat) (l : List Int) (e0 : Int) (w : World) (r : RRIn w h l e0) :
    Calls Try.prog 23 #[.pointer (some ⟨h, 0, none⟩)] w (RREnd isI h (rdFrom e0 0 l (rdInt l)) w) := by
  obtain ⟨a, n, c, r⟩ := r
  obtain ⟨c0, c1, cf⟩ := r.cells
  have R := Lib.hid r
  by_cases h0 : e0 = 0
  · subst h0
    rw [rdFrom_ok]
    have HL := Lib.hid r.rd.len
    by_cases he : rvE l l.length = 0
    · rw [rdInt_ok he]
      have hp := rdN_pos he
      have hle := rdN_le he
      have hcap := r.rd.cap
      have hmax := r.rd.max
      unfold maxLen at hmax
      have hV1 := rdV_bd l l.length
      have hV2 := rdV_lt l l.length (rd_nth_pos l r.rd.wf 9)
      rw [HL.out] at he hp hle hV1 hV2 ⊢
      obtain ⟨b, ad, rfl, _⟩ := r.rd.cell 0 (by omega)
      have hbh : b < h := r.lo _ rfl (by omega)
      obtain ⟨m, hm⟩ := Int.eq_ofNat_of_zero_le (show 0 ≤ rvN l n by omega)
      rw [hm] at hp hle ⊢
      obtain ⟨V, hV⟩ : ∃ V, rvV l n = V := ⟨_, rfl⟩
      rw [hV] at hV1 hV2 ⊢
      have HE := Lib.hid he
      have HM := Lib.hid hm
      have HV := Lib.hid hV
      have hif : ∀ (A B : Option Addr), (if c = m then A else B) = pkr c m A B := fun _ _ => rfl
      have R2 := Lib.hid (rd_pkr r.rd m (by omega))
      clear r he hm hV
      go_enter Try.func23, Try.ntmps23
      go_wp2_with (go_at_call 56; refine (rreadvar_any _ _ _ l _ R.out.rd).mono ?_; rintro e w1 ⟨hee, rfl⟩; rw [HE.out, HM.out, HV.out] at hee; subst hee)
      go_wp2_with (go_at_call 58; refine (rzag_any V _ hV1 hV2).mono ?_; rintro e w1 ⟨rfl, rfl⟩)
      go_ret
      exact ⟨rcell_grown _ _ _ _, ⟨_, _, _, R.out.setB R2.out (fun q hq _ => by rw [pkr_block hq]; exact hbh) (fun q hq => pkr_spot hq)⟩, _, rfl, rfl⟩
    · rw [rdInt_bad he]
      obtain ⟨E, hE⟩ : ∃ E, rvE l n = E := ⟨_, rfl⟩
      rw [HL.out, hE] at he ⊢
      have HE := Lib.hid hE
      have hne : (E != 0) = true := by simpa using he
      have HR : Hid (RRIn w h l 0) := ⟨_, _, _, R.out⟩
      clear r hE he
      go_enter Try.func23, Try.ntmps23
      go_wp2_with (go_at_call 56; refine (rreadvar_any _ _ _ l _ R.out.rd).mono ?_; rintro e w1 ⟨hee, rfl⟩; rw [HE.out] at hee; subst hee)
      refine (fail_ok h l E _ HR.out).mono ?_
      rintro e w1 ⟨rfl, hr1, hg1⟩
      have HR1 := Lib.hid hr1
      clear hr1
      go_wp2_with fail
      go_ret
      exact ⟨hg1, HR1.out, _, rfl, rfl⟩
  · rw [rdFrom_bad _ _ _ h0]
    have hne : (e0 != 0) = true := by simpa using h0
    clear r
    go_enter Try.func23, Try.ntmps23
    go_wp2_with fail
    go_ret
    exact ⟨World.grownBy.refl _ _, ⟨_, _, _, R.out⟩, _, rfl, rfl⟩
set_option maxRecDepth 100000 in
theorem rrEnd_any (h : Nat) (l : List Int) (e0 : Int) (w : World) (r : RRIn w h l e0) :
    Calls Try.prog 28 #[.pointer (some ⟨h, 0, none⟩)] w fun e w' => e = .returned (.int .i64 (rdEnd e0 l)) ∧ w = w' := by
  obtain ⟨a, n, c, r⟩ := r
  obtain ⟨c0, c1, cf⟩ := r.cells
  have hl := r.rd.len
  have hE : rdEnd e0 l = if e0 = 0 ∧ l ≠ [] then 22 else e0 := rfl
  rw [hE]
  clear r hE
  by_cases h0 : e0 = 0
  · subst h0
    by_cases hn : n = 0
    · subst hn
      rw [if_neg (fun h => h.2 (List.length_eq_zero_iff.1 hl))]
      clear hl
      go_enter Try.func28, Try.ntmps28
      go_wp2
      go_ret
      exact ⟨rfl, rfl⟩
    · rw [if_pos ⟨rfl, fun h => hn (by rw [← hl, h]; rfl)⟩]
      have d1 : decide ((0 : Int) < n) = true := decide_eq_true (by omega)
      have d2 : decide (0 < n) = true := decide_eq_true (by omega)
      clear hl
      go_enter Try.func28, Try.ntmps28
      go_wp2
      go_ret
      exact ⟨rfl, rfl⟩
  · rw [if_neg (fun h => h0 h.1)]
    have hne : (e0 == 0) = false := beq_eq_false_iff_ne.2 h0
    clear hl
    go_enter Try.func28, Try.ntmps28
    go_wp2
    go_ret
    exact ⟨rfl, rfl⟩
end Go.Proofs.Ytnlhpfcepbmbfaa
