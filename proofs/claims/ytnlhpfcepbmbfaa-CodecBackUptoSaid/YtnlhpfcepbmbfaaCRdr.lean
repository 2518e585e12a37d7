/- codec's Reader: what lies in it; the contracts of refuse, int, count, End, NewReader. -/
import Derived.Test.YtnlhpfcepbmbfaaRdLaw
import Derived.Test.YtnlhpfcepbmbfaaZig
import Derived.Test.YtnlhpfcepbmbfaaClone
import Derived.Recover
import Derived.RegionTactic
import Derived.Maps.AppendAt
import Derived.WalkLawsBesides
namespace Go.Proofs.Ytnlhpfcepbmbfaa
open Go.RowKit
def pkr {α : Type} (c k : Nat) (A B : α) : α := if c = k then A else B
theorem rd_pkr {kd : IntKind} {w : World} {b o n c : Nat} {l : List Int} (h : RdAt kd w (some ⟨b, o, none⟩) n c l) (k : Nat) (hk : k ≤ n) : RdAt kd w (pkr c k (some ⟨b, o, none⟩) (some ⟨b, o + k, none⟩)) (n - k) (c - k) (l.drop k) := by
  have hcap := h.cap
  have hmax := h.max
  have hl := h.len
  unfold pkr
  by_cases hc : c = k
  · rw [if_pos hc]
    rw [show n - k = 0 by omega, show c - k = 0 by omega, List.drop_of_length_le (by omega)]
    exact ⟨rfl, Nat.le_refl _, by unfold maxLen; omega, fun i hi => by omega, by simp, fun h => by cases h⟩
  · rw [if_neg hc]
    refine ⟨by rw [List.length_drop]; omega, by omega, by omega, fun i hi => ?_, fun y hy => h.wf y (List.mem_of_mem_drop hy), fun h => by cases h⟩
    obtain ⟨b', o', e, hc⟩ := h.cell (k + i) (by omega)
    injection e with e
    injection e with e1 e2
    subst e1 e2
    refine ⟨b, o + k, rfl, ?_⟩
    rw [Nat.add_assoc, hc]
    unfold nth
    simp [List.getD]
theorem pkr_block {c k b o o' : Nat} {q : Addr} (h : pkr c k (some (⟨b, o, none⟩ : Addr)) (some ⟨b, o', none⟩) = some q) : q.block = b := by
  unfold pkr at h
  split at h <;> (injection h with h; rw [← h])
theorem pkr_spot {c k b o o' : Nat} {q : Addr} (h : pkr c k (some (⟨b, o, none⟩ : Addr)) (some ⟨b, o', none⟩) = some q) : q.spot = none := by
  unfold pkr at h
  split at h <;> (injection h with h; rw [← h])
/-- A slice's row that is not written stays what it reads as. -/
theorem RdAt.far {k : IntKind} {w w' : World} {h : Nat} {a : Option Addr} {n c : Nat} {l : List Int} (r : RdAt k w a n c l) (hg : w.grownBy w' (some h)) (hne : ∀ q, a = some q → 0 < n → q.block ≠ h) : RdAt k w' a n c l :=
  ⟨r.len, r.cap, r.max, fun i hi => by
    obtain ⟨b, o, e, hc⟩ := r.cell i hi
    exact ⟨b, o, e, hg.cell hc (fun e' => hne _ e (by omega) (by injection e'))⟩, r.wf, r.void⟩
theorem rd_takeR {kd : IntKind} {w : World} {a : Option Addr} {n c : Nat} {l : List Int} (h : RdAt kd w a n c l) (k c' : Nat) (hk : k ≤ n) (hc' : k ≤ c') (hcm : c' ≤ c) (hv : a = none → c' = 0) : RdAt kd w a k c' (l.take k) :=
  ⟨by rw [List.length_take, h.len]; omega, hc', Nat.le_trans hcm h.max, fun i hi => by
    obtain ⟨b, o, e, hc⟩ := h.cell i (by omega)
    refine ⟨b, o, e, ?_⟩
    rw [hc]; congr 1
    have hl := h.len
    rw [nth_eq (by omega), nth_eq (by rw [List.length_take]; omega), List.getElem_take], fun x hx => h.wf x (List.mem_of_mem_take hx), hv⟩
structure CRdr (B : Nat) (w : World) (h : Nat) (a : Option Addr) (n c : Nat) (l : List Int) (e : Int) : Prop where
  row : w.heap[h]? = some (.cells #[.slice a n c, .int .i64 e] 73 (0, 0))
  rd : RdAt .u8 w a n c l
  lo : ∀ q, a = some q → 0 < n → q.block < h
  sp : ∀ q, a = some q → q.spot = none
  hi : ∀ q, a = some q → 0 < n → B ≤ q.block
/-- A reader in block h, that has these bytes left, and this error. -/
def RIn (B : Nat) (w : World) (h : Nat) (l : List Int) (e : Int) : Prop := ∃ a n c, CRdr B w h a n c l e
variable {B : Nat}
theorem CRdr.ne {w : World} {h : Nat} {a : Option Addr} {n c : Nat} {l : List Int} {e : Int} (r : CRdr B w h a n c l e) : ∀ q, a = some q → 0 < n → q.block ≠ h := fun q h1 h2 => Nat.ne_of_lt (r.lo q h1 h2)
theorem CRdr.lt {w : World} {h : Nat} {a : Option Addr} {n c : Nat} {l : List Int} {e : Int} (r : CRdr B w h a n c l e) : h < w.heap.size := (Array.getElem?_eq_some_iff.1 r.row).1
theorem RIn.lt {w : World} {h : Nat} {l : List Int} {e : Int} (r : RIn B w h l e) : h < w.heap.size := by obtain ⟨a, n, c, r⟩ := r; exact r.lt
theorem CRdr.cells {w : World} {h : Nat} {a : Option Addr} {n c : Nat} {l : List Int} {e : Int} (r : CRdr B w h a n c l e) :
    w.cell? ⟨h, 0, none⟩ = some (.slice a n c) ∧ w.cell? ⟨h, 1, none⟩ = some (.int .i64 e) ∧ ∀ i, w.frozen? ⟨h, i, none⟩ = false := by
  have := r.row
  refine ⟨?_, ?_, fun i => frozen_of_row w h i _ _ this⟩ <;> simp [World.cell?, this]
theorem CRdr.below {w w' : World} {h : Nat} {a : Option Addr} {n c : Nat} {l : List Int} {e : Int} (r : CRdr B w h a n c l e) (hb : Below w.heap.size w w') : CRdr B w' h a n c l e :=
  ⟨by rw [hb.block h r.lt]; exact r.row, r.rd.below hb, r.lo, r.sp, r.hi⟩
theorem RIn.below {w w' : World} {h : Nat} {l : List Int} {e : Int} (r : RIn B w h l e) (hb : Below w.heap.size w w') : RIn B w' h l e := by
  obtain ⟨a, n, c, r⟩ := r
  exact ⟨a, n, c, r.below hb⟩
theorem rcell_grown (w : World) (h i : Nat) (x : Value) : w.grownBy (w.setCell ⟨h, i, none⟩ x) (some h) :=
  ⟨rfl, rfl, rfl, by simp, fun k _ hk => heap_setCell_other w ⟨h, i, none⟩ k x (fun e => hk (by simp [e]))⟩
theorem CRdr.setB {w : World} {h : Nat} {a a' : Option Addr} {n c n' c' : Nat} {l l' : List Int} {e : Int} (r : CRdr B w h a n c l e) (rd : RdAt .u8 w a' n' c' l') (lo : ∀ q, a' = some q → 0 < n' → q.block < h) (sp : ∀ q, a' = some q → q.spot = none) (hi : ∀ q, a' = some q → 0 < n' → B ≤ q.block) :
    CRdr B (w.setCell ⟨h, 0, none⟩ (.slice a' n' c')) h a' n' c' l' e :=
  ⟨heap_setCell_same _ _ _ _ _ _ r.row, rd.far (rcell_grown _ _ _ _) (fun q h1 h2 => Nat.ne_of_lt (lo q h1 h2)), lo, sp, hi⟩
theorem CRdr.setE {w : World} {h : Nat} {a : Option Addr} {n c : Nat} {l : List Int} {e : Int} (r : CRdr B w h a n c l e) (e' : Int) : CRdr B (w.setCell ⟨h, 1, none⟩ (.int .i64 e')) h a n c l e' :=
  ⟨heap_setCell_same _ _ _ _ _ _ r.row, r.rd.far (rcell_grown _ _ _ _) r.ne, r.lo, r.sp, r.hi⟩
theorem CRdr.grown {w w' : World} {h : Nat} {row : Option Nat} {a : Option Addr} {n c : Nat} {l : List Int} {e : Int} (r : CRdr B w h a n c l e) (hg : w.grownBy w' row) (hk : ∀ k, row = some k → h < k) : CRdr B w' h a n c l e := by
  refine ⟨by rw [hg.block h r.lt (fun e => by have := hk h e.symm; omega)]; exact r.row, ⟨r.rd.len, r.rd.cap, r.rd.max, fun i hi => ?_, r.rd.wf, r.rd.void⟩, r.lo, r.sp, r.hi⟩
  obtain ⟨b, o, e, hc⟩ := r.rd.cell i hi
  have h1 : b < h := r.lo _ e (by omega)
  exact ⟨b, o, e, hg.cell hc (fun e' => by have := hk b e'.symm; omega)⟩
theorem RIn.grown {w w' : World} {h : Nat} {row : Option Nat} {l : List Int} {e : Int} (r : RIn B w h l e) (hg : w.grownBy w' row) (hk : ∀ k, row = some k → h < k) : RIn B w' h l e := by
  obtain ⟨a, n, c, r⟩ := r
  exact ⟨a, n, c, r.grown hg hk⟩
/-- A write below the reader's base leaves it. -/
theorem RIn.apart {w w' : World} {h k : Nat} {l : List Int} {e : Int} (r : RIn B w h l e) (hg : w.grownBy w' (some k)) (hk : k < B) (hB : B ≤ h) : RIn B w' h l e := by
  obtain ⟨a, n, c, r⟩ := r
  exact ⟨a, n, c, ⟨by rw [hg.block h r.lt (fun e => by injection e with e; omega)]; exact r.row, r.rd.far hg (fun q h1 h2 e => by have := r.hi q h1 h2; omega), r.lo, r.sp, r.hi⟩⟩
/-- How refuse ends where it refuses. -/
def PE (e : Int) : Ending := .panicked [{ v := .iface 24 (.int .i64 e), recovered := false }]
theorem refuse_no (e : Int) (w : World) : Calls Try.prog 46 #[.bool false, .int .i64 e] w fun x w' => x = .returned (.tuple #[]) ∧ w = w' := by
  go_enter Try.func46, Try.ntmps46
  go_wp2
  go_end0
  exact ⟨rfl, rfl⟩
theorem refuse_yes (e : Int) (w : World) : Calls Try.prog 46 #[.bool true, .int .i64 e] w fun x w' => x = PE e ∧ w = w' := by
  go_enter Try.func46, Try.ntmps46
  go_wp2
  exact ⟨rfl, rfl, rfl⟩
set_option maxRecDepth 100000 in
set_option maxHeartbeats 1000000 in
theorem int_bad (h : Nat) (l : List Int) (w : World) (r : RIn B w h l 0) (he : rvE l l.length ≠ 0) :
    Calls Try.prog 43 #[.pointer (some ⟨h, 0, none⟩)] w fun e w' => e = PE (rvE l l.length) ∧ w = w' := by
  obtain ⟨a, n, c, r⟩ := r
  obtain ⟨c0, c1, cf⟩ := r.cells
  have R := Lib.hid r
  have HL := Lib.hid r.rd.len
  obtain ⟨E, hE⟩ : ∃ E, rvE l n = E := ⟨_, rfl⟩
  rw [HL.out, hE] at he ⊢
  have HE := Lib.hid hE
  have hne : (E != 0) = true := by simpa using he
  clear r hE he
  go_enter Try.func43, Try.ntmps43
  go_wp2_with (go_at_call 65; refine (readvar_any _ _ _ l _ R.out.rd).mono ?_; rintro e w1 ⟨hee, rfl⟩; rw [HE.out] at hee; subst hee)
  refine (refuse_yes E _).mono ?_
  rintro e w1 ⟨rfl, rfl⟩
  exact ⟨rfl, rfl, rfl⟩
set_option maxRecDepth 100000 in
set_option maxHeartbeats 1000000 in
theorem int_ok (h : Nat) (l : List Int) (w : World) (r : RIn B w h l 0) (he : rvE l l.length = 0) :
    Calls Try.prog 43 #[.pointer (some ⟨h, 0, none⟩)] w fun e w' => e = .returned (.int .i64 (zagI (rvV l l.length))) ∧ RIn B w' h (l.drop (rvN l l.length).toNat) 0 ∧ w.grownBy w' (some h) := by
  obtain ⟨a, n, c, r⟩ := r
  obtain ⟨c0, c1, cf⟩ := r.cells
  have hp := rdN_pos he
  have hle := rdN_le he
  have hcap := r.rd.cap
  have hmax := r.rd.max
  unfold maxLen at hmax
  have hV1 := rdV_bd l l.length
  have hV2 := rdV_lt l l.length (rd_nth_pos l r.rd.wf 9)
  have R := Lib.hid r
  have HL := Lib.hid r.rd.len
  rw [HL.out] at he hp hle hV1 hV2 ⊢
  obtain ⟨b, ad, rfl, _⟩ := r.rd.cell 0 (by omega)
  have hbh : b < h := r.lo _ rfl (by omega)
  obtain ⟨m, hm⟩ := Int.eq_ofNat_of_zero_le (show 0 ≤ rvN l n by omega)
  rw [hm] at hp hle ⊢
  obtain ⟨V, hV⟩ : ∃ V, rvV l n = V := ⟨_, rfl⟩
  rw [hV] at hV1 hV2 ⊢
  have HE := Lib.hid he
  have HM := Lib.hid hm
  have HV := Lib.hid hV
  have hif : ∀ (A B : Option Addr), (if c = m then A else B) = pkr c m A B := fun _ _ => rfl
  have R2 := Lib.hid (rd_pkr r.rd m (by omega))
  clear r he hm hV
  go_enter Try.func43, Try.ntmps43
  go_wp2_with (go_at_call 65; refine (readvar_any _ _ _ l _ R.out.rd).mono ?_; rintro e w1 ⟨hee, rfl⟩; rw [HE.out, HM.out, HV.out] at hee; subst hee)
  refine (refuse_no 0 _).mono ?_
  rintro e w1 ⟨rfl, rfl⟩
  go_wp2_with (go_at_call 66; refine (zag_any V _ hV1 hV2).mono ?_; rintro e w1 ⟨rfl, rfl⟩)
  go_ret
  refine ⟨rfl, ⟨_, _, _, R.out.setB R2.out (fun q hq _ => by rw [pkr_block hq]; exact hbh) (fun q hq => pkr_spot hq) (fun q hq _ => by rw [pkr_block hq]; exact R.out.hi _ rfl (by omega))⟩, rcell_grown _ _ _ _⟩
end Go.Proofs.Ytnlhpfcepbmbfaa
