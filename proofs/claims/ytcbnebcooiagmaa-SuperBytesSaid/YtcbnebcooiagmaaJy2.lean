/- Joined: codec's Reader: what lies in it; the contracts of refuse, int, count, End, NewReader. codec's Reader: how what is tried ends; int so. codec's try: its contracts; Int, Between, Bytes, List, End, NewReader. The contract of the reference's ReadVar. The reference's Reader of records: what lies in it; Int, End. Contracts of ints.Var and of the reference's. Plain laws: ReadVar undoes Var. No program in sight. -/
import Derived.Test.YtcbnebcooiagmaaJy1
import Derived.Recover
import Derived.RegionTactic
import Derived.Maps.AppendAt
import Derived.WalkLawsBesides
namespace Go.Proofs.Ytcbnebcooiagmaa
open Go.RowKit
def pkr {α : Type} (c k : Nat) (A B : α) : α := if c = k then A else B
theorem rd_pkr {kd : IntKind} {w : World} {b o n c : Nat} {l : List Int} (h : RdAt kd w (some ⟨b, o, none⟩) n c l) (k : Nat) (hk : k ≤ n) : RdAt kd w (pkr c k (some ⟨b, o, none⟩) (some ⟨b, o + k, none⟩)) (n - k) (c - k) (l.drop k) := by
  have hcap := h.cap
  have hmax := h.max
  have hl := h.len
  unfold pkr
  by_cases hc : c = k
  · rw [if_pos hc]
    rw [show n - k = 0 by omega, show c - k = 0 by omega, List.drop_of_length_le (by omega)]
    exact ⟨rfl, Nat.le_refl _, by unfold maxLen; omega, fun i hi => by omega, by simp, fun h => by cases h⟩
  · rw [if_neg hc]
    refine ⟨by rw [List.length_drop]; omega, by omega, by omega, fun i hi => ?_, fun y hy => h.wf y (List.mem_of_mem_drop hy), fun h => by cases h⟩
    obtain ⟨b', o', e, hc⟩ := h.cell (k + i) (by omega)
    injection e with e
    injection e with e1 e2
    subst e1 e2
    refine ⟨b, o + k, rfl, ?_⟩
    rw [Nat.add_assoc, hc]
    unfold nth
    simp [List.getD]
theorem pkr_block {c k b o o' : Nat} {q : Addr} (h : pkr c k (some (⟨b, o, none⟩ : Addr)) (some ⟨b, o', none⟩) = some q) : q.block = b := by
  unfold pkr at h
  split at h <;> (injection h with h; rw [← h])
theorem pkr_spot {c k b o o' : Nat} {q : Addr} (h : pkr c k (some (⟨b, o, none⟩ : Addr)) (some ⟨b, o', none⟩) = some q) : q.spot = none := by
  unfold pkr at h
  split at h <;> (injection h with h; rw [← h])
/-- A slice's row that is not written stays what it reads as. -/
theorem RdAt.far {k : IntKind} {w w' : World} {h : Nat} {a : Option Addr} {n c : Nat} {l : List Int} (r : RdAt k w a n c l) (hg : w.grownBy w' (some h)) (hne : ∀ q, a = some q → 0 < n → q.block ≠ h) : RdAt k w' a n c l :=
  ⟨r.len, r.cap, r.max, fun i hi => by
    obtain ⟨b, o, e, hc⟩ := r.cell i hi
    exact ⟨b, o, e, hg.cell hc (fun e' => hne _ e (by omega) (by injection e'))⟩, r.wf, r.void⟩
theorem rd_takeR {kd : IntKind} {w : World} {a : Option Addr} {n c : Nat} {l : List Int} (h : RdAt kd w a n c l) (k c' : Nat) (hk : k ≤ n) (hc' : k ≤ c') (hcm : c' ≤ c) (hv : a = none → c' = 0) : RdAt kd w a k c' (l.take k) :=
  ⟨by rw [List.length_take, h.len]; omega, hc', Nat.le_trans hcm h.max, fun i hi => by
    obtain ⟨b, o, e, hc⟩ := h.cell i (by omega)
    refine ⟨b, o, e, ?_⟩
    rw [hc]; congr 1
    have hl := h.len
    rw [nth_eq (by omega), nth_eq (by rw [List.length_take]; omega), List.getElem_take], fun x hx => h.wf x (List.mem_of_mem_take hx), hv⟩
structure CRdr (B : Nat) (w : World) (h : Nat) (a : Option Addr) (n c : Nat) (l : List Int) (e : Int) : Prop where
  row : w.heap[h]? = some (.cells #[.slice a n c, .int .i64 e] 132 (0, 0))
  rd : RdAt .u8 w a n c l
  lo : ∀ q, a = some q → 0 < n → q.block < h
  sp : ∀ q, a = some q → q.spot = none
  hi : ∀ q, a = some q → 0 < n → B ≤ q.block
/-- A reader in block h, that has these bytes left, and this error. -/
def RIn (B : Nat) (w : World) (h : Nat) (l : List Int) (e : Int) : Prop := ∃ a n c, CRdr B w h a n c l e
variable {B : Nat}
theorem CRdr.ne {w : World} {h : Nat} {a : Option Addr} {n c : Nat} {l : List Int} {e : Int} (r : CRdr B w h a n c l e) : ∀ q, a = some q → 0 < n → q.block ≠ h := fun q h1 h2 => Nat.ne_of_lt (r.lo q h1 h2)
theorem CRdr.lt {w : World} {h : Nat} {a : Option Addr} {n c : Nat} {l : List Int} {e : Int} (r : CRdr B w h a n c l e) : h < w.heap.size := (Array.getElem?_eq_some_iff.1 r.row).1
theorem RIn.lt {w : World} {h : Nat} {l : List Int} {e : Int} (r : RIn B w h l e) : h < w.heap.size := by obtain ⟨a, n, c, r⟩ := r; exact r.lt
theorem CRdr.cells {w : World} {h : Nat} {a : Option Addr} {n c : Nat} {l : List Int} {e : Int} (r : CRdr B w h a n c l e) :
    w.cell? ⟨h, 0, none⟩ = some (.slice a n c) ∧ w.cell? ⟨h, 1, none⟩ = some (.int .i64 e) ∧ ∀ i, w.frozen? ⟨h, i, none⟩ = false := by
  have := r.row
  refine ⟨?_, ?_, fun i => frozen_of_row w h i _ _ this⟩ <;> simp [World.cell?, this]
theorem CRdr.below {w w' : World} {h : Nat} {a : Option Addr} {n c : Nat} {l : List Int} {e : Int} (r : CRdr B w h a n c l e) (hb : Below w.heap.size w w') : CRdr B w' h a n c l e :=
  ⟨by rw [hb.block h r.lt]; exact r.row, r.rd.below hb, r.lo, r.sp, r.hi⟩
theorem RIn.below {w w' : World} {h : Nat} {l : List Int} {e : Int} (r : RIn B w h l e) (hb : Below w.heap.size w w') : RIn B w' h l e := by
  obtain ⟨a, n, c, r⟩ := r
  exact ⟨a, n, c, r.below hb⟩
theorem rcell_grown (w : World) (h i : Nat) (x : Value) : w.grownBy (w.setCell ⟨h, i, none⟩ x) (some h) :=
  ⟨rfl, rfl, rfl, by simp, fun k _ hk => heap_setCell_other w ⟨h, i, none⟩ k x (fun e => hk (by simp [e]))⟩
theorem CRdr.setB {w : World} {h : Nat} {a a' : Option Addr} {n c n' c' : Nat} {l l' : List Int} {e : Int} (r : CRdr B w h a n c l e) (rd : RdAt .u8 w a' n' c' l') (lo : ∀ q, a' = some q → 0 < n' → q.block < h) (sp : ∀ q, a' = some q → q.spot = none) (hi : ∀ q, a' = some q → 0 < n' → B ≤ q.block) :
    CRdr B (w.setCell ⟨h, 0, none⟩ (.slice a' n' c')) h a' n' c' l' e :=
  ⟨heap_setCell_same _ _ _ _ _ _ r.row, rd.far (rcell_grown _ _ _ _) (fun q h1 h2 => Nat.ne_of_lt (lo q h1 h2)), lo, sp, hi⟩
theorem CRdr.setE {w : World} {h : Nat} {a : Option Addr} {n c : Nat} {l : List Int} {e : Int} (r : CRdr B w h a n c l e) (e' : Int) : CRdr B (w.setCell ⟨h, 1, none⟩ (.int .i64 e')) h a n c l e' :=
  ⟨heap_setCell_same _ _ _ _ _ _ r.row, r.rd.far (rcell_grown _ _ _ _) r.ne, r.lo, r.sp, r.hi⟩
theorem CRdr.grown {w w' : World} {h : Nat} {row : Option Nat} {a : Option Addr} {n c : Nat} {l : List Int} {e : Int} (r : CRdr B w h a n c l e) (hg : w.grownBy w' row) (hk : ∀ k, row = some k → h < k) : CRdr B w' h a n c l e := by
  refine ⟨by rw [hg.block h r.lt (fun e => by have := hk h e.symm; omega)]; exact r.row, ⟨r.rd.len, r.rd.cap, r.rd.max, fun i hi => ?_, r.rd.wf, r.rd.void⟩, r.lo, r.sp, r.hi⟩
  obtain ⟨b, o, e, hc⟩ := r.rd.cell i hi
  have h1 : b < h := r.lo _ e (by omega)
  exact ⟨b, o, e, hg.cell hc (fun e' => by have := hk b e'.symm; omega)⟩
theorem RIn.grown {w w' : World} {h : Nat} {row : Option Nat} {l : List Int} {e : Int} (r : RIn B w h l e) (hg : w.grownBy w' row) (hk : ∀ k, row = some k → h < k) : RIn B w' h l e := by
  obtain ⟨a, n, c, r⟩ := r
  exact ⟨a, n, c, r.grown hg hk⟩
/-- A write below the reader's base leaves it. -/
theorem RIn.apart {w w' : World} {h k : Nat} {l : List Int} {e : Int} (r : RIn B w h l e) (hg : w.grownBy w' (some k)) (hk : k < B) (hB : B ≤ h) : RIn B w' h l e := by
  obtain ⟨a, n, c, r⟩ := r
  exact ⟨a, n, c, ⟨by rw [hg.block h r.lt (fun e => by injection e with e; omega)]; exact r.row, r.rd.far hg (fun q h1 h2 e => by have := r.hi q h1 h2; omega), r.lo, r.sp, r.hi⟩⟩
/-- How refuse ends where it refuses. -/
def PE (e : Int) : Ending := .panicked [{ v := .iface 31 (.int .i64 e), recovered := false }]
set_option maxRecDepth 100000 in
theorem refuse_no (e : Int) (w : World) : Calls Try.prog 86 #[.bool false, .int .i64 e] w fun x w' => x = .returned (.tuple #[]) ∧ w = w' := by
  go_enter Try.func86, Try.ntmps86
  go_wp2
  go_end0
  exact ⟨rfl, rfl⟩
set_option maxRecDepth 100000 in
theorem refuse_yes (e : Int) (w : World) : Calls Try.prog 86 #[.bool true, .int .i64 e] w fun x w' => x = PE e ∧ w = w' := by
  go_enter Try.func86, Try.ntmps86
  go_wp2
  exact ⟨rfl, rfl, rfl⟩
set_option maxRecDepth 100000 in
set_option maxHeartbeats 1000000 in
theorem int_bad (h : Nat) (l : List Int) (w : World) (r : RIn B w h l 0) (he : rvE l l.length ≠ 0) :
    Calls Try.prog 88 #[.pointer (some ⟨h, 0, none⟩)] w fun e w' => e = PE (rvE l l.length) ∧ w = w' := by
  obtain ⟨a, n, c, r⟩ := r
  obtain ⟨c0, c1, cf⟩ := r.cells
  have R := Lib.hid r
  have HL := Lib.hid r.rd.len
  obtain ⟨E, hE⟩ : ∃ E, rvE l n = E := ⟨_, rfl⟩
  rw [HL.out, hE] at he ⊢
  have HE := Lib.hid hE
  have hne : (E != 0) = true := by simpa using he
  clear r hE he
  go_enter Try.func88, Try.ntmps88
  go_wp2_with (go_at_call 102; refine (readvar_any _ _ _ l _ R.out.rd).mono ?_; rintro e w1 ⟨hee, rfl⟩; rw [HE.out] at hee; subst hee)
  refine (refuse_yes E _).mono ?_
  rintro e w1 ⟨rfl, rfl⟩
  exact ⟨rfl, rfl, rfl⟩
set_option maxRecDepth 100000 in
set_option maxHeartbeats 1000000 in
theorem int_ok (h : Nat) (l : List Int) (w : World) (r : RIn B w h l 0) (he : rvE l l.length = 0) :
    Calls Try.prog 88 #[.pointer (some ⟨h, 0, none⟩)] w fun e w' => e = .returned (.int .i64 (zagI (rvV l l.length))) ∧ RIn B w' h (l.drop (rvN l l.length).toNat) 0 ∧ w.grownBy w' (some h) := by
  obtain ⟨a, n, c, r⟩ := r
  obtain ⟨c0, c1, cf⟩ := r.cells
  have hp := rdN_pos he
  have hle := rdN_le he
  have hcap := r.rd.cap
  have hmax := r.rd.max
  unfold maxLen at hmax
  have hV1 := rdV_bd l l.length
  have hV2 := rdV_lt l l.length (rd_nth_pos l r.rd.wf 9)
  have R := Lib.hid r
  have HL := Lib.hid r.rd.len
  rw [HL.out] at he hp hle hV1 hV2 ⊢
  obtain ⟨b, ad, rfl, _⟩ := r.rd.cell 0 (by omega)
  have hbh : b < h := r.lo _ rfl (by omega)
  obtain ⟨m, hm⟩ := Int.eq_ofNat_of_zero_le (show 0 ≤ rvN l n by omega)
  rw [hm] at hp hle ⊢
  obtain ⟨V, hV⟩ : ∃ V, rvV l n = V := ⟨_, rfl⟩
  rw [hV] at hV1 hV2 ⊢
  have HE := Lib.hid he
  have HM := Lib.hid hm
  have HV := Lib.hid hV
  have hif : ∀ (A B : Option Addr), (if c = m then A else B) = pkr c m A B := fun _ _ => rfl
  have R2 := Lib.hid (rd_pkr r.rd m (by omega))
  clear r he hm hV
  go_enter Try.func88, Try.ntmps88
  go_wp2_with (go_at_call 102; refine (readvar_any _ _ _ l _ R.out.rd).mono ?_; rintro e w1 ⟨hee, rfl⟩; rw [HE.out, HM.out, HV.out] at hee; subst hee)
  refine (refuse_no 0 _).mono ?_
  rintro e w1 ⟨rfl, rfl⟩
  go_wp2_with (go_at_call 103; refine (zag_any V _ hV1 hV2).mono ?_; rintro e w1 ⟨rfl, rfl⟩)
  go_ret
  refine ⟨rfl, ⟨_, _, _, R.out.setB R2.out (fun q hq _ => by rw [pkr_block hq]; exact hbh) (fun q hq => pkr_spot hq) (fun q hq _ => by rw [pkr_block hq]; exact R.out.hi _ rfl (by omega))⟩, rcell_grown _ _ _ _⟩
end Go.Proofs.Ytcbnebcooiagmaa
namespace Go.Proofs.Ytcbnebcooiagmaa
open Go.RowKit
theorem grown_trans {a b c : World} {k : Option Nat} (h : a.grownBy b k) (g : b.grownBy c k) : a.grownBy c k := World.grownBy.trans h g
theorem below_grown {w w' : World} {h : Nat} (hb : Below w.heap.size w w') (_ : h < w.heap.size) : w.grownBy w' (some h) := ⟨hb.os, hb.tape, hb.output, hb.size, fun k hk _ => hb.block k hk⟩
theorem below_row {w w' : World} {k : Nat} {o : Obj} (ho : w.heap[k]? = some o) (hb : Below w.heap.size w w') : w'.heap[k]? = some o := by
  rw [hb.block k (Array.getElem?_eq_some_iff.1 ho).1]; exact ho
theorem grown_more {w w2 w3 : World} {h : Nat} {row : Option Nat} (hG : w.grownBy w2 (some h)) (hg : w2.grownBy w3 row) (hr : ∀ g, row = some g → w.heap.size ≤ g) : w.grownBy w3 (some h) :=
  ⟨hg.os.trans hG.os, hg.tape.trans hG.tape, hg.output.trans hG.output, Nat.le_trans hG.size hg.size, fun b hb hne => by
    rw [hg.block b (Nat.lt_of_lt_of_le hb hG.size) (fun e => by have := hr b e.symm; omega), hG.block b hb hne]⟩
theorem grown_drew {w w' : World} {r : Option Nat} (h : w.grownBy w' r) : w.grownBy w'.drew r := ⟨h.os, h.tape, h.output, h.size, h.block⟩
theorem crdr_drew {B : Nat} {w : World} {h : Nat} {a : Option Addr} {n c : Nat} {l : List Int} {e : Int} (r : CRdr B w h a n c l e) : CRdr B w.drew h a n c l e :=
  ⟨r.row, ⟨r.rd.len, r.rd.cap, r.rd.max, r.rd.cell, r.rd.wf, r.rd.void⟩, r.lo, r.sp, r.hi⟩
def isI (_ : Nat) (x : Int) (v : Value) (_ : World) : Prop := v = .int .i64 x
def isB (base : Nat) (l : List Int) (v : Value) (w : World) : Prop := Owns .u8 5 w base v l
def isL (base : Nat) (l : List Int) (v : Value) (w : World) : Prop := Owns .i64 3 w base v l
/-- How something that is tried ends: told, or with a panic. -/
def RPost (B : Nat) {α : Type} (val : Nat → α → Value → World → Prop) (h : Nat) (r : Rd α) (w : World) (e : Ending) (w' : World) : Prop :=
  w.grownBy w' (some h) ∧ RIn B w' h r.l 0 ∧ ((r.e = 0 ∧ ∃ v, e = .returned v ∧ val w.heap.size r.v v w') ∨ (r.e ≠ 0 ∧ e = PE r.e))
variable {B : Nat}
set_option maxRecDepth 100000 in
theorem int_post (h : Nat) (l : List Int) (w : World) (r : RIn B w h l 0) : Calls Try.prog 88 #[.pointer (some ⟨h, 0, none⟩)] w (RPost B isI h (rdInt l) w) := by
  by_cases he : rvE l l.length = 0
  · refine (int_ok h l w r he).mono ?_
    rintro e w' ⟨rfl, hr, hg⟩
    rw [rdInt_ok he]
    exact ⟨hg, hr, .inl ⟨rfl, _, rfl, rfl⟩⟩
  · refine (int_bad h l w r he).mono ?_
    rintro e w' ⟨rfl, rfl⟩
    rw [rdInt_bad he]
    exact ⟨World.grownBy.refl _ _, r, .inr ⟨he, rfl⟩⟩
theorem RIn.wf {w : World} {h : Nat} {l : List Int} {e : Int} (r : RIn B w h l e) : ∀ y ∈ l, (Lit.int .u8 y).wf = true := by obtain ⟨a, n, c, r⟩ := r; exact r.rd.wf
theorem rdInt_bd {l : List Int} (h : ∀ y ∈ l, (Lit.int .u8 y).wf = true) : -9223372036854775808 ≤ (rdInt l).v ∧ (rdInt l).v ≤ 9223372036854775807 := by
  by_cases he : rvE l l.length = 0
  · rw [rdInt_ok he]
    exact zagI_bd _ (rdV_bd _ _) (rdV_lt _ _ (rd_nth_pos l h 9))
  · rw [rdInt_bad he]
    exact ⟨(show (-9223372036854775808 : Int) ≤ 0 by decide), (show (0 : Int) ≤ 9223372036854775807 by decide)⟩
theorem heap_kept {w w' : World} {h k : Nat} {o : Obj} (ho : w.heap[k]? = some o) (hg : w.grownBy w' (some h)) (hk : k ≠ h) : w'.heap[k]? = some o := by
  rw [hg.block k (Array.getElem?_eq_some_iff.1 ho).1 (fun e => hk (Option.some.inj e))]; exact ho
theorem one_cell {w : World} {k T : Nat} {v : Value} (ho : w.heap[k]? = some (.cells #[v] T (0, 0))) : w.cell? ⟨k, 0, none⟩ = some v := by rw [cell_of_row w _ _ _ _ _ ho]; rfl
end Go.Proofs.Ytcbnebcooiagmaa
namespace Go.Proofs.Ytcbnebcooiagmaa
open Go.RowKit
/-- How reading something ends. -/
def EPost (B : Nat) {α : Type} (val : Nat → α → Value → World → Prop) (h : Nat) (r : Rd α) (w : World) (e : Ending) (w' : World) : Prop :=
  w.grownBy w' (some h) ∧ RIn B w' h r.l r.e ∧ ∃ v, e = .returned v ∧ val w.heap.size r.v v w'
variable {B : Nat}
set_option maxRecDepth 100000 in
theorem ta_yes (E : Int) (w : World) : (Instr.typeAssert (.iface 31 (.int .i64 E)) 20 31 true).run Try.prog w = .ok (.tuple #[.int .i64 E, .bool true]) w := by kernel_rfl
set_option maxRecDepth 100000 in
theorem ta_no (w : World) : (Instr.typeAssert .nilIface 20 31 true).run Try.prog w = .ok (.tuple #[.int .i64 0, .bool false]) w := by kernel_rfl
theorem owns_ge {k : IntKind} {e : TypeId} {w : World} {base : Nat} {q : Addr} {n c : Nat} {l : List Int} (h : Owns k e w base (.slice (some q) n c) l) (hn : 0 < n) : base ≤ q.block := by
  rcases h.2 with ⟨_, a', hv, ha⟩ | h2
  · injection hv with h1 h2 h3
    omega
  · rcases h2.2 with ⟨hv, _⟩ | ⟨g, cap, cur, hv, hb, _⟩
    · injection hv with h1 h2 h3
      cases h1
    · injection hv with h1 h2 h3
      injection h1 with h1
      rw [h1]
      exact hb
theorem Owns.spot {k : IntKind} {e : TypeId} {w : World} {base : Nat} {a : Option Addr} {n c : Nat} {l : List Int} (h : Owns k e w base (.slice a n c) l) (q : Addr) (hq : a = some q) : q.spot = none := by
  rcases h.2 with ⟨_, a', hv, ha⟩ | h2
  · injection hv with h1 h2 h3
    exact ha q (by rw [← h1]; exact hq)
  · rcases h2.2 with ⟨hv, _⟩ | ⟨g, cap, cur, hv, _⟩
    · injection hv with h1 h2 h3
      rw [h1] at hq
      cases hq
    · injection hv with h1 h2 h3
      rw [h1] at hq
      injection hq with hq
      rw [← hq]
set_option linter.unusedSimpArgs false in
set_option linter.unusedVariables false in
set_option maxRecDepth 100000 in
set_option maxHeartbeats 1000000 in
theorem tryI64_catch (O P h : Nat) (x : Value) (E : Int) (a : Option Addr) (n c : Nat) (l : List Int) (w : World) (hP : w.heap[P]? = some (.cells #[.pointer (some ⟨h, 0, none⟩)] 93 (0, 0))) (hO : w.heap[O]? = some (.cells #[x] 2 (0, 0))) (r : CRdr B w h a n c l 0) :
    CallsD Try.prog 101 #[.pointer (some ⟨P, 0, none⟩), .pointer (some ⟨O, 0, none⟩)] (.panicking ({ v := .iface 31 (.int .i64 E), recovered := false } :: [])) w fun e u' w' =>
      e = .returned (.tuple #[]) ∧ u' = .panicking ({ v := .iface 31 (.int .i64 E), recovered := true } :: []) ∧ w' = (w.setCell ⟨h, 1, none⟩ (.int .i64 E)).setCell ⟨O, 0, none⟩ (.int .i64 0) := by
  have c0 := one_cell hP
  have f1 : ∀ i, w.frozen? ⟨O, i, none⟩ = false := fun i => frozen_of_row w _ i _ _ hO
  have cO := one_cell hO
  obtain ⟨_, c1, cf⟩ := r.cells
  refine callsD_of_wpS Try.func101 rfl fun c₀ cs hu => ?_
  simp only [Try.ntmps101, List.size_toArray, List.length_cons, List.length_nil, Nat.reduceAdd, Nat.reduceSub, Array.replicate_succ, Array.replicate_zero, List.push_toArray, List.append_toArray, List.nil_append, List.cons_append]
  apply wpS_seq
  apply wpS_region
  simp [wpOpsS, go_sem, recoverD, hu, ta_yes, Exit.thenS]
  refine wpS_of_wp ?_
  clear hP hO r
  go_wp2
  exact ⟨rfl, _, rfl, _, results_none rfl _ _ _, rfl, rfl, rfl⟩
set_option maxRecDepth 100000 in
theorem tryI64_idle (O P : Nat) (w : World) :
    CallsD Try.prog 101 #[.pointer (some ⟨P, 0, none⟩), .pointer (some ⟨O, 0, none⟩)] .returning w fun e u' w' => e = .returned (.tuple #[]) ∧ u' = .returning ∧ w' = w := by
  refine callsD_of_wpS Try.func101 rfl fun c₀ cs hu => ?_
  simp only [Try.ntmps101, List.size_toArray, List.length_cons, List.length_nil, Nat.reduceAdd, Nat.reduceSub, Array.replicate_succ, Array.replicate_zero, List.push_toArray, List.append_toArray, List.nil_append, List.cons_append]
  apply wpS_seq
  apply wpS_region
  simp [wpOpsS, go_sem, recoverD, hu, ta_no, Exit.thenS]
  refine wpS_of_wp ?_
  go_wp2
  exact ⟨rfl, .returning, by rw [← hu], _, results_none rfl _ _ _, rfl, rfl, rfl⟩
set_option linter.unusedSimpArgs false in
set_option linter.unusedVariables false in
set_option maxRecDepth 100000 in
set_option maxHeartbeats 1000000 in
theorem tryI64_int (h : Nat) (l : List Int) (e0 : Int) (w : World) (r : RIn B w h l e0) :
    Calls Try.prog 87 #[.pointer (some ⟨h, 0, none⟩), .func (.func 88) #[.pointer (some ⟨h, 0, none⟩)] #[]] w (EPost B isI h (rdFrom e0 0 l (rdInt l)) w) := by
  have hmf : ∀ (fn : Fn) (first cap : Array Value) (w : World), (Instr.makeFunc fn first cap).run Try.prog w = .ok (.func fn first cap) w := fun _ _ _ _ => rfl
  have hlt := r.lt
  obtain ⟨a0, n0, c0, hcr⟩ := r
  obtain ⟨cb, ce, cf⟩ := hcr.cells
  have r : RIn B w h l e0 := ⟨a0, n0, c0, hcr⟩
  have hb1 : Below w.heap.size w ((w.alloc (.cells #[.pointer (some ⟨h, 0, none⟩)] 93)).alloc (.cells #[.int .i64 0] 2)) := ((Below.refl _ _).alloc (Nat.le_refl _) _).alloc (by simp) _
  obtain ⟨w1, hw1⟩ : ∃ w1, (w.alloc (.cells #[.pointer (some ⟨h, 0, none⟩)] 93)).alloc (.cells #[.int .i64 0] 2) = w1 := ⟨_, rfl⟩
  have hP : w1.heap[w.heap.size]? = some (.cells #[.pointer (some ⟨h, 0, none⟩)] 93 (0, 0)) := by
    rw [← hw1]
    show ((w.heap.push _).push _)[w.heap.size]? = _
    simp [Array.getElem?_push]
  have hO : w1.heap[w.heap.size + 1]? = some (.cells #[.int .i64 0] 2 (0, 0)) := by
    rw [← hw1]
    have := heap_alloc_new (w.alloc (.cells #[.pointer (some ⟨h, 0, none⟩)] 93)) (.cells #[.int .i64 0] 2)
    simpa using this
  have hsz1 : w1.heap.size = w.heap.size + 2 := by rw [← hw1]; simp
  rw [hw1] at hb1
  have hr1 := r.below hb1
  have HR1 := Lib.hid hr1
  have HG1 : Hid (w.grownBy w1 (some h)) := below_grown hb1 hlt
  have HP := Lib.hid hP
  have HO := Lib.hid hO
  have HSZ := Lib.hid hsz1
  have HW1 := Lib.hid hw1
  clear r hr1 hP hO hsz1 hb1 hcr hw1
  by_cases h0 : e0 = 0
  · subst h0
    rw [rdFrom_ok]
    go_enter_defers Try.func87, Try.ntmps87
    go_wp2_with fail
    rw [HW1.out]
    have hl1 := HSZ.out
    refine (int_post h l _ HR1.out).mono ?_
    rintro e w2 ⟨hg, hr2, hcase⟩
    have HG2 := Lib.hid (grown_trans HG1.out hg)
    have hP2 := heap_kept HP.out hg (by omega)
    have hO2 := heap_kept HO.out hg (by omega)
    have HP2 := Lib.hid hP2
    have HO2 := Lib.hid hO2
    have cO2 := one_cell hO2
    have fO2 : ∀ i, w2.frozen? ⟨w.heap.size + 1, i, none⟩ = false := fun i => frozen_of_row w2 _ i _ _ hO2
    have HR2 := Lib.hid hr2
    have hs2 := hg.size
    clear hg hP2 hO2 hr2
    rcases hcase with ⟨hz, v, rfl, hv⟩ | ⟨hz, rfl⟩
    · have HZ := Lib.hid hz
      replace hv : v = .int .i64 (rdInt l).v := hv
      subst hv
      go_wp2_with fail
      refine leaves_cons (f := 101) (args := #[.pointer (some ⟨w.heap.size, 0, none⟩), .pointer (some ⟨w.heap.size + 1, 0, none⟩)]) (by simp) (by simp [go_sem]) ?_
      refine (tryI64_idle (w.heap.size + 1) w.heap.size _).mono ?_
      rintro e u' w'' ⟨rfl, rfl, rfl⟩
      simp [Leaves, settle, results, Try.results87, go_sem, cO2]
      refine ⟨grown_more HG2.out (rcell_grown _ (w.heap.size + 1) 0 _) (fun g hg => by injection hg with hg; omega), ?_, _, rfl, rfl⟩
      rw [HZ.out]
      exact HR2.out.grown (rcell_grown _ (w.heap.size + 1) 0 _) (fun g hg => by injection hg with hg; omega)
    · show Leaves _ _ _ _ _ _ _
      refine leaves_cons (f := 101) (args := #[.pointer (some ⟨w.heap.size, 0, none⟩), .pointer (some ⟨w.heap.size + 1, 0, none⟩)]) (by simp) (by simp [go_sem]) ?_
      obtain ⟨a2, n2, c2, hc2⟩ := HR2.out
      refine (tryI64_catch (w.heap.size + 1) w.heap.size h _ _ a2 n2 c2 _ _ HP2.out HO2.out hc2).mono ?_
      rintro e u' w'' ⟨rfl, rfl, rfl⟩
      have cO3 : (w2.setCell ⟨h, 1, none⟩ (.int .i64 (rdInt l).e)).cell? ⟨w.heap.size + 1, 0, none⟩ = some (.int .i64 0) := by
        rw [World.cell?_of_block (a := ⟨w.heap.size + 1, 0, none⟩) (heap_setCell_other w2 ⟨h, 1, none⟩ (w.heap.size + 1) _ (by simp; omega))]; exact cO2
      simp [Leaves, settle, results, Try.results87, go_sem, cO3]
      exact ⟨grown_more (grown_trans HG2.out (rcell_grown _ h 1 _)) (rcell_grown _ (w.heap.size + 1) 0 _) (fun g hg => by injection hg with hg; omega), ⟨_, _, _, (hc2.setE _).grown (rcell_grown _ (w.heap.size + 1) 0 _) (fun g hg => by injection hg with hg; omega)⟩, _, rfl, by rw [rdInt_z hz]; rfl⟩
  · have hne : (e0 != 0) = true := by simpa using h0
    rw [rdFrom_bad _ _ _ h0]
    go_enter_defers Try.func87, Try.ntmps87
    go_wp2_with fail
    refine ⟨.int .i64 0, by simp [results, Try.results87, go_sem], ?_⟩
    rw [HW1.out]
    exact ⟨HG1.out, HR1.out, _, rfl, rfl⟩
theorem heap_old (w : World) (o : Obj) {k : Nat} (h : k < w.heap.size) : (w.alloc o).heap[k]? = w.heap[k]? := by
  show (w.heap.push o)[k]? = _
  simp [Array.getElem?_push, Nat.ne_of_lt h]
set_option linter.unusedSimpArgs false in
set_option linter.unusedVariables false in
set_option maxRecDepth 100000 in
set_option maxHeartbeats 1000000 in
theorem rInt_any (h : Nat) (l : List Int) (e0 : Int) (w : World) (r : RIn B w h l e0) :
    Calls Try.prog 51 #[.pointer (some ⟨h, 0, none⟩)] w (EPost B isI h (rdFrom e0 0 l (rdInt l)) w) := by
  have R := Lib.hid r
  clear r
  go_enter Try.func51, Try.ntmps51
  have hmf : ∀ (fn : Fn) (first cap : Array Value) (w : World), (Instr.makeFunc fn first cap).run Try.prog w = .ok (.func fn first cap) w := fun _ _ _ _ => rfl
  go_wp2_with fail
  refine (tryI64_int h l e0 _ R.out).mono ?_
  rintro e w2 ⟨hg, hr, v, rfl, hv⟩
  replace hv : v = .int .i64 _ := hv
  subst hv
  have HR := Lib.hid hr
  clear hr
  go_wp2_with fail
  go_ret
  exact ⟨hg, HR.out, _, rfl, rfl⟩
/-- What is wrong in the end. -/
def rdEnd (e0 : Int) (l : List Int) : Int := if e0 = 0 ∧ l ≠ [] then 22 else e0
set_option linter.unusedSimpArgs false in
set_option linter.unusedVariables false in
set_option maxRecDepth 100000 in
set_option maxHeartbeats 1000000 in
theorem rEnd_any (h : Nat) (l : List Int) (e0 : Int) (w : World) (r : RIn B w h l e0) :
    Calls Try.prog 89 #[.pointer (some ⟨h, 0, none⟩)] w fun e w' => e = .returned (.int .i64 (rdEnd e0 l)) ∧ w = w' := by
  obtain ⟨a, n, c, r⟩ := r
  obtain ⟨c0, c1, cf⟩ := r.cells
  have hl := r.rd.len
  have hE : rdEnd e0 l = if e0 = 0 ∧ l ≠ [] then 22 else e0 := rfl
  rw [hE]
  clear r hE
  by_cases h0 : e0 = 0
  · subst h0
    by_cases hn : n = 0
    · subst hn
      rw [if_neg (fun h => h.2 (List.length_eq_zero_iff.1 hl))]
      clear hl
      go_enter Try.func89, Try.ntmps89
      go_wp2
      go_ret
      exact ⟨rfl, rfl⟩
    · rw [if_pos ⟨rfl, fun h => hn (by rw [← hl, h]; rfl)⟩]
      have d1 : decide ((0 : Int) < n) = true := decide_eq_true (by omega)
      have d2 : decide (0 < n) = true := decide_eq_true (by omega)
      clear hl
      go_enter Try.func89, Try.ntmps89
      go_wp2
      go_ret
      exact ⟨rfl, rfl⟩
  · rw [if_neg (fun h => h0 h.1)]
    have hne : (e0 == 0) = false := beq_eq_false_iff_ne.2 h0
    clear hl
    go_enter Try.func89, Try.ntmps89
    go_wp2
    go_ret
    exact ⟨rfl, rfl⟩
set_option linter.unusedSimpArgs false in
set_option linter.unusedVariables false in
set_option maxRecDepth 100000 in
set_option maxHeartbeats 1000000 in
theorem newreader_any (a : Option Addr) (n c : Nat) (l : List Int) (w : World) (hr : RdAt .u8 w a n c l) (hn : n ≤ 1000000000) :
    Calls Try.prog 49 #[.slice a n c] w fun e w' => ∃ h, e = .returned (.pointer (some ⟨h, 0, none⟩)) ∧ w.heap.size ≤ h ∧ RIn w.heap.size w' h l 0 ∧ Below w.heap.size w w' := by
  go_enter Try.func49, Try.ntmps49
  go_wp2_with fail
  refine (clone_any _ _ _ l _ hr hn).mono ?_
  rintro e w1 ⟨v1, rfl, ho1, hb1⟩
  obtain ⟨q1, hq1⟩ : ∃ q1, l.length = q1 := ⟨_, rfl⟩
  obtain ⟨a1, k1, rfl⟩ := ho1.shapeN q1 hq1
  have HO1 := Lib.hid ho1
  have HB1 := Lib.hid hb1
  have HQ1 := Lib.hid hq1
  clear ho1 hb1 hq1
  go_wp2_with fail
  go_ret
  refine ⟨_, rfl, HB1.out.size, ⟨_, _, _, heap_alloc_new _ _, HO1.out.rd.alloc _, fun q hq hn => ?_, fun q hq => HO1.out.spot q hq, fun q hq hn => ?_⟩, HB1.out.trans (((Below.refl w1.heap.size w1).alloc (Nat.le_refl _) _).mono HB1.out.size)⟩
  subst hq
  obtain ⟨b, o, e, hc⟩ := HO1.out.rd.cell 0 hn
  injection e with e
  subst e
  exact block_lt_of_cell hc
  subst hq
  obtain ⟨b, o, e, hc⟩ := HO1.out.rd.cell 0 hn
  injection e with e
  subst e
  exact owns_ge HO1.out hn
end Go.Proofs.Ytcbnebcooiagmaa
namespace Go.Proofs.Ytcbnebcooiagmaa
open Go.RowKit

theorem valFrom_small (l : List Int) (k j : Nat) (hj : j < k + 1) (hk : k ≤ 9) (h9 : k = 9 → nth l k % 128 ≤ 1) : 0 ≤ valFrom l (j + 1) (k - j) ∧ valFrom l (j + 1) (k - j) ≤ 144115188075855871 := by
  refine ⟨(valFrom_bd l _ _).1, ?_⟩
  by_cases h : k = 9
  · subst h
    by_cases hj9 : j = 9
    · subst hj9; simp [valFrom]
    · have e : 9 - j = (8 - j) + 1 := by omega
      have ht := valFrom_top l (8 - j) (j + 1) (by rw [show j + 1 + (8 - j) = 9 by omega]; exact h9 rfl)
      have hp := pow_le_of (show 7 * (8 - j) + 1 ≤ 57 by omega)
      rw [e]; omega
  · have hb := (valFrom_bd l (k - j) (j + 1)).2
    have hp := pow_le_of (show 7 * (k - j) ≤ 56 by omega)
    omega

set_option maxRecDepth 100000 in
set_option maxHeartbeats 400000 in
theorem rreadvar_any (a : Option Addr) (n c : Nat) (l : List Int) (w : World) (h : RdAt .u8 w a n c l) :
    Calls Try.prog 93 #[.slice a n c] w fun e w' => e = .returned (.tuple #[.int .u64 (rvV l n), .int .i64 (rvN l n), .int .i64 (rvE l n)]) ∧ w = w' := by
  have hmax := h.max
  have hcap := h.cap
  unfold maxLen at hmax
  go_enter Try.func93, Try.ntmps93
  go_wp2
  go_loop [5] (fun i => ∃ k : Nat, k ≤ n ∧ k ≤ 10 ∧ i = .int .i64 k ∧ ∀ j, j < k → j < n ∧ 128 ≤ nth l j) (fun i => n - (intOf i).toNat)
  case atStart => exact ⟨0, by omega, by omega, rfl, fun j hj => by omega⟩
  case round =>
    obtain ⟨k, hk, hk10, rfl, hall⟩ := hrel
    have HALL := Lib.hid hall
    clear hall
    by_cases h10 : k = 10
    · have hr := Lib.hid (rv_ten (lead_ten (l := l) (n := n) (fun j hj => HALL.out j (by omega))))
      have ht : ((k : Int) == 10) = true := by simp; omega
      have ht' : 10 ≤ (k : Int) := by omega
      clear h10
      by_cases hkn : k < n
      all_goals
        go_wp2
        go_ret3
        rw [hr.out.1, hr.out.2.1, hr.out.2.2]
        exact ⟨rfl, rfl⟩
    · have ht : ((k : Int) == 10) = false := by simp; omega
      by_cases hp : k < n
      · obtain ⟨b, o, rfl, hc⟩ := h.cell k hp
        have hb := h.byte k hp
        have hb1 := hb.1
        have hb2 := hb.2
        have hkk : ((k : Int) == n) = false := by simp; omega
        clear hb
        by_cases hgo : 128 ≤ nth l k
        · go_wp2
          go_round
          case rel => exact ⟨k + 1, by omega, by omega, by go_num, fun j hj => by by_cases e : j = k; (subst e; exact ⟨hp, hgo⟩); exact HALL.out j (by omega)⟩
          case measure => simp [intOf] <;> omega
        · have hl : lead l n = k := lead_at (by omega) HALL.out (by omega)
          have HL := Lib.hid hl
          clear hl
          by_cases hz : 0 < k ∧ nth l k = 0
          · have hr := Lib.hid (rv_form HL.out hp (Or.inl hz))
            obtain ⟨hz1, hz2⟩ := hz
            have hz3 : (nth l k == 0) = true := by simp [hz2]
            have hz4 : nth l k ≤ 0 := by omega
            clear hz2
            go_wp2
            go_ret3
            rw [hr.out.1, hr.out.2.1, hr.out.2.2]
            exact ⟨rfl, rfl⟩
          · by_cases h9 : k = 9 ∧ 1 < nth l k
            · have hr := Lib.hid (rv_form HL.out hp (Or.inr h9))
              obtain ⟨h91, h92⟩ := h9
              have hz3 : (nth l k == 0) = false := by simp; omega
              have k9 : ((k : Int) == 9) = true := by simp; omega
              have k9' : (k : Int) ≤ 9 := by omega
              have k9'' : 9 ≤ (k : Int) := by omega
              clear h91
              go_wp2
              go_ret3
              rw [hr.out.1, hr.out.2.1, hr.out.2.2]
              exact ⟨rfl, rfl⟩
            · have hr := Lib.hid (rv_ok HL.out hp (by omega) hz h9)
              have hsm := fun j hj => valFrom_small l k j hj (by omega) (fun e => by omega)
              have HS := Lib.hid hsm
              clear hsm
              have key : (((k : Int) == 9) = true ∧ nth l k ≤ 1 ∧ (nth l k == 0) = false ∧ 0 < (k : Int)) ∨ (((k : Int) == 9) = false ∧ (k : Int) ≤ 0 ∧ (nth l k == 0) = true) ∨ (((k : Int) == 9) = false ∧ (nth l k == 0) = false ∧ 0 < (k : Int)) ∨ (((k : Int) == 9) = false ∧ (nth l k == 0) = false ∧ (k : Int) ≤ 0) := by
                by_cases k9 : k = 9
                · exact Or.inl ⟨by simp; omega, by omega, by simp; omega, by omega⟩
                · by_cases z : nth l k = 0
                  · exact Or.inr (Or.inl ⟨by simp; omega, by omega, by simp [z]⟩)
                  · by_cases k0 : 0 < (k : Int)
                    · exact Or.inr (Or.inr (Or.inl ⟨by simp; omega, by simp [z], k0⟩))
                    · exact Or.inr (Or.inr (Or.inr ⟨by simp; omega, by simp [z], by omega⟩))
              clear hz h9
              rcases key with ⟨f1, f2, f3, f4⟩ | ⟨f1, f2, f3⟩ | ⟨f1, f3, f2⟩ | ⟨f1, f3, f2⟩
              all_goals
                go_wp2
                clear hb1 hb2 hc
                go_loop [6, 7] (fun x i => ∃ j : Nat, j ≤ k + 1 ∧ i = .int .i64 (j - 1) ∧ x = .int .u64 (valFrom l j (k + 1 - j))) (fun _ i => (intOf i + 1).toNat)
                case atStart => exact ⟨k + 1, by omega, by simp, by simp [valFrom]⟩
                case round =>
                  obtain ⟨j, hj, rfl, rfl⟩ := hrel
                  cases j with
                  | zero =>
                    have e : ((0 : Nat) : Int) - 1 = -1 := rfl
                    rw [e]
                    clear e
                    have hz := Lib.hid (valFrom_zero l (k + 1))
                    go_wp2
                    go_ret3
                    rw [hr.out.1, hr.out.2.1, hr.out.2.2, ← hz.out]
                    exact ⟨rfl, rfl⟩
                  | succ j =>
                    have e : ((j + 1 : Nat) : Int) - 1 = j := by omega
                    rw [e]
                    clear e
                    obtain ⟨b2, o2, e2, hc2⟩ := h.cell j (by omega)
                    injection e2 with e2
                    injection e2 with e2 e3
                    subst e2 e3
                    have hb := h.byte j (by omega)
                    have hb1 := hb.1
                    have hb2 := hb.2
                    have hf1 := (HS.out j hj).1
                    have hf2 := (HS.out j hj).2
                    have HV : Hid (valFrom l (j + 1) (k - j) * 128 + nth l j % 128 = valFrom l j (k + 1 - j)) := by
                      show _ = _
                      rw [show k + 1 - j = k - j + 1 by omega, valFrom]; omega
                    have ek : k + 1 - (j + 1) = k - j := by omega
                    rw [ek]
                    clear hb ek
                    go_wp2
                    go_round
                    case rel => exact ⟨j, by omega, rfl, by rw [HV.out]⟩
                    case measure => simp [intOf] <;> omega
      · obtain rfl : k = n := by omega
        have hr := Lib.hid (rv_short (l := l) (n := k) (lead_at (by omega) HALL.out (by omega)) (by omega))
        go_wp2
        go_ret3
        rw [hr.out.1, hr.out.2.1, hr.out.2.2]
        exact ⟨rfl, rfl⟩
end Go.Proofs.Ytcbnebcooiagmaa
namespace Go.Proofs.Ytcbnebcooiagmaa
open Go.RowKit
structure RRdr (w : World) (h : Nat) (a : Option Addr) (n c : Nat) (l : List Int) (e : Int) : Prop where
  row : w.heap[h]? = some (.cells #[.slice a n c, .int .i64 e] 103 (0, 0))
  rd : RdAt .u8 w a n c l
  lo : ∀ q, a = some q → 0 < n → q.block < h
  sp : ∀ q, a = some q → q.spot = none ∨ rvE l l.length ≠ 0
/-- The reference's reader in block h, that has these bytes left, and this error. -/
def RRIn (w : World) (h : Nat) (l : List Int) (e : Int) : Prop := ∃ a n c, RRdr w h a n c l e
section
variable {w w' : World} {h : Nat} {a : Option Addr} {n c : Nat} {l : List Int} {e : Int}
theorem RRdr.ne (r : RRdr w h a n c l e) : ∀ q, a = some q → 0 < n → q.block ≠ h := fun q h1 h2 => Nat.ne_of_lt (r.lo q h1 h2)
theorem RRdr.lt (r : RRdr w h a n c l e) : h < w.heap.size := (Array.getElem?_eq_some_iff.1 r.row).1
theorem RRIn.lt (r : RRIn w h l e) : h < w.heap.size := by obtain ⟨a, n, c, r⟩ := r; exact r.lt
theorem RRdr.cells (r : RRdr w h a n c l e) : w.cell? ⟨h, 0, none⟩ = some (.slice a n c) ∧ w.cell? ⟨h, 1, none⟩ = some (.int .i64 e) ∧ ∀ i, w.frozen? ⟨h, i, none⟩ = false := by
  have := r.row
  refine ⟨?_, ?_, fun i => frozen_of_row w h i _ _ this⟩ <;> simp [World.cell?, this]
theorem RRdr.below (r : RRdr w h a n c l e) (hb : Below w.heap.size w w') : RRdr w' h a n c l e :=
  ⟨by rw [hb.block h r.lt]; exact r.row, r.rd.below hb, r.lo, r.sp⟩
theorem RRIn.below (r : RRIn w h l e) (hb : Below w.heap.size w w') : RRIn w' h l e := by
  obtain ⟨a, n, c, r⟩ := r
  exact ⟨a, n, c, r.below hb⟩
theorem RRdr.setB {a' : Option Addr} {n' c' : Nat} {l' : List Int} (r : RRdr w h a n c l e) (rd : RdAt .u8 w a' n' c' l') (lo : ∀ q, a' = some q → 0 < n' → q.block < h) (sp : ∀ q, a' = some q → q.spot = none) :
    RRdr (w.setCell ⟨h, 0, none⟩ (.slice a' n' c')) h a' n' c' l' e :=
  ⟨heap_setCell_same _ _ _ _ _ _ r.row, rd.far (rcell_grown _ _ _ _) (fun q h1 h2 => Nat.ne_of_lt (lo q h1 h2)), lo, fun q hq => .inl (sp q hq)⟩
theorem RRdr.setE (r : RRdr w h a n c l e) (e' : Int) : RRdr (w.setCell ⟨h, 1, none⟩ (.int .i64 e')) h a n c l e' :=
  ⟨heap_setCell_same _ _ _ _ _ _ r.row, r.rd.far (rcell_grown _ _ _ _) r.ne, r.lo, r.sp⟩
theorem RRdr.grown {row : Option Nat} (r : RRdr w h a n c l e) (hg : w.grownBy w' row) (hk : ∀ k, row = some k → h < k) : RRdr w' h a n c l e := by
  refine ⟨by rw [hg.block h r.lt (fun e => by have := hk h e.symm; omega)]; exact r.row, ⟨r.rd.len, r.rd.cap, r.rd.max, fun i hi => ?_, r.rd.wf, r.rd.void⟩, r.lo, r.sp⟩
  obtain ⟨b, o, e, hc⟩ := r.rd.cell i hi
  have h1 : b < h := r.lo _ e (by omega)
  exact ⟨b, o, e, hg.cell hc (fun e' => by have := hk b e'.symm; omega)⟩
theorem RRIn.grown {row : Option Nat} (r : RRIn w h l e) (hg : w.grownBy w' row) (hk : ∀ k, row = some k → h < k) : RRIn w' h l e := by
  obtain ⟨a, n, c, r⟩ := r
  exact ⟨a, n, c, r.grown hg hk⟩
theorem RRIn.wf (r : RRIn w h l e) : ∀ y ∈ l, (Lit.int .u8 y).wf = true := by obtain ⟨a, n, c, r⟩ := r; exact r.rd.wf
/-- A reader of either kind lies apart from a block: what is written there leaves it. -/
theorem RRdr.apart {k : Nat} (r : RRdr w h a n c l e) (hg : w.grownBy w' (some k)) (hk : h ≠ k) (hne : ∀ q, a = some q → 0 < n → q.block ≠ k) : RRdr w' h a n c l e :=
  ⟨by rw [hg.block h r.lt (fun e => hk (Option.some.inj e))]; exact r.row, r.rd.far hg hne, r.lo, r.sp⟩
end
/-- A reader that has just been made of a slice. -/
theorem RRIn.made {w : World} {h : Nat} {a : Option Addr} {n c : Nat} {l : List Int} (row : w.heap[h]? = some (.cells #[.slice a n c, .int .i64 0] 103 (0, 0))) (rd : RdAt .u8 w a n c l) (lo : ∀ q, a = some q → 0 < n → q.block < h) : RRIn w h l 0 := by
  refine ⟨a, n, c, row, rd, lo, fun q hq => ?_⟩
  by_cases hn : 0 < n
  · obtain ⟨b, o, e, _⟩ := rd.cell 0 hn
    rw [e] at hq
    injection hq with hq
    exact .inl (by rw [← hq])
  · right
    have hl := rd.len
    obtain rfl : l = [] := List.length_eq_zero_iff.1 (by omega)
    decide
/-- How the reference's reading ends. -/
def RREnd {α : Type} (val : Nat → α → Value → World → Prop) (h : Nat) (r : Rd α) (w : World) (e : Ending) (w' : World) : Prop :=
  w.grownBy w' (some h) ∧ RRIn w' h r.l r.e ∧ ∃ v, e = .returned v ∧ val w.heap.size r.v v w'
set_option maxRecDepth 100000 in
theorem fail_ok (h : Nat) (l : List Int) (x : Int) (w : World) (r : RRIn w h l 0) : Calls Try.prog 92 #[.pointer (some ⟨h, 0, none⟩), .int .i64 x] w fun e w' => e = .returned (.tuple #[]) ∧ RRIn w' h l x ∧ w.grownBy w' (some h) := by
  obtain ⟨a, n, c, r⟩ := r
  obtain ⟨c0, c1, cf⟩ := r.cells
  have R := Lib.hid r
  clear r
  go_enter Try.func92, Try.ntmps92
  go_wp2
  go_end0
  exact ⟨rfl, ⟨_, _, _, R.out.setE x⟩, rcell_grown _ _ _ _⟩
set_option linter.unusedSimpArgs false in
set_option maxRecDepth 100000 in
set_option maxHeartbeats 1000000 in
theorem rrInt_any (h : Nat) (l : List Int) (e0 : Int) (w : World) (r : RRIn w h l e0) :
    Calls Try.prog 57 #[.pointer (some ⟨h, 0, none⟩)] w (RREnd isI h (rdFrom e0 0 l (rdInt l)) w) := by
  obtain ⟨a, n, c, r⟩ := r
  obtain ⟨c0, c1, cf⟩ := r.cells
  have R := Lib.hid r
  by_cases h0 : e0 = 0
  · subst h0
    rw [rdFrom_ok]
    have HL := Lib.hid r.rd.len
    by_cases he : rvE l l.length = 0
    · rw [rdInt_ok he]
      have hp := rdN_pos he
      have hle := rdN_le he
      have hcap := r.rd.cap
      have hmax := r.rd.max
      unfold maxLen at hmax
      have hV1 := rdV_bd l l.length
      have hV2 := rdV_lt l l.length (rd_nth_pos l r.rd.wf 9)
      rw [HL.out] at he hp hle hV1 hV2 ⊢
      obtain ⟨b, ad, rfl, _⟩ := r.rd.cell 0 (by omega)
      have hbh : b < h := r.lo _ rfl (by omega)
      obtain ⟨m, hm⟩ := Int.eq_ofNat_of_zero_le (show 0 ≤ rvN l n by omega)
      rw [hm] at hp hle ⊢
      obtain ⟨V, hV⟩ : ∃ V, rvV l n = V := ⟨_, rfl⟩
      rw [hV] at hV1 hV2 ⊢
      have HE := Lib.hid he
      have HM := Lib.hid hm
      have HV := Lib.hid hV
      have hif : ∀ (A B : Option Addr), (if c = m then A else B) = pkr c m A B := fun _ _ => rfl
      have R2 := Lib.hid (rd_pkr r.rd m (by omega))
      clear r he hm hV
      go_enter Try.func57, Try.ntmps57
      go_wp2_with (go_at_call 93; refine (rreadvar_any _ _ _ l _ R.out.rd).mono ?_; rintro e w1 ⟨hee, rfl⟩; rw [HE.out, HM.out, HV.out] at hee; subst hee)
      go_wp2_with (go_at_call 94; refine (rzag_any V _ hV1 hV2).mono ?_; rintro e w1 ⟨rfl, rfl⟩)
      go_ret
      exact ⟨rcell_grown _ _ _ _, ⟨_, _, _, R.out.setB R2.out (fun q hq _ => by rw [pkr_block hq]; exact hbh) (fun q hq => pkr_spot hq)⟩, _, rfl, rfl⟩
    · rw [rdInt_bad he]
      obtain ⟨E, hE⟩ : ∃ E, rvE l n = E := ⟨_, rfl⟩
      rw [HL.out, hE] at he ⊢
      have HE := Lib.hid hE
      have hne : (E != 0) = true := by simpa using he
      have HR : Hid (RRIn w h l 0) := ⟨_, _, _, R.out⟩
      clear r hE he
      go_enter Try.func57, Try.ntmps57
      go_wp2_with (go_at_call 93; refine (rreadvar_any _ _ _ l _ R.out.rd).mono ?_; rintro e w1 ⟨hee, rfl⟩; rw [HE.out] at hee; subst hee)
      refine (fail_ok h l E _ HR.out).mono ?_
      rintro e w1 ⟨rfl, hr1, hg1⟩
      have HR1 := Lib.hid hr1
      clear hr1
      go_wp2_with fail
      go_ret
      exact ⟨hg1, HR1.out, _, rfl, rfl⟩
  · rw [rdFrom_bad _ _ _ h0]
    have hne : (e0 != 0) = true := by simpa using h0
    clear r
    go_enter Try.func57, Try.ntmps57
    go_wp2_with fail
    go_ret
    exact ⟨World.grownBy.refl _ _, ⟨_, _, _, R.out⟩, _, rfl, rfl⟩
set_option maxRecDepth 100000 in
theorem rrEnd_any (h : Nat) (l : List Int) (e0 : Int) (w : World) (r : RRIn w h l e0) :
    Calls Try.prog 95 #[.pointer (some ⟨h, 0, none⟩)] w fun e w' => e = .returned (.int .i64 (rdEnd e0 l)) ∧ w = w' := by
  obtain ⟨a, n, c, r⟩ := r
  obtain ⟨c0, c1, cf⟩ := r.cells
  have hl := r.rd.len
  have hE : rdEnd e0 l = if e0 = 0 ∧ l ≠ [] then 22 else e0 := rfl
  rw [hE]
  clear r hE
  by_cases h0 : e0 = 0
  · subst h0
    by_cases hn : n = 0
    · subst hn
      rw [if_neg (fun h => h.2 (List.length_eq_zero_iff.1 hl))]
      clear hl
      go_enter Try.func95, Try.ntmps95
      go_wp2
      go_ret
      exact ⟨rfl, rfl⟩
    · rw [if_pos ⟨rfl, fun h => hn (by rw [← hl, h]; rfl)⟩]
      have d1 : decide ((0 : Int) < n) = true := decide_eq_true (by omega)
      have d2 : decide (0 < n) = true := decide_eq_true (by omega)
      clear hl
      go_enter Try.func95, Try.ntmps95
      go_wp2
      go_ret
      exact ⟨rfl, rfl⟩
  · rw [if_neg (fun h => h0 h.1)]
    have hne : (e0 == 0) = false := beq_eq_false_iff_ne.2 h0
    clear hl
    go_enter Try.func95, Try.ntmps95
    go_wp2
    go_ret
    exact ⟨rfl, rfl⟩
end Go.Proofs.Ytcbnebcooiagmaa
namespace Go.Proofs.Ytcbnebcooiagmaa
open Go.RowKit

/-- v in sevens, the least first; at most f + 1 bytes. -/
def varF : Nat → Int → List Int
  | 0, v => [v]
  | f + 1, v => if 128 ≤ v then (v % 128 + 128) :: varF f (v / 128) else [v]
theorem varF_len : ∀ (f : Nat) (v : Int), 1 ≤ (varF f v).length ∧ (varF f v).length ≤ f + 1
  | 0, v => by simp [varF]
  | f + 1, v => by
    have := varF_len f (v / 128)
    unfold varF; split <;> simp <;> omega
theorem varF_step (f : Nat) (v : Int) (h : 128 ≤ v) : varF (f + 1) v = (v % 128 + 128) :: varF f (v / 128) := by rw [varF, if_pos h]
theorem varF_last (f : Nat) (v : Int) (h : v < 128) : varF f v = [v] := by cases f with | zero => rfl | succ f => rw [varF, if_neg (by omega)]
theorem u8_or_128 (x : Int) (h1 : 0 ≤ x) (h2 : x ≤ 255) : bits .or .u8 x 128 = x % 128 + 128 := by
  obtain ⟨a, rfl⟩ := Int.eq_ofNat_of_zero_le h1
  rw [u8_or _ 128 h1 (by omega) (by omega) (by omega), Int.toNat_natCast, show (128 : Int).toNat = 128 from rfl]
  have : ∀ y : Fin 256, (y.val ||| 128) = y.val % 128 + 128 := by decide +kernel
  have := this ⟨a, by omega⟩
  simp only at this
  omega
theorem u8_or_128' (y : Int) : bits .or .u8 (y % 256) 128 = y % 128 + 128 := by rw [u8_or_128 _ (by omega) (by omega)]; omega
theorem wf_128 (y : Int) : (Lit.int .u8 (y % 128 + 128)).wf = true := WalkArith.wf_u8 (by omega)

set_option maxRecDepth 100000 in
theorem var_any (a : Option Addr) (n c : Nat) (l : List Int) (v : Int) (w : World) (h : RdAt .u8 w a n c l) (hn : n ≤ 1000000000)
    (v1 : 0 ≤ v) (v2 : v ≤ 18446744073709551615) :
    Calls Try.prog 75 #[.slice a n c, .int .u64 v] w fun e w' => ∃ r, e = .returned r ∧ Owns .u8 5 w' w.heap.size r (l ++ varF 9 v) ∧ Below w.heap.size w w' := by
  have hlen := h.len
  go_enter Try.func75, Try.ntmps75
  go_wp2_with (at_builtin; refine app_all u8T u8I (by decide) rfl _ _ rfl _ w.heap.size _ [] rfl (Owns.empty _ _ _ _ _ _) _ _ _ l rfl (h.below ((Below.refl _ _).alloc (Nat.le_refl _) _)) (by simp; omega) (by simp) ?_; intro x1 w1 ho1 hg0)
  have hb1 := hg0.fromEmpty
  clear hg0
  go_loopw [1, 5] (fun y x wr => ∃ (q : Int) (f : Nat) (acc : List Int), f ≤ 9 ∧ acc.length + f = n + 9 ∧ 0 ≤ q ∧ q ≤ 18446744073709551615 ∧ q < 2 ^ (7 * f + 7) ∧ y = .int .u64 q ∧ Owns .u8 5 wr w.heap.size x acc ∧ Below w.heap.size w wr ∧ Hid (acc ++ varF f q = l ++ varF 9 v)) (fun y _ _ => (intOf y).toNat)
  case atStart => exact ⟨v, 9, l, by omega, by omega, v1, v2, by omega, rfl, by simpa using ho1, hb1, rfl⟩
  case round =>
    obtain ⟨q, f, acc, hf, hacc, hq0, hq1, hq2, rfl, ho, hb, hl⟩ := hrel
    have hsz := hb.size
    have HA := Lib.hid hacc
    have HL := Lib.hid hlen
    clear hlen hacc ho1 hb1
    by_cases hp : 128 ≤ q
    · cases f with
      | zero => exfalso; simp at hq2; omega
      | succ f =>
        have hq3 : q / 128 < 2 ^ (7 * f + 7) := by rw [show 7 * (f + 1) + 7 = 7 * f + 7 + 7 by omega, Int.pow_add] at hq2; omega
        have ho128 := u8_or_128' q
        clear hq2
        go_wp2_with (at_builtin; refine app_one u8T u8I (by decide) rfl _ _ rfl _ w.heap.size _ acc rfl ho _ rfl ?_ (by have := HA.out; omega) hsz ?_; exact wf_128 _; intro x2 w2 ho2 hb2)
        go_roundw
        case rel => exact ⟨q / 128, f, _, by omega, by have := HA.out; simp; omega, by omega, by omega, hq3, rfl, ho2, hb.trans (hb2.below hsz (fun g hg => (ho.at_base g hg).1)), by have := hl.out; rw [varF_step f q hp] at this; show _ = _; simpa using this⟩
        case measure => simp [intOf] <;> omega
    · go_wp2_with (at_builtin; refine app_one u8T u8I (by decide) rfl _ _ rfl _ w.heap.size _ acc rfl ho _ rfl ?_ (by have := HA.out; omega) hsz ?_; exact WalkArith.wf_u8 (by omega); intro x2 w2 ho2 hb2)
      go_ret
      exact ⟨_, rfl, by have := hl.out; rw [varF_last f q (by omega)] at this; rw [← this]; exact ho2, hb.trans (hb2.below hsz (fun g hg => (ho.at_base g hg).1))⟩

set_option maxRecDepth 100000 in
theorem rvar_any (x0 : Value) (l : List Int) (v : Int) (w : World) (base : Nat) (h : Owns .u8 5 w base x0 l) (hbase : base ≤ w.heap.size) (hn : l.length ≤ 1000000000)
    (v1 : 0 ≤ v) (v2 : v ≤ 18446744073709551615) :
    Calls Try.prog 81 #[x0, .int .u64 v] w fun e w' => ∃ r, e = .returned r ∧ Owns .u8 5 w' base r (l ++ varF 9 v) ∧ Grows w x0 w' r := by
  go_enter Try.func81, Try.ntmps81
  go_wp2
  go_loopw [0, 1] (fun x y wr => ∃ (q : Int) (f : Nat) (acc : List Int), f ≤ 9 ∧ acc.length + f = l.length + 9 ∧ 0 ≤ q ∧ q ≤ 18446744073709551615 ∧ q < 2 ^ (7 * f + 7) ∧ y = .int .u64 q ∧ Owns .u8 5 wr base x acc ∧ Grows w x0 wr x ∧ Hid (acc ++ varF f q = l ++ varF 9 v)) (fun _ y _ => (intOf y).toNat)
  case atStart => exact ⟨v, 9, l, by omega, by omega, v1, v2, by omega, rfl, h, Grows.refl _ _, rfl⟩
  case round =>
    obtain ⟨q, f, acc, hf, hacc, hq0, hq1, hq2, rfl, ho, hb, hl⟩ := hrel
    have hsz := hb.1.size
    have HA := Lib.hid hacc
    clear hacc
    by_cases hp : 128 ≤ q
    · cases f with
      | zero => exfalso; simp at hq2; omega
      | succ f =>
        have hq3 : q / 128 < 2 ^ (7 * f + 7) := by rw [show 7 * (f + 1) + 7 = 7 * f + 7 + 7 by omega, Int.pow_add] at hq2; omega
        clear hq2
        go_wp2_with (at_builtin; refine app_one u8T u8I (by decide) rfl _ _ rfl _ base _ acc rfl ho _ rfl ?_ (by have := HA.out; omega) (by omega) ?_; exact wf_128 _; intro x2 w2 ho2 hb2)
        go_roundw
        case rel => exact ⟨q / 128, f, _, by omega, by have := HA.out; simp; omega, by omega, by omega, hq3, rfl, ho2, hb.trans hb2, by have := hl.out; rw [varF_step f q hp] at this; show _ = _; simpa using this⟩
        case measure => simp [intOf] <;> omega
    · go_wp2_with (at_builtin; refine app_one u8T u8I (by decide) rfl _ _ rfl _ base _ acc rfl ho _ rfl ?_ (by have := HA.out; omega) (by omega) ?_; exact WalkArith.wf_u8 (by omega); intro x2 w2 ho2 hb2)
      go_ret
      exact ⟨_, rfl, by have := hl.out; rw [varF_last f q (by omega)] at this; rw [← this]; exact ho2, hb.trans hb2⟩
end Go.Proofs.Ytcbnebcooiagmaa
namespace Go.Proofs.Ytcbnebcooiagmaa
open Go.RowKit
theorem bk_zero (x : Int) (t : List Int) : nth (x :: t) 0 = x := rfl
theorem bk_succ (x : Int) (t : List Int) (j : Nat) : nth (x :: t) (j + 1) = nth t j := by simp [nth, List.getD]
theorem bk_app {l r : List Int} {j : Nat} (h : j < l.length) : nth (l ++ r) j = nth l j := by simp [nth, List.getD, List.getElem?_append_left h]
theorem valFrom_cons (x : Int) (t : List Int) : ∀ (n i : Nat), valFrom (x :: t) (i + 1) n = valFrom t i n
  | 0, _ => rfl
  | n + 1, i => by rw [valFrom, valFrom, valFrom_cons x t n (i + 1), bk_succ]
theorem valK_congr {l r : List Int} : ∀ (n : Nat), (∀ j, j < n → nth l j = nth r j) → valK l n = valK r n
  | 0, _ => rfl
  | n + 1, h => by rw [valK, valK, valK_congr n (fun j hj => h j (by omega)), h n (by omega)]

def VarOk (A : List Int) (v : Int) : Prop :=
    (∀ j, j + 1 < A.length → 128 ≤ nth A j) ∧ nth A (A.length - 1) < 128 ∧ nth A (A.length - 1) = v / 2 ^ (7 * (A.length - 1)) ∧
    (1 < A.length → nth A (A.length - 1) ≠ 0) ∧ valFrom A 0 A.length = v ∧ 1 ≤ A.length
theorem VarOk.one {v : Int} (h0 : 0 ≤ v) (h1 : v < 128) : VarOk [v] v := by
  unfold VarOk
  simp [nth, valFrom]; omega
theorem VarOk.step {A : List Int} {v : Int} (h : 128 ≤ v) (hA : VarOk A (v / 128)) : VarOk ((v % 128 + 128) :: A) v := by
  obtain ⟨i1, i2, i3, i4, i5, hl⟩ := hA
  unfold VarOk
  rw [List.length_cons]
  generalize A.length = L at *
  have e1 : L + 1 - 1 = (L - 1) + 1 := by omega
  rw [e1]
  refine ⟨fun j hj => ?_, ?_, ?_, fun _ => ?_, ?_, by omega⟩
  · cases j with
    | zero => rw [bk_zero]; omega
    | succ j => rw [bk_succ]; exact i1 j (by omega)
  · rw [bk_succ]; exact i2
  · rw [bk_succ, i3, show 7 * (L - 1 + 1) = 7 + 7 * (L - 1) by omega, Int.pow_add, ← Int.ediv_ediv_of_nonneg (Int.pow_nonneg (by decide))]
    rfl
  · rw [bk_succ]
    by_cases hL1 : 1 < L
    · exact i4 hL1
    · rw [i3, show L - 1 = 0 by omega]; simp; omega
  · rw [valFrom, bk_zero, valFrom_cons, i5]; omega
theorem varF_spec (f : Nat) : ∀ (v : Int), 0 ≤ v → v < 2 ^ (7 * f + 7) → VarOk (varF f v) v := by
  induction f with
  | zero => intro v h0 hb; exact VarOk.one h0 (by simpa using hb)
  | succ f ih =>
    intro v h0 hb
    by_cases h : 128 ≤ v
    · rw [varF_step f v h]
      exact VarOk.step h (ih (v / 128) (by omega) (by rw [show 7 * (f + 1) + 7 = 7 * f + 7 + 7 by omega, Int.pow_add] at hb; omega))
    · rw [varF_last _ _ (by omega)]
      exact VarOk.one h0 (by omega)

/-- ReadVar tells what Var laid, whatever stands behind it. -/
theorem readvar_var (u : Int) (h0 : 0 ≤ u) (h1 : u ≤ 18446744073709551615) (more : List Int) (N : Nat) (hN : N = (varF 9 u ++ more).length) :
    rvV (varF 9 u ++ more) N = u ∧ rvN (varF 9 u ++ more) N = (varF 9 u).length ∧ rvE (varF 9 u ++ more) N = 0 := by
  obtain ⟨i1, i2, i3, i4, i5, _⟩ := varF_spec 9 u h0 (by omega)
  obtain ⟨l1, l2⟩ := varF_len 9 u
  generalize hA : varF 9 u = A at *
  generalize hL : A.length = L at *
  rw [List.length_append, hL] at hN
  have hn (j : Nat) (hj : j < L) : nth (A ++ more) j = nth A j := bk_app (by omega)
  have hlead : lead (A ++ more) N = L - 1 := lead_at (by omega) (fun j hj => ⟨by omega, by rw [hn j (by omega)]; exact i1 j (by omega)⟩) (by rw [hn _ (by omega)]; omega)
  have h9 : L - 1 = 9 → nth A (L - 1) ≤ 1 := fun h => by rw [i3, h]; simp; omega
  obtain ⟨r1, r2, r3⟩ := rv_ok hlead (by omega) (by omega) (by rw [hn _ (by omega)]; intro ⟨a, b⟩; exact i4 (by omega) b) (by rw [hn _ (by omega)]; intro ⟨a, b⟩; have := h9 a; omega)
  refine ⟨?_, ?_, r3⟩
  · rw [r1, show L - 1 + 1 = L by omega, valK_congr L (fun j hj => hn j hj), ← valFrom_zero]; exact i5
  · rw [r2]; omega

end Go.Proofs.Ytcbnebcooiagmaa
