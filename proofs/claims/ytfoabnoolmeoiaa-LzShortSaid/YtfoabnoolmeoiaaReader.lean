/- lz's reader: what lies in it, and the contract of next. -/
import Derived.Test.YtfoabnoolmeoiaaLzLaw
import Derived.Test.YtfoabnoolmeoiaaVarAt
import Derived.Test.YtfoabnoolmeoiaaU8
namespace Go.Proofs.Ytfoabnoolmeoiaa
open Go.RowKit
structure RdrAt (w : World) (h : Nat) (a : Option Addr) (n c : Nat) (x : List Int) (v : Value) (o : List Int) (most lit cop : Int) : Prop where
  row : w.heap[h]? = some (.cells #[.slice a n c, v, .int .i64 most, .int .i64 lit, .int .i64 cop] 43 (0, 0))
  rd : RdAt .u8 w a n c x
  low : ∀ q, a = some q → 0 < n → q.block < h
  own : Owns .u8 5 w (h + 1) v o
theorem rd_low {k : IntKind} {w w' : World} {h : Nat} {a : Option Addr} {n c : Nat} {x : List Int} (r : RdAt k w a n c x) (low : ∀ q, a = some q → 0 < n → q.block < h) (b : Below h w w') : RdAt k w' a n c x :=
  ⟨r.len, r.cap, r.max, fun i hi => by
    obtain ⟨g, o, e, hc⟩ := r.cell i hi
    have := low _ e (by omega)
    exact ⟨g, o, e, by rw [b.cell (show g < h from this)]; exact hc⟩, r.wf, r.void⟩
theorem cells5 {w : World} {h T : Nat} {x0 x1 x2 x3 x4 : Value} (r : w.heap[h]? = some (.cells #[x0, x1, x2, x3, x4] T (0, 0))) :
    w.cell? ⟨h, 0, none⟩ = some x0 ∧ w.cell? ⟨h, 1, none⟩ = some x1 ∧ w.cell? ⟨h, 2, none⟩ = some x2 ∧ w.cell? ⟨h, 3, none⟩ = some x3 ∧ w.cell? ⟨h, 4, none⟩ = some x4 ∧ ∀ i, w.frozen? ⟨h, i, none⟩ = false := by
  refine ⟨?_, ?_, ?_, ?_, ?_, fun i => frozen_of_row w h i _ _ r⟩ <;> simp [World.cell?, r]
theorem cell_grown (w : World) (h i : Nat) (x : Value) : w.grownBy (w.setCell ⟨h, i, none⟩ x) (some h) :=
  ⟨rfl, rfl, rfl, by simp, fun k _ hk => heap_setCell_other w ⟨h, i, none⟩ k x (fun e => hk (by simp [e]))⟩
section
variable {w : World} {h : Nat} {a : Option Addr} {n c : Nat} {x : List Int} {v : Value} {o : List Int} {most lit cop : Int}
theorem RdrAt.lt (r : RdrAt w h a n c x v o most lit cop) : h < w.heap.size := (Array.getElem?_eq_some_iff.1 r.row).1
theorem own_cell (r : Owns .u8 5 w (h + 1) v o) (i : Nat) (y : Value) : Owns .u8 5 (w.setCell ⟨h, i, none⟩ y) (h + 1) v o :=
  r.grown (cell_grown w h i y) (fun g hg e => by injection e with e; have := (r.at_base g hg).1; omega)
theorem below_cell (w : World) (h i : Nat) (y : Value) : Below h w (w.setCell ⟨h, i, none⟩ y) := (Below.refl h w).setCell (Nat.le_refl _) _
theorem RdrAt.setB (r : RdrAt w h a n c x v o most lit cop) {a' : Option Addr} {n' c' : Nat} {x' : List Int} (rd : RdAt .u8 w a' n' c' x') (low : ∀ q, a' = some q → 0 < n' → q.block < h) :
    RdrAt (w.setCell ⟨h, 0, none⟩ (.slice a' n' c')) h a' n' c' x' v o most lit cop :=
  ⟨heap_setCell_same _ _ _ _ _ _ r.row, rd_low rd low (below_cell _ _ _ _), low, own_cell r.own _ _⟩
theorem RdrAt.setL (r : RdrAt w h a n c x v o most lit cop) (l : Int) : RdrAt (w.setCell ⟨h, 3, none⟩ (.int .i64 l)) h a n c x v o most l cop :=
  ⟨heap_setCell_same _ _ _ _ _ _ r.row, rd_low r.rd r.low (below_cell _ _ _ _), r.low, own_cell r.own _ _⟩
theorem RdrAt.setC (r : RdrAt w h a n c x v o most lit cop) (l : Int) : RdrAt (w.setCell ⟨h, 4, none⟩ (.int .i64 l)) h a n c x v o most lit l :=
  ⟨heap_setCell_same _ _ _ _ _ _ r.row, rd_low r.rd r.low (below_cell _ _ _ _), r.low, own_cell r.own _ _⟩
theorem rd_empty (w : World) (a : Option Addr) (h : a = none → c = 0) (hc : c ≤ maxLen) : RdAt .u8 w a 0 c [] := ⟨rfl, Nat.zero_le _, hc, fun i hi => by omega, by simp, h⟩
end
theorem rd_drop {kd : IntKind} {w : World} {b o n c : Nat} {l : List Int} (h : RdAt kd w (some ⟨b, o, none⟩) n c l) (k : Nat) (hk : k ≤ n) : RdAt kd w (some ⟨b, o + k, none⟩) (n - k) (c - k) (l.drop k) :=
  ⟨by rw [List.length_drop, h.len], by have := h.cap; omega, by have := h.max; omega, fun i hi => by
    obtain ⟨b', o', e, hc⟩ := h.cell (k + i) (by omega)
    injection e with e
    injection e with e1 e2
    subst e1 e2
    refine ⟨_, _, rfl, ?_⟩
    rw [Nat.add_assoc, hc]; congr 1
    have hl := h.len
    rw [nth_eq (by omega), nth_eq (by rw [List.length_drop]; omega), List.getElem_drop], fun x hx => h.wf x (List.mem_of_mem_drop hx), fun h => by cases h⟩
theorem rd_take {kd : IntKind} {w : World} {a : Option Addr} {n c : Nat} {l : List Int} (h : RdAt kd w a n c l) (k c' : Nat) (hk : k ≤ n) (hc' : k ≤ c') (hcm : c' ≤ c) (hv : a = none → c' = 0) : RdAt kd w a k c' (l.take k) :=
  ⟨by rw [List.length_take, h.len]; omega, hc', Nat.le_trans hcm h.max, fun i hi => by
    obtain ⟨b, o, e, hc⟩ := h.cell i (by omega)
    refine ⟨b, o, e, ?_⟩
    rw [hc]; congr 1
    have hl := h.len
    rw [nth_eq (by omega), nth_eq (by rw [List.length_take]; omega), List.getElem_take], fun x hx => h.wf x (List.mem_of_mem_take hx), hv⟩
set_option maxRecDepth 100000 in
set_option maxHeartbeats 1000000 in
theorem next_ok (h : Nat) (a : Option Addr) (n c : Nat) (x : List Int) (v : Value) (o : List Int) (most lit cop : Int) (w : World) (r : RdrAt w h a n c x v o most lit cop) (he : rvE x n = 0) :
    Calls Try.prog 27 #[.pointer (some ⟨h, 0, none⟩)] w fun e w' => e = .returned (.tuple #[.int .u64 (rvV x n), .int .i64 0]) ∧ (∃ a' c', RdrAt w' h a' (n - (rvN x n).toNat) c' (x.drop (rvN x n).toNat) v o most lit cop) ∧ Below h w w' := by
  have h1 := rvN_pos he
  have h2 := rvN_le he
  obtain ⟨k, hk⟩ := Int.eq_ofNat_of_zero_le (show 0 ≤ rvN x n by omega)
  rw [hk] at h1 h2
  rw [hk, Int.toNat_natCast]
  obtain ⟨b, ad, rfl, _⟩ := r.rd.cell 0 (by omega)
  have hcap := r.rd.cap
  have hmax := r.rd.max
  unfold maxLen at hmax
  have hlow := r.low _ rfl (by omega)
  obtain ⟨c0, _, _, _, _, cf⟩ := cells5 r.row
  have cf0 := cf 0
  have R := Lib.hid r
  have HK := Lib.hid hk
  have HE := Lib.hid he
  clear r cf hk he
  by_cases hck : c = k
  · obtain rfl : k = n := by omega
    subst hck
    have hB := R.out.setB (a' := some ⟨b, ad, none⟩) (n' := 0) (c' := 0) (x' := x.drop c) (by rw [List.drop_of_length_le (by rw [R.out.rd.len]; omega)]; exact rd_empty _ _ (by simp) (by unfold maxLen; omega)) (fun q hq hn => by omega)
    have HBB := Lib.hid hB
    clear hB
    go_enter Try.func27, Try.ntmps27
    go_wp2_with (go_at_call 31; refine (readvar_any _ _ _ x _ R.out.rd).mono ?_; rintro e w' ⟨hee, rfl⟩; rw [HK.out, HE.out] at hee; subst hee)
    go_ret2
    exact ⟨rfl, ⟨_, 0, by rw [Nat.sub_self]; exact HBB.out⟩, below_cell _ _ _ _⟩
  · have hck2 : k < c := by omega
    have hB := R.out.setB (a' := some ⟨b, ad + k, none⟩) (n' := n - k) (c' := c - k) (x' := x.drop k) (rd_drop R.out.rd k (by omega)) (fun q hq _ => by injection hq with hq; subst hq; exact hlow)
    have HBB := Lib.hid hB
    clear hB hck
    go_enter Try.func27, Try.ntmps27
    go_wp2_with (go_at_call 31; refine (readvar_any _ _ _ x _ R.out.rd).mono ?_; rintro e w' ⟨hee, rfl⟩; rw [HK.out, HE.out] at hee; subst hee)
    go_ret2
    exact ⟨rfl, ⟨_, _, HBB.out⟩, below_cell _ _ _ _⟩
set_option maxRecDepth 100000 in
set_option maxHeartbeats 1000000 in
theorem next_err (h : Nat) (a : Option Addr) (n c : Nat) (x : List Int) (v : Value) (o : List Int) (most lit cop : Int) (w : World) (r : RdrAt w h a n c x v o most lit cop) (he : rvE x n ≠ 0) :
    Calls Try.prog 27 #[.pointer (some ⟨h, 0, none⟩)] w fun e w' => e = .returned (.tuple #[.int .u64 0, .int .i64 (rvE x n)]) ∧ Below h w w' := by
  have hn0 : rvN x n = 0 := by unfold rvN; rw [if_neg he]
  have hv0 : rvV x n = 0 := by unfold rvV; rw [if_neg he]
  have hcap := r.rd.cap
  have hmax := r.rd.max
  unfold maxLen at hmax
  have hvoid := r.rd.void
  obtain ⟨c0, _, _, _, _, cf⟩ := cells5 r.row
  have cf0 := cf 0
  have R := Lib.hid r
  have HN := Lib.hid hn0
  have HV := Lib.hid hv0
  clear r cf he hn0 hv0
  have hlow := R.out.rd.cell
  by_cases hc0 : c = 0
  · subst hc0
    obtain rfl : n = 0 := by omega
    clear hlow
    cases a with
    | none =>
      clear hvoid
      go_enter Try.func27, Try.ntmps27
      go_wp2_with (go_at_call 31; refine (readvar_any _ _ _ x _ R.out.rd).mono ?_; rintro e w' ⟨hee, rfl⟩; rw [HN.out, HV.out] at hee; subst hee)
      go_ret2
      exact ⟨rfl, below_cell _ _ _ _⟩
    | some q =>
      clear hvoid
      go_enter Try.func27, Try.ntmps27
      go_wp2_with (go_at_call 31; refine (readvar_any _ _ _ x _ R.out.rd).mono ?_; rintro e w' ⟨hee, rfl⟩; rw [HN.out, HV.out] at hee; subst hee)
      go_ret2
      exact ⟨rfl, below_cell _ _ _ _⟩
  · clear hlow
    cases a with
    | none => exact absurd (hvoid rfl) hc0
    | some q =>
      clear hvoid
      have hcp : 0 < c := by omega
      go_enter Try.func27, Try.ntmps27
      go_wp2_with (go_at_call 31; refine (readvar_any _ _ _ x _ R.out.rd).mono ?_; rintro e w' ⟨hee, rfl⟩; rw [HN.out, HV.out] at hee; subst hee)
      go_ret2
      exact ⟨rfl, below_cell _ _ _ _⟩
end Go.Proofs.Ytfoabnoolmeoiaa
