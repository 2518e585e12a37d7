/- Slices of numbers as the walk reads them: 'RdAt k w a n c l': the slice (a, n, c) reads in w as the numbers l. No program in sight. -/
import Derived.WalkKit
import Derived.Lib.Hide
import Derived.Test.YtfoabnoolmeoiaaBits
namespace Go.Proofs.Ytfoabnoolmeoiaa
open Go.RowKit

def nth (l : List Int) (i : Nat) : Int := l.getD i 0

theorem nth_eq {l : List Int} {i : Nat} (h : i < l.length) : nth l i = l[i] := by simp [nth, List.getD, h]
theorem nth_out {l : List Int} {i : Nat} (h : l.length ≤ i) : nth l i = 0 := by simp [nth, List.getD, h]

structure RdAt (k : IntKind) (w : World) (a : Option Addr) (n c : Nat) (l : List Int) : Prop where
  len : l.length = n
  cap : n ≤ c
  max : c ≤ maxLen
  cell : ∀ i, i < n → ∃ b o, a = some ⟨b, o, none⟩ ∧ w.cell? ⟨b, o + i, none⟩ = some (.int k (nth l i))
  wf : ∀ x ∈ l, (Lit.int k x).wf = true
  void : a = none → c = 0

theorem RdAt.wfAt {k : IntKind} {w : World} {a : Option Addr} {n c : Nat} {l : List Int} (h : RdAt k w a n c l) (i : Nat) (hi : i < n) : (Lit.int k (nth l i)).wf = true := by
  have hl := h.len
  apply h.wf
  rw [nth_eq (by omega)]
  exact List.getElem_mem _

theorem wf_u8_bd {x : Int} (h : (Lit.int .u8 x).wf = true) : 0 ≤ x ∧ x ≤ 255 := by
  simp [Lit.wf, IntKind.min, IntKind.max, IntKind.signed, IntKind.bits] at h; omega
theorem wf_i64_bd {x : Int} (h : (Lit.int .i64 x).wf = true) : -9223372036854775808 ≤ x ∧ x ≤ 9223372036854775807 := by
  simp [Lit.wf, IntKind.min, IntKind.max, IntKind.signed, IntKind.bits] at h; omega
theorem wf_u64_bd {x : Int} (h : (Lit.int .u64 x).wf = true) : 0 ≤ x ∧ x ≤ 18446744073709551615 := by
  simp [Lit.wf, IntKind.min, IntKind.max, IntKind.signed, IntKind.bits] at h; omega
theorem wf_u32_bd {x : Int} (h : (Lit.int .u32 x).wf = true) : 0 ≤ x ∧ x ≤ 4294967295 := by
  simp [Lit.wf, IntKind.min, IntKind.max, IntKind.signed, IntKind.bits] at h; omega

theorem RdAt.byte {w : World} {a : Option Addr} {n c : Nat} {l : List Int} (h : RdAt .u8 w a n c l) (i : Nat) (hi : i < n) : 0 ≤ nth l i ∧ nth l i ≤ 255 := wf_u8_bd (h.wfAt i hi)

theorem RdAt.below {k : IntKind} {w w' : World} {a : Option Addr} {n c : Nat} {l : List Int} (h : RdAt k w a n c l) (hb : Below w.heap.size w w') : RdAt k w' a n c l :=
  ⟨h.len, h.cap, h.max, fun i hi => by
    obtain ⟨b, o, e, hc⟩ := h.cell i hi
    have hlt : b < w.heap.size := block_lt_of_cell hc
    exact ⟨b, o, e, by rw [hb.cell hlt]; exact hc⟩, h.wf, h.void⟩

theorem RdAt.nil (k : IntKind) (w : World) : RdAt k w none 0 0 [] := ⟨rfl, Nat.le_refl _, by unfold maxLen; omega, fun i hi => by omega, by simp, fun _ => rfl⟩

/-- What the call owns reads so. -/
theorem RdAt.owned {k : IntKind} {w : World} {base : Nat} {e : TypeId} {a : Option Addr} {n c : Nat} {l : List Int} (h : w.ownsRow base e 1 (.slice a n c) n (l.map (Value.int k))) (hw : ∀ x ∈ l, (Lit.int k x).wf = true) : RdAt k w a n c l := by
  have hl : l.length = n := by have := h.1; simpa using this
  rcases h.2 with ⟨hv, hn⟩ | ⟨g, cap, cur, hv, _, hh, hnc, hcm, hcs, htake⟩
  · injection hv with h1 h2 h3
    subst h1 h2 h3
    exact ⟨hl, Nat.le_refl _, by unfold maxLen; omega, fun i hi => by omega, hw, fun _ => rfl⟩
  · injection hv with h1 h2 h3
    subst h1 h3
    refine ⟨hl, hnc, hcm, fun i hi => ⟨g, 0, rfl, ?_⟩, hw, fun e => by cases e⟩
    have hc := World.ownsRow.cellAt h i (by omega)
    rw [Nat.zero_add, hc]
    rw [List.getElem?_map, List.getElem?_eq_getElem (by omega), nth_eq (by omega)]
    rfl
theorem wf_mod8 (x : Int) : (Lit.int .u8 (x % 256)).wf = true := WalkArith.wf_u8 (by omega)
theorem wf_mod32 (x : Int) : (Lit.int .u32 (x % 4294967296)).wf = true := WalkArith.wf_u32 (by omega)
/-- string(b): the bytes as a string. -/
theorem conv_rd {P : Program} {src dst e : TypeId} (hs : P.underlying src = some (.slice e)) (he : P.underlying e = some (.int .u8)) (hd : P.underlying dst = some .string)
    {w : World} {a : Option Addr} {n c : Nat} {l : List Int} (h : RdAt .u8 w a n c l) : (convert src dst (.slice a n c)).run P w = .ok (.string (strOfNums l)) w := by
  have hlen := h.len
  cases a with
  | none =>
    have hn : n = 0 := by
      cases n with
      | zero => rfl
      | succ n => obtain ⟨_, _, h', _⟩ := h.cell 0 (by omega); cases h'
    subst hn
    obtain rfl : l = [] := List.eq_nil_of_length_eq_zero hlen
    exact run_convert_bytes_nil w src e hs he 0 c dst hd
  | some ad =>
    by_cases hn : n = 0
    · subst hn
      obtain rfl : l = [] := List.eq_nil_of_length_eq_zero hlen
      rw [run_convert_bytes_string w src dst e _ 0 c hs he hd, run_bytesToString w _ 0 c [] (by simp [loadCells, loadCellsFrom])]
      rfl
    · obtain ⟨b, o, e1, _⟩ := h.cell 0 (by omega)
      injection e1 with e1
      subst e1
      refine run_convert_bytes_arg w src e hs he b o n c l hlen (fun i hi => ?_) dst hd
      obtain ⟨b', o', e2, hc⟩ := h.cell i hi
      injection e2 with e2
      injection e2 with e2 e3
      subst e2 e3
      exact hc
/-- A slice of numbers as the row's reading gives it. -/
theorem RdAt.of_row {k : IntKind} {w : World} {x : Addr} {len cap : Nat} {zs : List Int} (hl : len ≤ cap) (hm : cap ≤ maxLen) (hz : zs.length = cap)
    (hcell : ∀ i, i < zs.length → w.cell? (x.add i) = some (.int k (zs.getD i 0))) (hwz : ∀ n ∈ zs, (Lit.int k n).wf = true) : RdAt k w (some x) len cap (zs.take len) := by
  refine ⟨by simp; omega, hl, hm, fun i hi => ?_, fun n hn => hwz n (List.mem_of_mem_take hn), fun h => by cases h⟩
  obtain ⟨b, o, sp⟩ := x
  have h0 := hcell 0 (by omega)
  have hsp : sp = none := by simpa [Addr.add] using World.cell?_spot h0
  subst hsp
  refine ⟨b, o, rfl, ?_⟩
  have h1 := hcell i (by omega)
  rw [Addr.add_lit] at h1
  rw [h1]
  unfold nth
  simp [List.getD, hi]
theorem RdAt.alloc {k : IntKind} {w : World} {a : Option Addr} {n c : Nat} {l : List Int} (h : RdAt k w a n c l) (o : Obj) : RdAt k (w.alloc o) a n c l := h.below ((Below.refl _ _).alloc (Nat.le_refl _) o)
end Go.Proofs.Ytfoabnoolmeoiaa
