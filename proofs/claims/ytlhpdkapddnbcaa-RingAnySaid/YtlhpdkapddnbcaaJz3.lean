/- ring: a journal in the middle of a disk whose power stays on: one record more. disk: the chapter's example. disk: Of. ring: any bytes as a disk; a journal opened in it; one record more, whatever its numbers are. RingAny: the walk. RingAny: for every input the law returns true, and every argument reads as it did: the row round the walk. -/
import Derived.Test.YtlhpdkapddnbcaaJn0
import Derived.Test.YtlhpdkapddnbcaaJn14
import Derived.Test.YtlhpdkapddnbcaaJn13
import Derived.Test.YtlhpdkapddnbcaaJn3
import Derived.Test.YtlhpdkapddnbcaaJz2
import Derived.Laws.CopyOwn
import Derived.Deep.CutBlock
import Derived.Deep.DeepCutAuto
import Derived.Test.YtlhpdkapddnbcaaRows
import Derived.WalkKit
import Derived.ProofKit
import Derived.OpenShut
import Derived.ShutString
import Derived.ChangeOld
import Derived.Below
namespace Go.Proofs.Ytlhpdkapddnbcaa
open Go.RowKit
/-- A play's block as begun makes it. -/
def rowG (d r n : Nat) : Obj := .cells #[.pointer (some ⟨d, 0, none⟩), .pointer (some ⟨r, 0, none⟩), .int .i64 2, .int .i64 (n : Int), .slice none 0 0, .int .u64 1, .bool false, .slice none 0 0, .int .u64 0] 31 (0, 0)
/-- Behind i records. -/
structure RmIn (w0 w : World) (g d r : Nat) (Q : Nat → Prop) (n size i : Nat) (st : Dk) (J : Jr) : Prop where
  row : w.heap[g]? = some (rowG d r n)
  ri : RiIn w Q r d st J
  ng : ¬ Q g
  base : ∀ k, Q k → w0.heap.size ≤ k
  gb : w0.heap.size ≤ g
  below : Below w0.heap.size w0 w
  jn : J.n = n
  jsz : J.size = size
  off : st.off = false
  pend : st.pend = []
  armed : st.armed = 0
  nx : J.h.next = 1 + i
  tn : J.h.turn ≤ 4611686018427387909 + i
  wr : st.writes ≤ 2 + 70000 * i
theorem Begun.rm {w0 w : World} {g d r : Nat} {Q : Nat → Prop} {n size : Nat} (h : Begun w0 w g d r Q n size) : RmIn w0 w g d r Q n size 0 (fmS (dk0 (n + 4) size) 2 size (bgT n size)) (fmJ 2 n size (bgT n size)) :=
  ⟨h.row, h.ri, h.ng, h.base, h.gb, h.below, rfl, rfl, rfl, rfl, rfl, rfl, by have := (bgT_bd n size).2.1; show bgT n size + 1 ≤ 4611686018427387909 + ((0 : Nat) : Int); omega, by show (0 : Int) + 1 + 1 ≤ 2 + 70000 * ((0 : Nat) : Int); omega⟩
section
variable {w0 w w' : World} {g d r : Nat} {Q : Nat → Prop} {n size i : Nat} {st : Dk} {J : Jr}
theorem RmIn.more (h : RmIn w0 w g d r Q n size i st J) (b : Below w.heap.size w w') : RmIn w0 w' g d r Q n size i st J :=
  ⟨row_keep h.row b, h.ri.below b, h.ng, h.base, h.gb, h.below.trans (b.mono h.below.size), h.jn, h.jsz, h.off, h.pend, h.armed, h.nx, h.tn, h.wr⟩
theorem RmIn.back {wb : World} (h : RmIn w0 w g d r Q n size i st J) (b : Below wb.heap.size wb w0) : RmIn wb w g d r Q n size i st J :=
  ⟨h.row, h.ri, h.ng, fun k hk => Nat.le_trans b.size (h.base k hk), Nat.le_trans b.size h.gb, b.trans (h.below.mono b.size), h.jn, h.jsz, h.off, h.pend, h.armed, h.nx, h.tn, h.wr⟩
theorem RmIn.glt (h : RmIn w0 w g d r Q n size i st J) : g < w.heap.size := (Array.getElem?_eq_some_iff.1 h.row).1
theorem RmIn.drew (h : RmIn w0 w g d r Q n size i st J) : RmIn w0 w.drew g d r Q n size i st J := h.more ⟨rfl, rfl, rfl, Nat.le_refl _, fun _ _ => rfl⟩
set_option maxRecDepth 100000 in
/-- One record more. -/
theorem RmIn.append (h : RmIn w0 w g d r Q n size i st J) (hi : i ≤ 1000) {a : Option Addr} {m c : Nat} {l : List Int} (hl : RdAt .u8 w a m c l) (hq : ∀ x, a = some x → 0 < m → ¬ Q x.block) (hf : ¬ roomN J < m) :
    Calls Try.prog 12 #[.pointer (some ⟨r, 0, none⟩), .slice a m c] w fun e w' => e = .returned (.tuple #[.int .u64 (1 + i), .int .i64 0]) ∧ ∃ Q' st' J', RmIn w0 w' g d r Q' n size (i + 1) st' J' ∧ J'.ks = J.ks ++ [ndN size m] := by
  refine (append_on Q r d st J a m c l w h.ri hl hq hf h.off h.pend (by rw [h.nx]; omega) (by have := h.tn; omega) (by have := h.wr; omega)).mono ?_
  rintro e w' ⟨rfl, Q', hr', ht'⟩
  have hb := h.below.trans (ht'.below h.base h.below.size)
  have hlen := hl.len
  have hfl : ¬ roomN J < l.length := by rw [hlen]; exact hf
  obtain ⟨hsum, hm2⟩ := nd_room h.ri.ok hf
  have hnd : ndN J.size m ≤ 65536 := by have := h.ri.ok.n1; omega
  obtain ⟨e1, eJ, e3, e4, e5, e6, e7, e8, e9⟩ := ap_whole h.off h.pend (.inl h.armed) hfl
  refine ⟨by unfold ApE; rw [e1, h.nx]; rfl, Q', _, _, ⟨(ht'.block g h.glt h.ng).trans h.row, hr', fun hq' => ?_, ht'.base h.base h.below.size, h.gb, hb, ?_, ?_, e3, e4, e8 h.armed, ?_, ?_, ?_⟩, ?_⟩
  · rcases ht'.sub g hq' with h1 | h1
    · exact h.ng h1
    · have := h.glt
      omega
  · rw [eJ]; exact h.jn
  · rw [eJ]; exact h.jsz
  · rw [eJ]
    show J.h.next + 1 = 1 + ((i + 1 : Nat) : Int)
    rw [h.nx]
    omega
  · rw [eJ]
    have := h.tn
    show J.h.turn + 1 ≤ 4611686018427387909 + ((i + 1 : Nat) : Int)
    omega
  · have := h.wr
    rw [e7, hlen]
    omega
  · rw [eJ, hlen, h.jsz]
set_option maxRecDepth 100000 in
theorem RmIn.room (h : RmIn w0 w g d r Q n size i st J) : Calls Try.prog 11 #[.pointer (some ⟨r, 0, none⟩)] w fun e w' => e = .returned (.int .i64 (roomN J)) ∧ w = w' := by
  obtain ⟨⟨Z, sv, hd, hr, ho, _⟩, ok, _⟩ := h.ri
  exact rroom_any r d sv J w hr ok ho
theorem RmIn.cells (h : RmIn w0 w g d r Q n size i st J) : w.cell? ⟨g, 1, none⟩ = some (.pointer (some ⟨r, 0, none⟩)) := by
  have h1 := h.row
  unfold rowG at h1
  simp [World.cell?, h1]
end
theorem rd_rowB {w : World} {q : Nat} {l : List Int} {e : TypeId} {fr : Nat × Nat} (row : w.heap[q]? = some (.cells (l.map (Value.int .u8)).toArray e fr)) (hl : l.length ≤ maxLen) (hw : ∀ x ∈ l, (Lit.int .u8 x).wf = true) : RdAt .u8 w (some ⟨q, 0, none⟩) l.length l.length l :=
  ⟨rfl, Nat.le_refl _, hl, fun i hi => ⟨_, _, rfl, by rw [cell_of_row w _ _ _ _ _ row, Nat.zero_add, List.getElem?_toArray, List.getElem?_map, List.getElem?_eq_getElem hi, nth_eq hi]; rfl⟩, hw, fun h => by cases h⟩
/-- A new row of zeros. -/
structure NewZ (w w' : World) (v : Value) (k : Nat) : Prop where
  ex : ∃ b, v = .slice (some ⟨b, 0, none⟩) k k ∧ RdAt .u8 w' (some ⟨b, 0, none⟩) k k (List.replicate k 0) ∧ w.heap.size ≤ b
  below : Below w.heap.size w w'
set_option maxRecDepth 100000 in
theorem mk_zeros (k : Nat) (hk : k ≤ 16777216) (w : World) : ∃ v w', (Instr.makeSlice 36 (.int .i64 (k : Int)) (.int .i64 (k : Int))).run Try.prog w = .ok v w' ∧ NewZ w w' v k := by
  have mkI : (Try.prog.info? 5).map (fun i => (i.zero, i.size, i.bytes)) = some (some (.int .u8 0), 1, 1) := by kernel_rfl
  obtain ⟨i, hi, hz, hs, hb⟩ := info_parts mkI
  have hr := run_make (P := Try.prog) w 36 5 i (.int .u8 0) u8TR hi hz .i64 .i64 k k (by omega) (Int.le_refl _) (by rw [hb]; omega) (by omega)
  rw [hs, Int.toNat_natCast, Nat.mul_one] at hr
  have hrow := heap_alloc_new w (.cells (List.replicate k (.int .u8 0)).toArray 5)
  refine ⟨_, _, hr, ⟨⟨w.heap.size, rfl, ?_, Nat.le_refl _⟩, (Below.refl _ _).alloc (Nat.le_refl _) _⟩⟩
  have hrow2 : (w.alloc (.cells (List.replicate k (Value.int .u8 0)).toArray 5)).heap[w.heap.size]? = some (.cells ((List.replicate k (0 : Int)).map (Value.int .u8)).toArray 5 (0, 0)) := by rw [List.map_replicate]; exact hrow
  have h3 := rd_rowB (l := List.replicate k 0) hrow2 (by rw [List.length_replicate]; unfold maxLen; omega) (fun x hx => by rw [List.eq_of_mem_replicate hx]; rfl)
  rw [List.length_replicate] at h3
  have e : (.cells (madeCells (Value.int .u8 0).cells k) 5 : Obj) = .cells (List.replicate k (Value.int .u8 0)).toArray 5 := by
    congr 1
    rw [show (Value.int .u8 0).cells = #[.int .u8 0] from rfl, ← toList_madeCells_one]
  rw [e]
  exact h3
end Go.Proofs.Ytlhpdkapddnbcaa

namespace Go.Proofs.Ytlhpdkapddnbcaa
open Go.RowKit
/-- A disk that is made behind w0. -/
structure DkB (w0 w : World) (d : Nat) (Z : Nat → Prop) (st : Dk) : Prop where
  din : DkIn w Z d st
  base : ∀ k, Z k → w0.heap.size ≤ k
  below : Below w0.heap.size w0 w
theorem DkB.more {w0 w w' : World} {d : Nat} {Z : Nat → Prop} {st : Dk} (h : DkB w0 w d Z st) (b : Below w.heap.size w w') : DkB w0 w' d Z st := ⟨h.din.below b, h.base, Below.call h.below b⟩
theorem DkB.turn {w0 w w' : World} {d : Nat} {Z Z' : Nat → Prop} {st st' : Dk} (h : DkB w0 w d Z st) (i : DkIn w' Z' d st') (t : Tnd Z Z' w w') : DkB w0 w' d Z' st' :=
  ⟨i, t.base h.base h.below.size, h.below.trans (t.below h.base h.below.size)⟩
/-- A buffer of bytes in a block of its own. -/
def BufAt (w : World) (b : Nat) (l : List Int) : Prop := w.heap[b]? = some (.cells (l.map (Value.int .u8)).toArray 5 (0, 0)) ∧ (∀ x ∈ l, (Lit.int .u8 x).wf = true) ∧ l.length ≤ 1000000
theorem BufAt.rd {w : World} {b : Nat} {l : List Int} (h : BufAt w b l) : RdAt .u8 w (some ⟨b, 0, none⟩) l.length l.length l :=
  ⟨rfl, Nat.le_refl _, by have := h.2.2; unfold maxLen; omega, fun i hi => ⟨b, 0, rfl, by rw [cell_of_row w _ _ _ _ _ h.1]; simp [nth_eq hi, hi]⟩, h.2.1, fun h => by cases h⟩
theorem BufAt.cell {w : World} {b : Nat} {l : List Int} (h : BufAt w b l) {i : Nat} (hi : i < l.length) : w.cell? ⟨b, i, none⟩ = some (.int .u8 (nth l i)) := by
  rw [cell_of_row w _ _ _ _ _ h.1]; simp [nth_eq hi, hi]
theorem BufAt.free {w : World} {b : Nat} {l : List Int} (h : BufAt w b l) (i : Nat) : w.frozen? ⟨b, i, none⟩ = false := frozen_of_row w _ i _ _ h.1
theorem BufAt.put {w : World} {b : Nat} {l : List Int} (h : BufAt w b l) (i : Nat) (x : Int) (hx : (Lit.int .u8 x).wf = true) : BufAt (w.setCell ⟨b, i, none⟩ (.int .u8 x)) b (l.set i x) := by
  refine ⟨by rw [heap_setCell_same w b i _ _ _ h.1]; simp, fun y hy => ?_, by rw [List.length_set]; exact h.2.2⟩
  rcases List.mem_or_eq_of_mem_set hy with h1 | h1
  · exact h.2.1 y h1
  · rw [h1]; exact hx
theorem BufAt.lt {w : World} {b : Nat} {l : List Int} (h : BufAt w b l) : b < w.heap.size := (Array.getElem?_eq_some_iff.1 h.1).1
theorem BufAt.below {w w' : World} {b : Nat} {l : List Int} (h : BufAt w b l) (hb : Below w.heap.size w w') : BufAt w' b l := ⟨row_keep h.1 hb, h.2⟩
theorem BufAt.tnd {Z Z' : Nat → Prop} {w w' : World} {b : Nat} {l : List Int} (h : BufAt w b l) (t : Tnd Z Z' w w') (hz : ¬ Z b) : BufAt w' b l := ⟨by rw [t.block b h.lt hz]; exact h.1, h.2⟩
set_option maxRecDepth 100000 in
theorem mk64 (w : World) : ∃ w', (Instr.makeSlice 36 (.int .i64 64) (.int .i64 64)).run Try.prog w = .ok (.slice (some ⟨w.heap.size, 0, none⟩) 64 64) w' ∧ BufAt w' w.heap.size (List.replicate 64 0) ∧ Below w.heap.size w w' :=
  ⟨_, mk_bytes 64 (by omega) w, ⟨by rw [List.map_replicate]; exact heap_alloc_new _ _, fun x hx => by rw [List.eq_of_mem_replicate hx]; rfl, by simp⟩, (Below.refl _ _).alloc (Nat.le_refl _) _⟩
theorem put_below (w : World) (B b i : Nat) (x : Value) (h : B ≤ b) : Below B w (w.setCell ⟨b, i, none⟩ x) :=
  ⟨rfl, rfl, rfl, by simp, fun k hk => heap_setCell_other w ⟨b, i, none⟩ k x (by show k ≠ b; omega)⟩
def A1 : List Int := (List.replicate 64 0).set 0 1
def A2 : List Int := (List.replicate 64 0).set 0 2
def S0 : Dk := dk0 2 64
def S1 : Dk := wrS S0 0 A1
def S2 : Dk := wrS S1 0 A2
def S3 : Dk := rdS S2 0
def S4 : Dk := cutS S3 [true]
def S5 : Dk := rdS S4 0
def S6 : Dk := { S5 with off := false }
def S7 : Dk := rdS S6 0
theorem k2 : rdV S2 0 = A2 := by kernel_rfl
theorem k4 : rdE S4 0 = 8 := by kernel_rfl
theorem k6 : rdV S6 0 = A1 := by kernel_rfl
theorem lenA1 : A1.length = 64 := by kernel_rfl
theorem lenA2 : A2.length = 64 := by kernel_rfl
theorem nthA1 : nth A1 0 = 1 := by kernel_rfl
theorem nthA2 : nth A2 0 = 2 := by kernel_rfl
theorem k60 : rdE S6 0 = 0 := by kernel_rfl
theorem kb0 : S0.pend.length + 1 ≤ 1000000 ∧ S0.writes + 1 ≤ 4611686018427387904 := of_decide_eq_true (by kernel_rfl)
theorem kb1 : S1.pend.length + 1 ≤ 1000000 ∧ S1.writes + 1 ≤ 4611686018427387904 := of_decide_eq_true (by kernel_rfl)
theorem kb2 : S2.reads + 1 ≤ 4611686018427387904 ∧ S4.reads + 1 ≤ 4611686018427387904 ∧ S6.reads + 1 ≤ 4611686018427387904 := of_decide_eq_true (by kernel_rfl)
theorem r264 : rightB 2 64 = true := by decide
end Go.Proofs.Ytlhpdkapddnbcaa

namespace Go.Proofs.Ytlhpdkapddnbcaa
open Go.RowKit
/-- The i-th sector of some bytes. -/
def chunk (b : List Int) (s i : Nat) : List Int := (b.drop (i * s)).take s
def ofK (b : List Int) (n s k : Nat) : List (List Int) := (List.range n).map fun i => if i < k then chunk b s i else List.replicate s 0
def ofS (b : List Int) (n s k : Nat) : Dk := { dk0 n s with kept := ofK b n s k }
theorem ofK_0 (b : List Int) (n s : Nat) : ofK b n s 0 = List.replicate n (List.replicate s 0) := by
  apply List.ext_getElem?
  intro i
  unfold ofK
  rw [List.getElem?_map, List.getElem?_replicate]
  by_cases h : i < n
  · rw [List.getElem?_range h, if_pos h]; simp
  · rw [List.getElem?_eq_none (by simp; omega), if_neg h]; rfl
theorem ofK_set (b : List Int) (n s k : Nat) (hk : k < n) : (ofK b n s k).set k (chunk b s k) = ofK b n s (k + 1) := by
  apply List.ext_getElem?
  intro i
  unfold ofK
  rw [List.getElem?_set, List.getElem?_map, List.getElem?_map, List.length_map, List.length_range]
  by_cases h : i < n
  · rw [List.getElem?_range h]
    by_cases hik : k = i
    · subst hik
      rw [if_pos rfl, if_pos hk]
      simp
    · rw [if_neg hik]
      simp only [Option.map_some]
      by_cases h1 : i < k
      · rw [if_pos h1, if_pos (by omega)]
      · rw [if_neg h1, if_neg (by omega)]
  · rw [List.getElem?_eq_none (l := List.range n) (by simp; omega)]
    by_cases hik : k = i
    · omega
    · rw [if_neg hik]; rfl
theorem ofK_len (b : List Int) (n s k : Nat) : (ofK b n s k).length = n := by unfold ofK; simp
theorem ofK_flat (b : List Int) (s : Nat) : ∀ n, (ofK b n s n).flatten = b.take (n * s) := by
  have key : ∀ n k, n ≤ k → (ofK b n s k).flatten = b.take (n * s) := by
    intro n
    induction n with
    | zero => intro k _; simp [ofK]
    | succ n ih =>
      intro k hk
      unfold ofK
      rw [List.range_succ, List.map_append, List.flatten_append]
      have h1 := ih k (by omega)
      unfold ofK at h1
      rw [h1]
      simp only [List.map_cons, List.map_nil, List.flatten_cons, List.flatten_nil, List.append_nil]
      rw [if_pos (show n < k by omega), Nat.succ_mul, chunk, List.take_add]
  exact fun n => key n n (Nat.le_refl _)
theorem ofK_at (b : List Int) (n s i : Nat) (h : i < n) : (ofK b n s n)[i]? = some (chunk b s i) := by
  unfold ofK
  rw [List.getElem?_map, List.getElem?_range h]
  simp [h]
theorem rd_chunk {kd : IntKind} {w : World} {b o n c : Nat} {l : List Int} (h : RdAt kd w (some ⟨b, o, none⟩) n c l) (lo s : Nat) (hs : lo + s ≤ n) : RdAt kd w (some ⟨b, o + lo, none⟩) s (c - lo) ((l.drop lo).take s) := by
  have hcap := h.cap
  have hmax := h.max
  have hl := h.len
  refine ⟨by rw [List.length_take, List.length_drop]; omega, by omega, by omega, fun i hi => ?_, fun y hy => h.wf y (List.mem_of_mem_drop (List.mem_of_mem_take hy)), fun h => by cases h⟩
  obtain ⟨b', o', e, hc⟩ := h.cell (lo + i) (by omega)
  injection e with e
  injection e with e1 e2
  subst e1 e2
  refine ⟨b, o + lo, rfl, ?_⟩
  rw [Nat.add_assoc, hc, nth_eq (show lo + i < l.length by omega), nth_eq (by rw [List.length_take, List.length_drop]; omega), List.getElem_take, List.getElem_drop]
/-- One sector laid. -/
theorem DkIn.lay {w w5 : World} {Z : Nat → Prop} {d kb mb : Nat} {pv kv : Value} {vals pvs : List Value} {st : Dk} (p : DkP w Z d kb mb pv kv vals pvs st) (hz : ∀ k, Z k → k < w.heap.size) (k : Nat) (l : List Int) (hl : l.length = st.size) (v : Value) (hv : Owns .u8 5 w5 w.heap.size v l)
    (hsp : w.grownBy w5 (some kb)) (hkr : w5.heap[kb]? = some (.cells (vals.set k v).toArray 36 (0, 0))) : DkIn w5 (fun x => Z x ∨ (w.heap.size ≤ x ∧ x < w5.heap.size)) d { st with kept := st.kept.set k l } := by
  have hmut : ∀ x, Z x → ¬ MutD d kb mb pv x → w5.heap[x]? = w.heap[x]? := fun x hx hm => hsp.block x (hz x hx) (fun e => hm (.inr (.inl (Option.some.inj e))))
  have hZm := p.z
  have hl0 : 0 < l.length := by have := p.ok.size; omega
  obtain ⟨g, c, hvs, hrm, hrd, hB, hlt⟩ := Owns.slc hv hl0
  have hpl : ∀ x, pv.ownBlock = some x → x < w.heap.size := fun x hx => hz x (hZm x (.inr (.inr (.inr hx))))
  refine ⟨fun x hx => ?_, kb, mb, pv, kv, vals.set k v, pvs, ?_, hkr, ?_, ?_, ?_, ?_, ?_, p.ne, p.rm, fun b hb => .inl (hZm b hb), ⟨p.ok.size, ?_, fun x hx => ?_, fun q hq => ?_, p.ok.armed, p.ok.few, p.ok.writes, p.ok.reads⟩⟩
  · rcases hx with hx | hx
    · exact Nat.lt_of_lt_of_le (hz x hx) hsp.size
    · exact hx.2
  · show w5.heap[d]? = some (.cells #[.bool st.off, .int .i64 st.armed, kv, .int .i64 st.size, .slice (some ⟨kb, 0, none⟩) (st.kept.set k l).length (st.kept.set k l).length, pv, .map (some mb), .int .i64 st.writes, .int .i64 st.reads] 51 (0, 0))
    rw [List.length_set]
    exact grown_at p.row hsp p.ne.1
  · refine All2.set (p.kvals.imp fun v l h => h.at hmut (fun _ _ h => h) (fun _ h => .inl h)) k (.inr ⟨g, 0, l.length, c, hvs, hrd, hl0, fun hm => ?_, .inr ⟨hB, hlt⟩⟩)
    have := hz g (hZm g hm)
    omega
  · exact ownsRow_at p.prow (fun x hx => hsp.block x (hpl x hx) (fun e => (p.rm x hx).2.1 (Option.some.inj e)))
  · exact p.pvals.imp fun v l h => h.at hmut (fun _ _ h => h) (fun _ h => .inl h)
  · exact p.map.at (hsp.block mb (hz mb (hZm mb (.inr (.inr (.inl rfl))))) (fun e => p.ne.2.2 (Option.some.inj e).symm))
  · exact p.keep.at hmut (fun _ _ h => h) (fun _ h => .inl h)
  · show 1 ≤ (st.kept.set k l).length ∧ (st.kept.set k l).length ≤ 65536
    rw [List.length_set]; exact p.ok.n
  · rcases List.mem_or_eq_of_mem_set (show x ∈ st.kept.set k l from hx) with h | h
    · exact p.ok.kept x h
    · rw [h]; exact hl
  · have := p.ok.pend q hq
    refine ⟨this.1, this.2.1, ?_⟩
    show q.1 < ((st.kept.set k l).length : Int)
    rw [List.length_set]
    exact this.2.2
set_option linter.unusedSimpArgs false in
set_option linter.unusedVariables false in
set_option maxRecDepth 100000 in
set_option maxHeartbeats 2000000 in
theorem of_no (a : Option Addr) (n c : Nat) (l : List Int) (z : Int) (w : World) (hr : RdAt .u8 w a n c l) (hn : n ≤ 32768) (hz1 : -9223372036854775808 ≤ z) (hz2 : z ≤ 9223372036854775807) (h : z < 1 ∨ (n : Int) % z ≠ 0) :
    Calls Try.prog 22 #[.slice a n c, .int .i64 z] w fun e w' => e = .returned (.tuple #[.pointer none, .int .i64 1]) ∧ Below w.heap.size w w' := by
  by_cases h0 : z < 1
  · have d0 : decide (z < 1) = true := decide_eq_true h0
    clear hr
    go_enter Try.func22, Try.ntmps22
    go_wp2
    go_ret2
    exact ⟨rfl, Below.refl _ _⟩
  · have d0 : decide (z < 1) = false := decide_eq_false h0
    have h1 : (n : Int) % z ≠ 0 := h.resolve_left h0
    obtain ⟨r, hr1⟩ : ∃ r, (n : Int) % z = r := ⟨_, rfl⟩
    have hb1 : 0 ≤ r := by rw [← hr1]; exact Int.emod_nonneg _ (by omega)
    have hb2 : r < z := by rw [← hr1]; exact Int.emod_lt_of_pos _ (by omega)
    have m1 : Int.tmod (n : Int) z = r := by rw [Int.tmod_eq_emod_of_nonneg (by omega), hr1]
    have m2 : IntKind.i64.wrap r = r := by rw [IntKind.wrap_i64]; omega
    have d1 : decide (z = 0) = false := decide_eq_false (by omega)
    have d2 : decide (r = 0) = false := decide_eq_false (by rw [← hr1]; exact h1)
    have hz0 : z ≠ 0 := by omega
    have hr0 : r ≠ 0 := by rw [← hr1]; exact h1
    have d3 : (r == 0) = false := by simpa using hr0
    clear hr hr1 h h1
    go_enter Try.func22, Try.ntmps22
    go_wp2
    all_goals
      go_ret2
      exact ⟨rfl, Below.refl _ _⟩
set_option linter.unusedSimpArgs false in
set_option linter.unusedVariables false in
set_option maxRecDepth 100000 in
set_option maxHeartbeats 2000000 in
theorem of_bad (a : Option Addr) (n c : Nat) (l : List Int) (s : Nat) (w : World) (hr : RdAt .u8 w a n c l) (hn : n ≤ 32768) (hs1 : 1 ≤ s) (hs2 : (s : Int) ≤ 9223372036854775807) (hm : n % s = 0) (hb : rightB ((n / s : Nat) : Int) s = false) :
    Calls Try.prog 22 #[.slice a n c, .int .i64 s] w fun e w' => e = .returned (.tuple #[.pointer none, .int .i64 1]) ∧ Below w.heap.size w w' := by
  obtain ⟨q, hq⟩ : ∃ q, n / s = q := ⟨_, rfl⟩
  have hnq : n = q * s := by rw [← hq]; exact (Nat.div_mul_cancel (Nat.dvd_of_mod_eq_zero hm)).symm
  have m1 : Int.tmod (n : Int) (s : Int) = 0 := by rw [Int.tmod_eq_emod_of_nonneg (by omega)]; omega
  have m2 : Int.tdiv (n : Int) (s : Int) = (q : Int) := by rw [Int.tdiv_eq_ediv_of_nonneg (by omega), ← hq]; rfl
  have hqn : q ≤ n := by rw [← hq]; exact Nat.div_le_self _ _
  have m3 : IntKind.i64.wrap (q : Int) = q := by rw [IntKind.wrap_i64]; omega
  have d0 : decide ((s : Int) < 1) = false := decide_eq_false (by omega)
  have d1 : decide ((s : Int) = 0) = false := decide_eq_false (by omega)
  have hz0 : (s : Int) ≠ 0 := by omega
  rw [hq] at hb
  have HB := Lib.hid hb
  clear hr hq hnq hb hm
  go_enter Try.func22, Try.ntmps22
  go_wp2_with fail
  all_goals
    refine (new_no _ _ _ HB.out).mono ?_
    rintro e w1 ⟨rfl, rfl⟩
    go_wp2_with fail
    go_ret2
    exact ⟨rfl, Below.refl _ _⟩
set_option linter.unusedSimpArgs false in
set_option linter.unusedVariables false in
set_option maxRecDepth 100000 in
set_option maxHeartbeats 2000000 in
theorem of_any (a : Option Addr) (n c : Nat) (l : List Int) (s : Nat) (w : World) (hr : RdAt .u8 w a n c l) (hn : n ≤ 32768) (hs1 : 1 ≤ s) (hs2 : (s : Int) ≤ 9223372036854775807) (hm : n % s = 0) (hb : rightB ((n / s : Nat) : Int) s = true) :
    Calls Try.prog 22 #[.slice a n c, .int .i64 s] w fun e w' => ∃ d Z, e = .returned (.tuple #[.pointer (some ⟨d, 0, none⟩), .int .i64 0]) ∧ DkB w w' d Z (ofS l (n / s) s (n / s)) := by
  obtain ⟨q, hq⟩ : ∃ q, n / s = q := ⟨_, rfl⟩
  have hnq : n = q * s := by rw [← hq]; exact (Nat.div_mul_cancel (Nat.dvd_of_mod_eq_zero hm)).symm
  have m1 : Int.tmod (n : Int) (s : Int) = 0 := by rw [Int.tmod_eq_emod_of_nonneg (by omega)]; omega
  have m2 : Int.tdiv (n : Int) (s : Int) = (q : Int) := by rw [Int.tdiv_eq_ediv_of_nonneg (by omega), ← hq]; rfl
  have hqn : q ≤ n := by rw [← hq]; exact Nat.div_le_self _ _
  have m3 : IntKind.i64.wrap (q : Int) = q := by rw [IntKind.wrap_i64]; omega
  have d0 : decide ((s : Int) < 1) = false := decide_eq_false (by omega)
  have d1 : decide ((s : Int) = 0) = false := decide_eq_false (by omega)
  have hz0 : (s : Int) ≠ 0 := by omega
  rw [hq] at hb ⊢
  have HB := Lib.hid hb
  have HR := Lib.hid hr
  have HNQ := Lib.hid hnq
  clear hr hq hb hm hnq
  go_enter Try.func22, Try.ntmps22
  go_wp2_with fail
  all_goals
    refine (new_any q s w HB.out).mono ?_
    rintro e w1 ⟨d, Z, rfl, hd1, hz1, hb1⟩
    have D1 : Hid (DkB w w1 d Z (ofS l q s 0)) := by
      have := DkB.mk hd1 hz1 hb1
      unfold ofS
      rw [ofK_0]
      exact this
    have hd1' := hd1
    obtain ⟨_, kb, mb, pv, kv, vals, pvs, p⟩ := hd1'
    obtain ⟨c0, c1, c2, c3, c4, c5, c6, c7, c8, cf⟩ := cellsD p.row
    replace c4 : w1.cell? ⟨d, 4, none⟩ = some (.slice (some ⟨kb, 0, none⟩) q q) := by
      rw [c4]
      show some (Value.slice _ (List.replicate q _).length (List.replicate q _).length) = _
      rw [List.length_replicate]
    clear hd1 hz1 hb1 p
    go_wp2_with fail
    go_loopw [35] (fun i wr => ∃ (k : Nat) (Z : Nat → Prop), k ≤ q ∧ i = .int .i64 k ∧ Hid (DkB w wr d Z (ofS l q s k))) (fun i _ => q - (intOf i).toNat)
    case atStart => exact ⟨0, Z, by omega, rfl, D1⟩
    case round =>
      clear D1 c0 c1 c2 c3 c4 c5 c6 c7 c8 cf
      obtain ⟨k, Z, hk, rfl, D4⟩ := hrel
      by_cases hkm : k < q
      · have dkm : decide ((k : Int) < q) = true := decide_eq_true (by omega)
        obtain ⟨hz4, kb, mb, pv, kv, vals, pvs, p⟩ := D4.out.din
        have P4 := Lib.hid p
        have hsz := p.ok.size
        replace hsz : 64 ≤ s ∧ s ≤ 4096 := hsz
        have hvl : vals.length = q := by rw [p.kvals.1]; exact ofK_len l q s k
        have HVL : Hid (k < vals.length) := by show k < _; rw [hvl]; exact hkm
        have hrow9 : wr.drew.heap[d]? = some (.cells #[.bool false, .int .i64 0, kv, .int .i64 s, .slice (some ⟨kb, 0, none⟩) q q, pv, .map (some mb), .int .i64 0, .int .i64 0] 51 (0, 0)) := by
          have := p.row
          rw [show (ofS l q s k).kept.length = q from ofK_len l q s k] at this
          exact this
        have hkr9 : wr.drew.heap[kb]? = some (.cells vals.toArray 36 (0, 0)) := p.krow
        have hkB : ∀ x, some kb = some x → x < wr.heap.size := fun x hx => by injection hx with hx; subst hx; exact hz4 _ (p.z _ (.inr (.inl rfl)))
        have hB9 : wr.grownBy wr.drew (some kb) := ⟨rfl, rfl, rfl, Nat.le_refl _, fun _ _ _ => rfl⟩
        clear p hvl
        obtain ⟨lo, hlo⟩ : ∃ lo, k * s = lo := ⟨_, rfl⟩
        obtain ⟨hi, hhi⟩ : ∃ hi, lo + s = hi := ⟨_, rfl⟩
        have hin : hi ≤ n := by
          rw [HNQ.out, ← hhi, ← hlo, ← Nat.succ_mul]
          exact Nat.mul_le_mul_right _ hkm
        obtain ⟨fb, fo, hfa, hfc⟩ := HR.out.cell 0 (by omega)
        subst hfa
        have hrd9 : RdAt .u8 wr.drew (some ⟨fb, fo + lo, none⟩) s (c - lo) (chunk l s k) := by
          have := rd_chunk (HR.out.below (D4.out.below.trans (Below.refl _ _))) lo s (by omega)
          unfold chunk
          rw [hlo]
          exact this.at0 rfl
        have hcap := HR.out.cap
        have g1 : (k : Int) * (s : Int) = (lo : Int) := by rw [← hlo, Int.natCast_mul]
        have g2 : IntKind.i64.wrap (lo : Int) = lo := by rw [IntKind.wrap_i64]; omega
        have g3 : IntKind.i64.wrap ((k : Int) + 1) = (k : Int) + 1 := by rw [IntKind.wrap_i64]; omega
        have g4 : ((k : Int) + 1) * (s : Int) = (hi : Int) := by rw [Int.add_mul, g1, ← hhi]; omega
        have g5 : IntKind.i64.wrap (hi : Int) = hi := by rw [IntKind.wrap_i64]; omega
        have g6 : hi - lo = s := by omega
        have g7 : ¬ c = lo := by omega
        have g8 : hi ≤ c := by omega
        have g9 : lo ≤ hi := by omega
        have g10 : ((hi : Int) ≤ c) := by omega
        have g11 : ((lo : Int) ≤ hi) := by omega
        have HS9 : Hid (s ≤ 1000000000) := by show s ≤ _; omega
        have HHI := Lib.hid hhi
        have HLO := Lib.hid hlo
        have HIN := Lib.hid hin
        clear hfc hhi hlo hin
        go_wp2_with fail
        refine' reg_order [eqV _, eqV _, eqV _, eqV _, eqV _, eqV _, eqV _, eqV _, eqV _, eqV _, eqV _, eqV _, eqV _, eqV _, (PF7 wr.heap.size (chunk l s k)), eqV _, (fun _ w => ∃ v, w.heap[kb]? = some (.cells (vals.set k v).toArray 36 (0, 0)) ∧ PF7 wr.heap.size (chunk l s k) v w)] [(16, fun w w' => World.grownBy w w' (some kb))] [(3, fun w => w.heap[d]? = some (.cells #[.bool false, .int .i64 0, kv, .int .i64 s, .slice (some ⟨kb, 0, none⟩) q q, pv, .map (some mb), .int .i64 0, .int .i64 0] 51 (0, 0))), (14, fun w => RdAt .u8 w (some ⟨fb, fo + lo, none⟩) s (c - lo) (chunk l s k) ∧ wr.heap.size ≤ w.heap.size), (16, fun w => w.heap[kb]? = some (.cells vals.toArray 36 (0, 0))), (17, fun w => World.grownBy wr w (some kb))] [38, 39, 40, 41, 42, 43, 44, 45, 46, 47, 48, 49, 50, 51, 52, 53, 72] [[], [0], [1], [2], [], [], [], [], [6, 7], [], [9], [], [10, 11], [5, 8, 12], [13], [3, 4], [14, 15]] [0, 1, 2, 3, 4, 5, 6, 7, 8, 9, 10, 11, 12, 13, 14, 15, 16] 17 (by kernel_rfl) ⟨eqV_stays _, eqV_stays _, eqV_stays _, eqV_stays _, eqV_stays _, eqV_stays _, eqV_stays _, eqV_stays _, eqV_stays _, eqV_stays _, eqV_stays _, eqV_stays _, eqV_stays _, eqV_stays _, fun _ _ _ p b => PF7.below p b, eqV_stays _, fun _ _ _ ⟨y, p, z⟩ b => ⟨y, row_keep p b, z.below b⟩, trivial⟩ ⟨⟨.inl (eqV_stays _), .inl (eqV_stays _), .inl (eqV_stays _), .inl (eqV_stays _), .inl (eqV_stays _), .inl (eqV_stays _), .inl (eqV_stays _), .inl (eqV_stays _), .inl (eqV_stays _), .inl (eqV_stays _), .inl (eqV_stays _), .inl (eqV_stays _), .inl (eqV_stays _), .inl (eqV_stays _), .inl (fun _ _ _ p g => PF7.grown p g hkB), .inl (eqV_stays _), .inr (.inr rfl), trivial⟩, trivial⟩ ⟨fun _ _ p b => row_keep p b, fun _ _ p b => ⟨p.1.below b, Nat.le_trans p.2 b.size⟩, fun _ _ p b => row_keep p b, fun _ _ p b => grownB p b, trivial⟩ ⟨⟨.inr (.inl (by kernel_rfl)), .inr (.inl (by kernel_rfl)), .inr (.inr rfl), .inl (fun _ _ p g => World.grownBy.trans p g), trivial⟩, trivial⟩ ⟨hrow9, ⟨hrd9, Nat.le_refl _⟩, hkr9, hB9, trivial⟩ 56 rfl (by kernel_rfl) (by kernel_rfl) rfl rfl 17 rfl ?q1obl ?q1fin
        case q1obl =>
          refine And.intro ?q1o0 (And.intro ?q1o1 (And.intro ?q1o2 (And.intro ?q1o3 (And.intro ?q1o4 (And.intro ?q1o5 (And.intro ?q1o6 (And.intro ?q1o7 (And.intro ?q1o8 (And.intro ?q1o9 (And.intro ?q1o10 (And.intro ?q1o11 (And.intro ?q1o12 (And.intro ?q1o13 (And.intro ?q1o14 (And.intro ?q1o15 (And.intro ?q1o16 (True.intro)))))))))))))))))
          case q1o0 =>
            intro w1 hI
            refine turn2_on (by rfl) ?_
            intro K hK
            go_simp
            refine hK _ _ ⟨rfl, Kept.refl _, ?_⟩
            show _ = _
            simp only [gv1]
            rfl
          case q1o1 =>
            intro w1 hI
            intro v0 h0
            change _ = _ at h0
            subst v0
            refine turn2_on (by rfl) ?_
            intro K hK
            simp only [gv2]
            go_simp
            refine hK _ _ ⟨rfl, Kept.refl _, ?_⟩
            show _ = _
            simp only [gv1]
            rfl
          case q1o2 =>
            intro w1 hI
            intro v1 h1
            change _ = _ at h1
            subst v1
            refine turn2_on (by rfl) ?_
            intro K hK
            simp only [gv2]
            go_simp
            refine hK _ _ ⟨rfl, Kept.refl _, ?_⟩
            show _ = _
            simp only [gv1]
            rfl
          case q1o3 =>
            intro w1 hI
            replace hI : (fun w => w.heap[d]? = some (.cells #[.bool false, .int .i64 0, kv, .int .i64 s, .slice (some ⟨kb, 0, none⟩) q q, pv, .map (some mb), .int .i64 0, .int .i64 0] 51 (0, 0))) w1 := hI
            intro v2 h2
            change _ = _ at h2
            subst v2
            refine turn2_on (by rfl) ?_
            intro K hK
            simp only [gv2]
            obtain ⟨c0, c1, c2, c3, c4, c5, c6, c7, c8, cf⟩ := cellsD hI
            go_simp
            refine hK _ _ ⟨rfl, Kept.refl _, ?_⟩
            show _ = _
            simp only [gv1]
            rfl
          case q1o4 =>
            intro w1 hI
            refine turn2_on (by rfl) ?_
            intro K hK
            go_simp
            refine hK _ _ ⟨rfl, Kept.refl _, ?_⟩
            show _ = _
            simp only [gv1]
            rfl
          case q1o5 =>
            intro w1 hI
            refine turn2_on (by rfl) ?_
            intro K hK
            go_simp
            refine hK _ _ ⟨rfl, Kept.refl _, ?_⟩
            show _ = _
            simp only [gv1]
            rfl
          case q1o6 =>
            intro w1 hI
            refine turn2_on (by rfl) ?_
            intro K hK
            go_simp
            refine hK _ _ ⟨rfl, Kept.refl _, ?_⟩
            show _ = _
            simp only [gv1]
            rfl
          case q1o7 =>
            intro w1 hI
            refine turn2_on (by rfl) ?_
            intro K hK
            go_simp
            refine hK _ _ ⟨rfl, Kept.refl _, ?_⟩
            show _ = _
            simp only [gv1]
            rfl
          case q1o8 =>
            intro w1 hI
            intro v6 h6
            change _ = _ at h6
            subst v6
            intro v7 h7
            change _ = _ at h7
            subst v7
            refine turn2_on (by rfl) ?_
            intro K hK
            simp only [gv2]
            go_simp
            refine hK _ _ ⟨rfl, Kept.refl _, ?_⟩
            show _ = _
            simp only [gv1]
            rfl
          case q1o9 =>
            intro w1 hI
            refine turn2_on (by rfl) ?_
            intro K hK
            go_simp
            refine hK _ _ ⟨rfl, Kept.refl _, ?_⟩
            show _ = _
            simp only [gv1]
            rfl
          case q1o10 =>
            intro w1 hI
            intro v9 h9
            change _ = _ at h9
            subst v9
            refine turn2_on (by rfl) ?_
            intro K hK
            simp only [gv2]
            go_simp
            refine hK _ _ ⟨rfl, Kept.refl _, ?_⟩
            show _ = _
            simp only [gv1]
            rfl
          case q1o11 =>
            intro w1 hI
            refine turn2_on (by rfl) ?_
            intro K hK
            go_simp
            refine hK _ _ ⟨rfl, Kept.refl _, ?_⟩
            show _ = _
            simp only [gv1]
            rfl
          case q1o12 =>
            intro w1 hI
            intro v10 h10
            change _ = _ at h10
            subst v10
            intro v11 h11
            change _ = _ at h11
            subst v11
            refine turn2_on (by rfl) ?_
            intro K hK
            simp only [gv2]
            go_simp
            refine hK _ _ ⟨rfl, Kept.refl _, ?_⟩
            show _ = _
            simp only [gv1]
            rfl
          case q1o13 =>
            intro w1 hI
            intro v5 h5
            change _ = _ at h5
            subst v5
            intro v8 h8
            change _ = _ at h8
            subst v8
            intro v12 h12
            change _ = _ at h12
            subst v12
            refine turn2_on (by rfl) ?_
            intro K hK
            simp only [gv2]
            go_simp
            refine hK _ _ ⟨rfl, Kept.refl _, ?_⟩
            show _ = _
            simp only [gv1]
            rfl
          case q1o14 =>
            intro w1 hI
            replace hI : (fun w => RdAt .u8 w (some ⟨fb, fo + lo, none⟩) s (c - lo) (chunk l s k) ∧ wr.heap.size ≤ w.heap.size) w1 := hI
            intro v13 h13
            change _ = _ at h13
            subst v13
            refine turn2_on (by rfl) ?_
            intro K hK
            simp only [gv2]
            obtain ⟨hI, hwz⟩ := hI
            go_simp
            refine Calls.mono (clone_any _ _ _ _ _ hI HS9.out) ?_
            rintro e w9 ⟨v9, rfl, ho9, hb9⟩
            refine hK _ _ ⟨rfl, hb9, ?_⟩
            show PF7 _ _ _ _
            simp only [gv1]
            exact Owns.mono ho9 hwz
          case q1o15 =>
            intro w1 hI
            intro v3 h3
            change _ = _ at h3
            subst v3
            intro v4 h4
            change _ = _ at h4
            subst v4
            refine turn2_on (by rfl) ?_
            intro K hK
            simp only [gv2]
            go_simp
            refine hK _ _ ⟨rfl, Kept.refl _, ?_⟩
            show _ = _
            simp only [gv1]
            rfl
          case q1o16 =>
            intro w1 hI
            replace hI : (fun w => w.heap[kb]? = some (.cells vals.toArray 36 (0, 0))) w1 := hI
            intro v14 h14
            intro v15 h15
            change _ = _ at h15
            subst v15
            refine turn2_on (by rfl) ?_
            intro K hK
            simp only [gv2]
            have hkc : w1.cell? ⟨kb, k, none⟩ = some (vals[k]'HVL.out) := by rw [cell_of_row w1 _ _ _ _ _ hI]; simp [HVL.out]
            have hkf := frozen_of_row w1 _ k _ _ hI
            obtain ⟨a14, c14, hv14⟩ := Owns.shape h14
            subst hv14
            go_simp
            refine hK _ _ ⟨rfl, put_grown _ _ _ _, ?_⟩
            exact ⟨_, by rw [heap_setCell_same _ kb k _ _ _ hI]; simp, PF7.grown h14 (put_grown _ _ _ _) hkB⟩
        intro w1 hI
        replace hI : (fun w => World.grownBy wr w (some kb)) w1 := hI
        intro v0 h0
        change _ = _ at h0
        subst v0
        intro v1 h1
        change _ = _ at h1
        subst v1
        intro v2 h2
        change _ = _ at h2
        subst v2
        intro v3 h3
        change _ = _ at h3
        subst v3
        intro v4 h4
        change _ = _ at h4
        subst v4
        intro v5 h5
        change _ = _ at h5
        subst v5
        intro v6 h6
        change _ = _ at h6
        subst v6
        intro v7 h7
        change _ = _ at h7
        subst v7
        intro v8 h8
        change _ = _ at h8
        subst v8
        intro v9 h9
        change _ = _ at h9
        subst v9
        intro v10 h10
        change _ = _ at h10
        subst v10
        intro v11 h11
        change _ = _ at h11
        subst v11
        intro v12 h12
        change _ = _ at h12
        subst v12
        intro v13 h13
        change _ = _ at h13
        subst v13
        intro v14 h14
        intro v15 h15
        change _ = _ at h15
        subst v15
        intro v16 h16
        simp only [Given, gv2]
        obtain ⟨v, hkr5, hpf⟩ := h16
        have hgr := hI
        have HKR5 := Lib.hid hkr5
        have HPF := Lib.hid hpf
        have HGR := Lib.hid hgr
        clear hI hkr5 hpf hgr hrow9 hkr9 hrd9 hB9
        have D5 : ∀ w9 : World, w9 = w1 → Hid (DkB w w9 d (fun x => Z x ∨ (wr.heap.size ≤ x ∧ x < w9.heap.size)) (ofS l q s (k + 1))) := by
          rintro w9 rfl
          have hin := DkIn.lay P4.out hz4 k (chunk l s k) (by
            show (chunk l s k).length = s
            unfold chunk
            rw [List.length_take, List.length_drop, HR.out.len]
            have := HIN.out
            have := HHI.out
            have := HLO.out
            omega) v HPF.out HGR.out HKR5.out
          have he : ({ ofS l q s k with kept := (ofS l q s k).kept.set k (chunk l s k) } : Dk) = ofS l q s (k + 1) := by
            show ({ ofS l q s k with kept := (ofK l q s k).set k (chunk l s k) } : Dk) = _
            rw [ofK_set l q s k hkm]
            rfl
          rw [he] at hin
          refine D4.out.turn hin ⟨HGR.out.os, HGR.out.tape, HGR.out.output, HGR.out.size, fun x hx hzx => HGR.out.block x hx (fun e => hzx (by rw [Option.some.inj e]; exact P4.out.z kb (.inr (.inl rfl)))), fun x hx => hx.imp id (·.1)⟩
        go_wp2_with fail
        go_roundw
        case rel => exact ⟨k + 1, _, by omega, by go_num, D5 _ rfl⟩
        case measure => simp [intOf] <;> omega
      · obtain rfl : k = q := by omega
        go_wp2_with fail
        go_ret2
        exact ⟨d, Z, rfl, D4.out⟩
end Go.Proofs.Ytlhpdkapddnbcaa

namespace Go.Proofs.Ytlhpdkapddnbcaa
open Go.RowKit
def ByteRow (w : World) (b : Nat) (l : List Int) : Prop := w.heap[b]? = some (.cells (l.map (Value.int .u8)).toArray 5 (0, 0))
theorem ByteRow.rd {w : World} {b : Nat} {l : List Int} (h : ByteRow w b l) (hl : l.length ≤ 100000) (hw : ∀ x ∈ l, (Lit.int .u8 x).wf = true) : RdAt .u8 w (some ⟨b, 0, none⟩) l.length l.length l := rd_rowB h (by unfold maxLen; omega) hw
set_option maxRecDepth 100000 in
theorem mk_row6 (k : Nat) (hk : k ≤ 100000) (w : World) : ∃ w', (Instr.makeSlice 36 (.int .i64 (k : Int)) (.int .i64 (k : Int))).run Try.prog w = .ok (.slice (some ⟨w.heap.size, 0, none⟩) k k) w' ∧ ByteRow w' w.heap.size (List.replicate k 0) ∧ Below w.heap.size w w' := by
  have mkI : (Try.prog.info? 5).map (fun i => (i.zero, i.size, i.bytes)) = some (some (.int .u8 0), 1, 1) := by kernel_rfl
  obtain ⟨i, hi, hz, hs, hb⟩ := info_parts mkI
  have hr := run_make (P := Try.prog) w 36 5 i (.int .u8 0) u8TR hi hz .i64 .i64 k k (by omega) (Int.le_refl _) (by rw [hb]; omega) (by omega)
  rw [hs, Int.toNat_natCast, Nat.mul_one] at hr
  refine ⟨_, hr, ?_, (Below.refl _ _).alloc (Nat.le_refl _) _⟩
  unfold ByteRow
  rw [List.map_replicate]
  have e : (.cells (madeCells (Value.int .u8 0).cells k) 5 : Obj) = .cells (List.replicate k (Value.int .u8 0)).toArray 5 := by
    congr 1
    rw [show (Value.int .u8 0).cells = #[.int .u8 0] from rfl, ← toList_madeCells_one]
  rw [e]
  exact heap_alloc_new _ _
set_option maxRecDepth 100000 in
theorem copy_run (w0 w : World) (ty : TypeId) (bx off dLen dCap : Nat) (sp : Option Addr) (sLen sCap : Nat) (Y X : List Value) (hg : w.heap[bx]? = some (.cells Y.toArray 5 (0, 0))) (hn : X.length = Nat.min sLen dLen) (hpos : 0 < X.length → ∃ ad, sp = some ad ∧ ∀ j v, X[j]? = some v → w.cell? (ad.add j) = some v) (hfit : off + X.length ≤ Y.length) (h1 : ∀ v ∈ X, v.oneCell' = true) (hb : Below w0.heap.size w0 w) (hB : w0.heap.size ≤ bx) :
    ∃ w', (Builtin.copy_ #[36, 36] ty #[.slice (some ⟨bx, off, none⟩) dLen dCap, .slice sp sLen sCap]).run Try.prog w = .ok (goInt X.length) w' ∧ w'.heap[bx]? = some (.cells (splice Y off X).toArray 5 (0, 0)) ∧ Below w0.heap.size w0 w' := by
  have hsz : (Try.prog.info? 5).map (·.size) = some 1 := by kernel_rfl
  by_cases h0 : X.length = 0
  · obtain rfl : X = [] := List.eq_nil_of_length_eq_zero h0
    exact ⟨w, run_copy_none (P := Try.prog) w _ _ ty 5 _ sp dLen dCap sLen sCap u8TR hsz (by simpa using hn.symm), by simpa [splice] using hg, hb⟩
  · obtain ⟨ad, rfl, hsrc⟩ := hpos (by omega)
    have hr := run_copy_row (P := Try.prog) w 36 36 ty 5 bx off dLen dCap ad sLen sCap Y.toArray 5 X u8TR hsz hg hn hsrc (by simpa using hfit) h1
    refine ⟨_, hr, ?_, below_setRow hb hB _⟩
    simpa [splice] using setRow_heap w bx _ _ 5 _ hg
/-- What a copy leaves, as numbers. -/
def spliceI (L : List Int) (off : Nat) (cs : List Int) : List Int := L.take off ++ (cs ++ L.drop (off + cs.length))
theorem splice_map (L : List Int) (off : Nat) (cs : List Int) : splice (L.map (Value.int .u8)) off (cs.map (Value.int .u8)) = (spliceI L off cs).map (Value.int .u8) := by
  unfold splice spliceI
  rw [List.map_append, List.map_append, List.map_take, List.map_drop, List.length_map]
theorem spliceI_len (L : List Int) (off : Nat) (cs : List Int) (h : off + cs.length ≤ L.length) : (spliceI L off cs).length = L.length := by
  unfold spliceI
  rw [List.length_append, List.length_append, List.length_take, List.length_drop]
  omega
theorem spliceI_wf {L : List Int} {off : Nat} {cs : List Int} (h1 : ∀ x ∈ L, (Lit.int .u8 x).wf = true) (h2 : ∀ x ∈ cs, (Lit.int .u8 x).wf = true) : ∀ x ∈ spliceI L off cs, (Lit.int .u8 x).wf = true := fun x hx => by
  unfold spliceI at hx
  rcases List.mem_append.1 hx with h | h
  · exact h1 x (List.mem_of_mem_take h)
  · rcases List.mem_append.1 h with h | h
    · exact h2 x h
    · exact h1 x (List.mem_of_mem_drop h)
/-- The disk behind an Append that was not cut. -/
theorem apW_whole {st : Dk} {J : Jr} {l : List Int} (hoff : st.off = false) (harm : st.armed = 0) (hf : ¬ roomN J < l.length) :
    (apSW st J l).e = 0 ∧ (apSW st J l).st.off = false ∧ (apSW st J l).st.reads = st.reads ∧ (apSW st J l).st.kept.length = st.kept.length ∧ (apSW st J l).st.size = st.size := by
  obtain ⟨N, hN⟩ : ∃ N, ndN J.size l.length = N := ⟨_, rfl⟩
  obtain ⟨e1, e2, e3, e4, e5, e6, e7, e8⟩ := apGo_whole J l N 0 st (.inl harm)
  obtain ⟨s, hs⟩ : ∃ s, apGo J l N 0 st = s := ⟨_, rfl⟩
  rw [hs] at e1 e2 e3 e4 e5 e6 e7 e8
  rw [if_pos harm] at e8
  have ha : ¬ s.armed = 1 := by omega
  have hA : apSW st J l = ⟨tuSW (flushS s) J J.h.nxW, { tuJW (flushS s) J J.h.nxW with ks := J.ks ++ [N] }, 0⟩ := by
    unfold apSW
    rw [if_neg hf, hN, hs]
    show (if s.off = true then _ else _) = _
    rw [e3, hoff, if_neg (by decide), if_neg ha]
  have hT : tuSW (flushS s) J J.h.nxW = flushS (putS (flushS s) ((J.lo : Int) + J.h.nxW.upW.turn % 2) (hdS J.size J.h.nxW.upW)) := by unfold tuSW; rw [if_neg (show ¬ (flushS s).armed = 1 from ha)]
  rw [hA, hT]
  refine ⟨rfl, by show s.off = false; rw [e3, hoff], e6, ?_, e5⟩
  show (settleK _ _ _ (settleK _ _ _ _)).length = _
  rw [settleK_len, settleK_len, e2]
/-- How many records Open tells. -/
theorem opF_count {kx : Nat → List Int} {lo n size : Nat} : ∀ (c p : Nat) (num : Int) (left : Nat) (ls : List (List Int)), opF kx lo n size c p num left = some ls → ls.length = c
  | 0, p, num, left, ls, h => by
    unfold opF at h
    injection h with h
    rw [← h]
    rfl
  | c + 1, p, num, left, ls, h => by
    unfold opF at h
    obtain ⟨b, hb, h2⟩ := Option.bind_eq_some_iff.1 h
    obtain ⟨m, hm, rfl⟩ := Option.map_eq_some_iff.1 h2
    rw [List.length_cons, opF_count c _ _ _ m hm]
theorem opR_count {kx : Nat → List Int} {lo n size : Nat} {h : Hd} {ls : List (List Int)} (ho : opR kx lo n size = some (h, ls)) : stF n (kx lo) (kx (lo + 1)) = some h ∧ ls.length = (h.next - h.first).toNat := by
  unfold opR at ho
  obtain ⟨g, hg, h2⟩ := Option.bind_eq_some_iff.1 ho
  split at h2
  · cases h2
  · obtain ⟨m, hm, he⟩ := Option.map_eq_some_iff.1 h2
    injection he with e1 e2
    subst e1 e2
    exact ⟨hg, opF_count _ _ _ _ _ hm⟩
end Go.Proofs.Ytlhpdkapddnbcaa

namespace Go.Proofs.Ytlhpdkapddnbcaa
open Go.RowKit
set_option linter.unusedSimpArgs false in
set_option linter.unusedVariables false in
set_option maxRecDepth 100000 in
set_option maxHeartbeats 4000000 in
theorem ringAny_walk (a0 : Int) (x1 : Option Addr) (nb cb : Nat) (B : List Int) (a2 : Int) (w0 : World) (hw0 : (Lit.int .i64 a0).wf = true) (hB : RdAt .u8 w0 x1 nb cb B) (hw2 : (Lit.int .i64 a2).wf = true) : Calls Try.prog 5 #[.int .i64 a0, .slice x1 nb cb, .int .i64 a2] w0 fun e w' => e = .returned (.bool true) ∧ Below w0.heap.size w0 w' := by
  obtain ⟨p0, p1⟩ := wf_i64_bd hw0
  obtain ⟨q0, q1⟩ := wf_i64_bd hw2
  have HKN := Lib.hid (known8 w0)
  have HB := Lib.hid hB
  clear hB
  by_cases hs : a0 < 64
  · have d0 : decide (a0 < 64) = true := decide_eq_true (by omega)
    go_enter Try.func5, Try.ntmps5
    go_wp2_with fail
    refine HKN.out.mono ?_
    rintro e w1 ⟨rfl, hb1⟩
    have B1 := Lib.hid hb1
    clear hb1
    go_wp2_with fail
    go_ret
    exact ⟨rfl, B1.out⟩
  have d0 : decide (a0 < 64) = false := decide_eq_false (by omega)
  by_cases hs2 : 256 < a0
  · have d1 : decide (256 < a0) = true := decide_eq_true (by omega)
    go_enter Try.func5, Try.ntmps5
    go_wp2_with fail
    refine HKN.out.mono ?_
    rintro e w1 ⟨rfl, hb1⟩
    have B1 := Lib.hid hb1
    clear hb1
    go_wp2_with fail
    go_ret
    exact ⟨rfl, B1.out⟩
  have d1 : decide (256 < a0) = false := decide_eq_false (by omega)
  by_cases hn : a2 < 4
  · have d2 : decide (a2 < 4) = true := decide_eq_true (by omega)
    go_enter Try.func5, Try.ntmps5
    go_wp2_with fail
    refine HKN.out.mono ?_
    rintro e w1 ⟨rfl, hb1⟩
    have B1 := Lib.hid hb1
    clear hb1
    go_wp2_with fail
    go_ret
    exact ⟨rfl, B1.out⟩
  have d2 : decide (a2 < 4) = false := decide_eq_false (by omega)
  by_cases hn2 : 20 < a2
  · have d3 : decide (20 < a2) = true := decide_eq_true (by omega)
    go_enter Try.func5, Try.ntmps5
    go_wp2_with fail
    refine HKN.out.mono ?_
    rintro e w1 ⟨rfl, hb1⟩
    have B1 := Lib.hid hb1
    clear hb1
    go_wp2_with fail
    go_ret
    exact ⟨rfl, B1.out⟩
  have d3 : decide (20 < a2) = false := decide_eq_false (by omega)
  by_cases hnb : 8192 < nb
  · have d4 : decide (8192 < (nb : Int)) = true := decide_eq_true (by omega)
    go_enter Try.func5, Try.ntmps5
    go_wp2_with fail
    refine HKN.out.mono ?_
    rintro e w1 ⟨rfl, hb1⟩
    have B1 := Lib.hid hb1
    clear hb1
    go_wp2_with fail
    go_ret
    exact ⟨rfl, B1.out⟩
  have d4 : decide (8192 < (nb : Int)) = false := decide_eq_false (by omega)
  obtain ⟨size, rfl⟩ : ∃ size : Nat, a0 = size := Int.eq_ofNat_of_zero_le (by omega)
  obtain ⟨n, rfl⟩ : ∃ n : Nat, a2 = n := Int.eq_ofNat_of_zero_le (by omega)
  have h4 : 4 ≤ n := by omega
  have h20 : n ≤ 20 := by omega
  have h64 : 64 ≤ size := by omega
  have h256 : size ≤ 256 := by omega
  have hnb1 : nb ≤ 8192 := by omega
  clear hs hs2 hn hn2 hnb p0 p1 q0 q1 hw0 hw2
  obtain ⟨NN, hNN⟩ : ∃ NN, (n + 4) * size = NN := ⟨_, rfl⟩
  have hN1 : NN ≤ 24 * 256 := by rw [← hNN]; exact Nat.mul_le_mul (by omega) h256
  have hN2 : 8 * size ≤ NN := by rw [← hNN]; exact Nat.mul_le_mul_right _ (by omega)
  have hNi : ((n : Int) + 4) * (size : Int) = NN := by rw [← hNN, Int.natCast_mul]; rfl
  have hNd : NN / size = n + 4 := by rw [← hNN]; exact Nat.mul_div_cancel _ (by omega)
  have hNm : NN % size = 0 := by rw [← hNN]; exact Nat.mul_mod_left _ _
  have HNd := Lib.hid hNd
  have HNm := Lib.hid hNm
  clear hNd hNm hNN
  go_enter Try.func5, Try.ntmps5
  go_wp2_with fail
  refine HKN.out.mono ?_
  rintro e w1 ⟨rfl, hb1⟩
  have B1 := Lib.hid hb1
  clear hb1
  go_wp2_with fail
  obtain ⟨w2, hrz, hfz, hbz⟩ := mk_row6 NN (by omega) w1
  rw [hrz]
  obtain ⟨bx, hbx⟩ : ∃ bx, w1.heap.size = bx := ⟨_, rfl⟩
  rw [hbx] at hfz ⊢
  have B2 := Lib.hid (B1.out.trans (hbz.mono B1.out.size))
  have hbx0 : w0.heap.size ≤ bx := by rw [← hbx]; exact B1.out.size
  have HF := Lib.hid hfz
  have HB2 := Lib.hid (HB.out.below B2.out)
  obtain ⟨mm, hmm⟩ : ∃ mm, Nat.min nb (NN - 2 * size) = mm := ⟨_, rfl⟩
  have hmm2 : mm ≤ nb ∧ mm ≤ NN - 2 * size := by rw [← hmm]; exact ⟨Nat.min_le_left _ _, Nat.min_le_right _ _⟩
  obtain ⟨X, hX⟩ : ∃ X, X = (B.take mm).map (Value.int .u8) := ⟨_, rfl⟩
  obtain ⟨Y, hY⟩ : ∃ Y, Y = (List.replicate NN (0 : Int)).map (Value.int .u8) := ⟨_, rfl⟩
  have HXl : Hid (X.length = Nat.min nb (NN - 2 * size)) := by show _ = _; rw [hX, List.length_map, List.length_take, HB.out.len, hmm]; omega
  have HYl : Hid (Y.length = NN) := by show _ = _; rw [hY, List.length_map, List.length_replicate]
  have HXY : Hid (splice Y (2 * size) X = (spliceI (List.replicate NN 0) (2 * size) (B.take mm)).map (Value.int .u8)) := by show _ = _; rw [hX, hY]; exact splice_map _ _ _
  have HX1 : Hid (∀ v ∈ X, v.oneCell' = true) := fun v hv => by rw [hX] at hv; obtain ⟨z, _, rfl⟩ := List.mem_map.1 hv; rfl
  have HXc : Hid (0 < X.length → ∃ ad, x1 = some ad ∧ ∀ j v, X[j]? = some v → w2.cell? (ad.add j) = some v) := fun h0 => by
    have hnb0 : 0 < nb := by rw [HXl.out] at h0; omega
    obtain ⟨b, o, e, _⟩ := HB2.out.cell 0 hnb0
    subst e
    refine ⟨_, rfl, fun j v hj => ?_⟩
    rw [hX] at hj
    have hjm : j < mm := by have h1 := (List.getElem?_eq_some_iff.1 hj).1; rw [List.length_map, List.length_take] at h1; omega
    obtain ⟨b', o', e', hc⟩ := HB2.out.cell j (by omega)
    injection e' with e'
    injection e' with e1 e2
    subst e1 e2
    have hlB := HB2.out.len
    rw [List.getElem?_map, List.getElem?_take_of_lt hjm, List.getElem?_eq_getElem (by omega)] at hj
    injection hj with hj
    rw [Addr.add_lit, hc, ← hj, nth_eq (by omega)]
  have HFY : Hid (w2.heap[bx]? = some (.cells Y.toArray 5 (0, 0))) := by show _ = _; rw [hY]; exact HF.out
  have hne : ¬ NN = 2 * size := by omega
  have hfit : 2 * size + X.length ≤ Y.length := by rw [HXl.out, HYl.out, hmm]; omega
  have HFIT := Lib.hid hfit
  have e22 : wrap64 (2 * (size : Int)) = ((2 * size : Nat) : Int) := by unfold wrap64; omega
  clear hrz hfz hbz hX hY hfit hmm HF B1
  go_wp2_with fail
  obtain ⟨w3, hrun, hg3, hb3⟩ := copy_run w0 w2 3 bx (2 * size) (NN - 2 * size) (NN - 2 * size) x1 nb cb Y X HFY.out HXl.out HXc.out HFIT.out HX1.out B2.out hbx0
  rw [hrun]
  rw [HXY.out] at hg3
  obtain ⟨l, hl⟩ : ∃ l, spliceI (List.replicate NN 0) (2 * size) (B.take mm) = l := ⟨_, rfl⟩
  have hXm : (B.take mm).length = mm := by rw [List.length_take, HB.out.len]; omega
  have hll : l.length = NN := by rw [← hl, spliceI_len _ _ _ (by rw [hXm, List.length_replicate]; omega), List.length_replicate]
  have hlw : ∀ x ∈ l, (Lit.int .u8 x).wf = true := by rw [← hl]; exact spliceI_wf (fun x hx => by rw [List.eq_of_mem_replicate hx]; rfl) (fun x hx => HB.out.wf x (List.mem_of_mem_take hx))
  rw [hl] at hg3
  have hrd3 := ByteRow.rd (w := w3) (b := bx) (l := l) hg3 (by omega) hlw
  rw [hll] at hrd3
  have B3 := Lib.hid hb3
  have HOF := Lib.hid (of_any (some ⟨bx, 0, none⟩) NN NN l size w3 hrd3 (by omega) (by omega) (by omega) HNm.out (by rw [HNd.out]; unfold rightB; simp; omega))
  rw [HNd.out] at HOF
  clear hrun hg3 hb3 hl hXm hrd3 HFY HXc HX1 HFIT HXY HXl HYl
  go_wp2_with fail
  refine HOF.out.mono ?_
  rintro e w4 ⟨d, Z, rfl, hdk⟩
  obtain ⟨st, hst⟩ : ∃ st, ofS l (n + 4) size (n + 4) = st := ⟨_, rfl⟩
  have f1 : st.off = false := by rw [← hst]; rfl
  have f2 : st.pend = [] := by rw [← hst]; rfl
  have f3 : st.size = size := by rw [← hst]; rfl
  have f4 : st.kept.length = n + 4 := by rw [← hst]; show (ofK _ _ _ _).length = _; unfold ofK; rw [List.length_map, List.length_range]
  have f5 : st.reads = 0 := by rw [← hst]; rfl
  have f6 : st.armed = 0 := by rw [← hst]; rfl
  have f7 : st.writes = 0 := by rw [← hst]; rfl
  rw [hst] at hdk
  have B4 := Lib.hid (B3.out.trans (hdk.below.mono B3.out.size))
  have Z4 : Hid (∀ k, Z k → w0.heap.size ≤ k) := fun k hk => Nat.le_trans B3.out.size (hdk.base k hk)
  have HOP := Lib.hid (ropen_any Z d st 2 n w4 hdk.din h4 (by rw [f4]; omega) f1 (by rw [f5]; decide))
  have HBY : Hid (∀ k, Bytes (secB st k)) := fun k => hdk.din.secBytes k
  have HF := Lib.hid (And.intro f1 (And.intro f2 (And.intro f3 (And.intro f4 (And.intro f5 (And.intro f6 f7))))))
  clear hst hdk f1 f2 f3 f4 f5 f6 f7 HOF
  go_wp2_with fail
  refine HOP.out.mono ?_
  rintro e w5 ⟨R, hR1, hR2, hpost⟩
  rw [HF.out.2.2.1] at hpost
  have hR3 : 0 ≤ R ∧ R ≤ 8589934592 := by have := HF.out.2.2.2.2.1; omega
  clear hR1 hR2
  cases hop : opR (secB st) 2 n size with
  | none =>
    rw [hop] at hpost
    obtain ⟨⟨v, rfl, hf⟩, Z5, hd5, ht5⟩ := hpost
    obtain ⟨g8, rfl, hc8⟩ := hf
    have HIS := Lib.hid (is_fail g8 20 w5 hc8)
    have B5 := Lib.hid (B4.out.trans (ht5.below Z4.out B4.out.size))
    clear hd5 ht5 hop
    go_wp2_with (first | (go_at_call 23; refine HIS.out.mono ?_; rintro e w9 ⟨rfl, rfl⟩))
    go_ret
    exact ⟨rfl, B5.out⟩
  | some pr =>
    rw [hop] at hpost
    obtain ⟨r, Q, v, vs, rfl, hr, hW, ht⟩ := hpost
    obtain ⟨h, ls⟩ := pr
    obtain ⟨hsf, hct⟩ := opR_count hop
    obtain ⟨a, c, rfl⟩ := hW.shape
    obtain ⟨m, hm⟩ : ∃ m, vs.length = m := ⟨_, rfl⟩
    rw [hm]
    have hml : m = (h.next - h.first).toNat := by rw [← hm, hW.len]; exact hct
    replace hr : RiIn w5 Q r d (st.rd R) ⟨2, n, size, h, ksOf size ls⟩ := hr
    obtain ⟨_, hfi1, hle, _⟩ := stF_ok hsf (by omega) (HBY.out _) (HBY.out _)
    have hwf := hr.ok.h
    have hf0 : 0 ≤ h.first := hwf.f0
    have hx1 : h.next ≤ 18446744073709551615 := hwf.n1
    have hmI : (m : Int) = h.next - h.first := by rw [hml]; exact Int.toNat_of_nonneg (by omega)
    have hmi : (m : Int) ≤ 18446744073709551615 := by rw [hmI]; omega
    have e1 : IntKind.u64.wrap (h.next - h.first) = (m : Int) := by rw [IntKind.wrap_u64, ← hmI]; omega
    have e2 : IntKind.u64.wrap (m : Int) = (m : Int) := by rw [IntKind.wrap_u64]; omega
    have dm : ((m : Int) != (m : Int)) = false := by simp
    obtain ⟨⟨Z5, sv, hd5, hrow5, _⟩, _⟩ := id hr
    have HFI := Lib.hid (first_any r d sv _ w5 hrow5)
    have HNX := Lib.hid (next_any r d sv _ w5 hrow5)
    have B5 := Lib.hid (B4.out.trans (ht.below Z4.out B4.out.size))
    have Q5 := Lib.hid (ht.base Z4.out B4.out.size)
    have R5 := Lib.hid hr
    have hrow := heap_alloc_new w5 (.cells #[.int .u8 120] 5)
    have hba : Below w5.heap.size w5 (w5.alloc (.cells #[.int .u8 120] 5)) := (Below.refl _ _).alloc (Nat.le_refl _) _
    obtain ⟨w6, hmk, hr9, hg9⟩ := run_mark (P := Try.prog) (t := 36) (n := 1) (c := 1) u8TR Try.underlying5 hrow
    have hbt := hba.trans (show Below w5.heap.size (w5.alloc (.cells #[.int .u8 120] 5)) w6 from (Below.refl _ _).grown hg9 hba.size (fun g h => by injection h with h; omega))
    have R6 := Lib.hid (hr.below hbt)
    have B6 := Lib.hid (B5.out.trans (hbt.mono B5.out.size))
    have hrd6 : RdAt .u8 w6 (some ⟨w5.heap.size, 0, none⟩) 1 1 [120] := rd_row (l := [120]) hr9 (by decide) (by decide)
    have hq6 : ¬ Q w5.heap.size := fun h => Nat.lt_irrefl _ (hr.lt _ h)
    skip
    obtain ⟨JJ, hJJ⟩ : ∃ JJ : Jr, (⟨2, n, size, h, ksOf size ls⟩ : Jr) = JJ := ⟨_, rfl⟩
    have hJh : JJ.h = h := by rw [← hJJ]
    have HR6 : Hid (RiIn w6 Q r d (st.rd R) JJ) := by have h := R6.out; rw [hJJ] at h; exact h
    have HQ6 : Hid (∀ k, Q k → w0.heap.size ≤ k) := Q5.out
    clear hr hd5 hrow5 hW ht hop hsf hct hm hrow hba hg9 hbt hr9 R5 R6 Q5
    by_cases hf : roomN JJ < ((1 : Nat) : Int)
    · have HAP := Lib.hid (append_full Q r d (st.rd R) JJ _ _ _ _ w6 HR6.out hrd6 hf (by decide))
      go_wp2_with (first | (go_at_call 21; refine HNX.out.mono ?_; rintro e w9 ⟨rfl, rfl⟩) | (go_at_call 20; refine HFI.out.mono ?_; rintro e w9 ⟨rfl, rfl⟩))
      refine HAP.out.mono ?_
      rintro e w7 ⟨rfl, rfl⟩
      go_wp2_with fail
      go_ret
      exact ⟨rfl, B6.out⟩
    · have HAP := Lib.hid (append_wr Q r d (st.rd R) JJ _ _ _ _ w6 HR6.out hrd6 (fun x hx _ => by injection hx with hx; rw [← hx]; exact hq6) hf HF.out.1 HF.out.2.1 (by show st.writes + 70000 ≤ _; rw [HF.out.2.2.2.2.2.2]; decide))
      obtain ⟨g1, g2, g3, g4, g5⟩ := apW_whole (st := st.rd R) (J := JJ) (l := [120]) HF.out.1 HF.out.2.2.2.2.2.1 hf
      obtain ⟨AP, hAP⟩ : ∃ AP, apSW (st.rd R) JJ [120] = AP := ⟨_, rfl⟩
      rw [hAP] at HAP g1 g2 g3 g4 g5
      unfold ApE at HAP
      rw [g1, if_pos rfl] at HAP
      have g3' : AP.st.reads ≤ 8589934592 := by rw [g3]; exact hR3.2
      have g4' : AP.st.kept.length = n + 4 := g4.trans HF.out.2.2.2.1
      have HG := Lib.hid (And.intro g2 (And.intro g3' g4'))
      clear g1 g2 g3 g4 g5 g3' g4' hAP hf
      go_wp2_with (first | (go_at_call 21; refine HNX.out.mono ?_; rintro e w9 ⟨rfl, rfl⟩) | (go_at_call 20; refine HFI.out.mono ?_; rintro e w9 ⟨rfl, rfl⟩))
      refine HAP.out.mono ?_
      rintro e w7 ⟨rfl, Q7, hr7, ht7⟩
      have B7 := Lib.hid (B6.out.trans (ht7.below HQ6.out B6.out.size))
      have Q7_ := Lib.hid (ht7.base HQ6.out B6.out.size)
      obtain ⟨⟨Z7, sv7, hd7, _, _, hz7, _⟩, _⟩ := hr7
      have Z7_ : Hid (∀ k, Z7 k → w0.heap.size ≤ k) := fun k hk => Q7_.out k (hz7 k hk)
      have HOP2 := Lib.hid (ropen_any Z7 d AP.st 2 n w7 hd7 h4 (by rw [HG.out.2.2]; omega) HG.out.1 (by have := HG.out.2.1; omega))
      clear hd7 hz7 ht7
      go_wp2_with fail
      refine HOP2.out.mono ?_
      rintro e w8 ⟨R8, _, _, hpost⟩
      cases hop2 : opR (secB AP.st) 2 n AP.st.size with
      | none =>
        rw [hop2] at hpost
        obtain ⟨⟨v, rfl, hf⟩, Z8, hd8, ht8⟩ := hpost
        obtain ⟨g8, rfl, hc8⟩ := hf
        have HIS := Lib.hid (is_fail g8 20 w8 hc8)
        have B8 := Lib.hid (B7.out.trans (ht8.below Z7_.out B7.out.size))
        clear hd8 ht8 hop2
        go_wp2_with (first | (go_at_call 23; refine HIS.out.mono ?_; rintro e w9 ⟨rfl, rfl⟩))
        go_ret
        exact ⟨rfl, B8.out⟩
      | some pr =>
        rw [hop2] at hpost
        obtain ⟨r8, Q8, v, vs, rfl, hr8, hW8, ht8⟩ := hpost
        obtain ⟨a8, c8, rfl⟩ := hW8.shape
        have B8 := Lib.hid (B7.out.trans (ht8.below Z7_.out B7.out.size))
        clear hr8 hW8 ht8 hop2
        go_wp2_with fail
        go_ret
        exact ⟨rfl, B8.out⟩
end Go.Proofs.Ytlhpdkapddnbcaa

namespace Go.Proofs.Ytlhpdkapddnbcaa.ringAny
open Go.ChangeShapes Go.WideShapes Go.ChangeAt Go.RowKit
set_option linter.unusedVariables false

set_option maxRecDepth 100000 in
theorem own : ownKnob Try.prog.godebug = none := by kernel_rfl
set_option maxRecDepth 100000 in
theorem laidOut : laidOutB Try.prog = true := by kernel_rfl

set_option maxRecDepth 100000 in
theorem lifted (os : Os) (started : os.Started) (H : Type) (enc : TypeId × Value → H) :
    ReturnsInHanded {} Try.checked os 5 .any (Rows.ringAnySpec.pre6 enc Try.prog Try.f5 Rows.ringAnyRow.domain false) (Rows.ringAnySpec.post enc Try.prog Try.f5 false true false false) := by
  refine returnsInHanded_of_change (C := Try.checked) own started (by kernel_rfl) Try.func5
    (ChangeSpec.witness6 (enc := enc) (C := Try.checked) false ⟨#[], #[.int .i64 0, .slice none 0 0, .int .i64 0], []⟩ 8 (by kernel_rfl) (by kernel_rfl) (by kernel_rfl) (by kernel_rfl)) ?_
  intro W base args ds gs before hval0 hW hcnd _
  have hval : ∀ (j : Nat) t v, Try.f5.params[j]? = some t → args[j]? = some v → Value.okWide Try.prog W .any base t v := hval0
  have hW' := hW
  obtain ⟨p, q, hA0, hV, rfl, hfz, hnd⟩ := hW
  have hA : DataW.TrodAll enc Try.prog W 0 (fun _ => true) true Try.f5.params.toList args.toList ds p := hA0
  rw [Try.params5] at hA hval
  obtain ⟨v0, vs0, d0, ds0, p0, q0, hargs, rfl, rfl, h0, r0⟩ := trodAll_cons hA
  obtain ⟨v1, vs1, d1, ds1, p1, q1, rfl, rfl, rfl, h1, r1⟩ := trodAll_cons r0
  obtain ⟨v2, vs2, d2, ds2, p2, q2, rfl, rfl, rfl, h2, r2⟩ := trodAll_cons r1
  obtain ⟨rfl, rfl, rfl⟩ := trodAll_nil r2
  obtain rfl : args = #[v0, v1, v2] := by cases args; simp_all
  obtain ⟨rfl, rfl⟩ := trodVars_none hV
  obtain ⟨a0, rfl, rfl, rfl, w0⟩ := open_int Try.underlying3 (hval 0 3 v0 rfl rfl) h0
  obtain ⟨a1, len1, cap1, rfl⟩ := okWide_slice Try.underlying36 (hval 1 36 v1 rfl rfl)
  have k1 := h1
  have lt1 : ∀ x ∈ p1, x.block < W.heap.size := by obtain ⟨m, hm⟩ := k1; exact DataW.trod_lt m _ _ _ hm
  obtain ⟨z1, w1⟩ : ∃ zs, RdAt .u8 W a1 len1 cap1 zs := by
    obtain ⟨fuel, hf⟩ := h1
    rcases open_ints Try.underlying36 Try.underlying5 (by kernel_rfl) hf with ⟨hcs, _⟩ | ⟨x, l, c, zs, hcs, _, hl, hm, hz, _, hcell, hwz⟩
    · simp [Value.cells] at hcs
      obtain ⟨rfl, rfl, rfl⟩ := hcs
      exact ⟨[], RdAt.nil _ _⟩
    · simp [Value.cells] at hcs
      obtain ⟨rfl, rfl, rfl⟩ := hcs
      exact ⟨_, RdAt.of_row hl hm (by simpa using hz) hcell hwz⟩
  obtain ⟨a2, rfl, rfl, rfl, w2⟩ := open_int Try.underlying3 (hval 2 3 v2 rfl rfl) h2
  clear hA0 hval0
  refine (ringAny_walk a0 a1 len1 cap1 z1 a2 W w0 w1 w2).mono fun e W' ⟨he, bel⟩ => ?_
  subst he
  exact ⟨_, rfl, _, _, _, [], _, [], hW', trodAll_mk1 (shut_bool Try.underlying4 _), (trodAll_cons_mk (shut_int Try.underlying3 w0) (trodAll_cons_mk (Below.trod laidOut (by kernel_rfl) (of_decide_eq_true (by kernel_rfl)) k1 bel lt1) (trodAll_cons_mk (shut_int Try.underlying3 w2) trodAll_mk0))), rfl, bel.frame _, fun h => by cases h⟩

set_option maxRecDepth 100000 in
theorem over : Rows.ringAnyRow.holds Try.pinned (OpenSpec.ofChange Rows.ringAnySpec) :=
  OpenClaim.holds_of_wide 5 Try.f5 rfl rfl rfl rfl rfl rfl rfl ⟨rfl, rfl, rfl, rfl, rfl⟩ rfl rfl rfl rfl rfl (by kernel_rfl) Try.func5 (by kernel_rfl)
    (of_decide_eq_true (by kernel_rfl)) (by unfold Func.isWrapper; first | (rw [if_pos (by decide +kernel)]; kernel_rfl) | (rw [if_neg (by decide +kernel)]; exact ⟨rfl, rfl⟩))
    (fun os started H enc _ => lifted os started H enc)

/-- RingAny holds for every input. -/
theorem proved : Rows.RingAnySaid := over
end Go.Proofs.Ytlhpdkapddnbcaa.ringAny
