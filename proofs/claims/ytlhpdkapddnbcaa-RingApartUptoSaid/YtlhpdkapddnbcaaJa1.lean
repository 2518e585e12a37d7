/- ring: a journal in the middle of a disk whose power stays on: one record more. ring: a disk whose sectors are all filled alike; a journal formatted in its middle. RingApart: the walk. RingApart: for every input the law returns true, and every argument reads as it did: the row round the walk. -/
import Derived.Test.YtlhpdkapddnbcaaJk25
import Derived.Deep.CutBlock
import Derived.Deep.DeepCutAuto
import Derived.JoinedCond
import Derived.Test.YtlhpdkapddnbcaaRows
import Derived.WalkKit
import Derived.ProofKit
import Derived.OpenShut
import Derived.ShutString
import Derived.ChangeOld
import Derived.Below
namespace Go.Proofs.Ytlhpdkapddnbcaa
open Go.RowKit
/-- A play's block as begun makes it. -/
def rowG (d r n : Nat) : Obj := .cells #[.pointer (some ⟨d, 0, none⟩), .pointer (some ⟨r, 0, none⟩), .int .i64 2, .int .i64 (n : Int), .slice none 0 0, .int .u64 1, .bool false, .slice none 0 0, .int .u64 0] 31 (0, 0)
/-- Behind i records. -/
structure RmIn (w0 w : World) (g d r : Nat) (Q : Nat → Prop) (n size i : Nat) (st : Dk) (J : Jr) : Prop where
  row : w.heap[g]? = some (rowG d r n)
  ri : RiIn w Q r d st J
  ng : ¬ Q g
  base : ∀ k, Q k → w0.heap.size ≤ k
  gb : w0.heap.size ≤ g
  below : Below w0.heap.size w0 w
  jn : J.n = n
  jsz : J.size = size
  off : st.off = false
  pend : st.pend = []
  armed : st.armed = 0
  nx : J.h.next = 1 + i
  tn : J.h.turn ≤ 4611686018427387909 + i
  wr : st.writes ≤ 2 + 70000 * i
theorem Begun.rm {w0 w : World} {g d r : Nat} {Q : Nat → Prop} {n size : Nat} (h : Begun w0 w g d r Q n size) : RmIn w0 w g d r Q n size 0 (fmS (dk0 (n + 4) size) 2 size (bgT n size)) (fmJ 2 n size (bgT n size)) :=
  ⟨h.row, h.ri, h.ng, h.base, h.gb, h.below, rfl, rfl, rfl, rfl, rfl, rfl, by have := (bgT_bd n size).2.1; show bgT n size + 1 ≤ 4611686018427387909 + ((0 : Nat) : Int); omega, by show (0 : Int) + 1 + 1 ≤ 2 + 70000 * ((0 : Nat) : Int); omega⟩
section
variable {w0 w w' : World} {g d r : Nat} {Q : Nat → Prop} {n size i : Nat} {st : Dk} {J : Jr}
theorem RmIn.more (h : RmIn w0 w g d r Q n size i st J) (b : Below w.heap.size w w') : RmIn w0 w' g d r Q n size i st J :=
  ⟨row_keep h.row b, h.ri.below b, h.ng, h.base, h.gb, h.below.trans (b.mono h.below.size), h.jn, h.jsz, h.off, h.pend, h.armed, h.nx, h.tn, h.wr⟩
theorem RmIn.back {wb : World} (h : RmIn w0 w g d r Q n size i st J) (b : Below wb.heap.size wb w0) : RmIn wb w g d r Q n size i st J :=
  ⟨h.row, h.ri, h.ng, fun k hk => Nat.le_trans b.size (h.base k hk), Nat.le_trans b.size h.gb, b.trans (h.below.mono b.size), h.jn, h.jsz, h.off, h.pend, h.armed, h.nx, h.tn, h.wr⟩
theorem RmIn.glt (h : RmIn w0 w g d r Q n size i st J) : g < w.heap.size := (Array.getElem?_eq_some_iff.1 h.row).1
theorem RmIn.drew (h : RmIn w0 w g d r Q n size i st J) : RmIn w0 w.drew g d r Q n size i st J := h.more ⟨rfl, rfl, rfl, Nat.le_refl _, fun _ _ => rfl⟩
set_option maxRecDepth 100000 in
/-- One record more. -/
theorem RmIn.append (h : RmIn w0 w g d r Q n size i st J) (hi : i ≤ 1000) {a : Option Addr} {m c : Nat} {l : List Int} (hl : RdAt .u8 w a m c l) (hq : ∀ x, a = some x → 0 < m → ¬ Q x.block) (hf : ¬ roomN J < m) :
    Calls Try.prog 12 #[.pointer (some ⟨r, 0, none⟩), .slice a m c] w fun e w' => e = .returned (.tuple #[.int .u64 (1 + i), .int .i64 0]) ∧ ∃ Q' st' J', RmIn w0 w' g d r Q' n size (i + 1) st' J' ∧ J'.ks = J.ks ++ [ndN size m] := by
  refine (append_on Q r d st J a m c l w h.ri hl hq hf h.off h.pend (by rw [h.nx]; omega) (by have := h.tn; omega) (by have := h.wr; omega)).mono ?_
  rintro e w' ⟨rfl, Q', hr', ht'⟩
  have hb := h.below.trans (ht'.below h.base h.below.size)
  have hlen := hl.len
  have hfl : ¬ roomN J < l.length := by rw [hlen]; exact hf
  obtain ⟨hsum, hm2⟩ := nd_room h.ri.ok hf
  have hnd : ndN J.size m ≤ 65536 := by have := h.ri.ok.n1; omega
  obtain ⟨e1, eJ, e3, e4, e5, e6, e7, e8, e9⟩ := ap_whole h.off h.pend (.inl h.armed) hfl
  refine ⟨by unfold ApE; rw [e1, h.nx]; rfl, Q', _, _, ⟨(ht'.block g h.glt h.ng).trans h.row, hr', fun hq' => ?_, ht'.base h.base h.below.size, h.gb, hb, ?_, ?_, e3, e4, e8 h.armed, ?_, ?_, ?_⟩, ?_⟩
  · rcases ht'.sub g hq' with h1 | h1
    · exact h.ng h1
    · have := h.glt
      omega
  · rw [eJ]; exact h.jn
  · rw [eJ]; exact h.jsz
  · rw [eJ]
    show J.h.next + 1 = 1 + ((i + 1 : Nat) : Int)
    rw [h.nx]
    omega
  · rw [eJ]
    have := h.tn
    show J.h.turn + 1 ≤ 4611686018427387909 + ((i + 1 : Nat) : Int)
    omega
  · have := h.wr
    rw [e7, hlen]
    omega
  · rw [eJ, hlen, h.jsz]
set_option maxRecDepth 100000 in
theorem RmIn.room (h : RmIn w0 w g d r Q n size i st J) : Calls Try.prog 11 #[.pointer (some ⟨r, 0, none⟩)] w fun e w' => e = .returned (.int .i64 (roomN J)) ∧ w = w' := by
  obtain ⟨⟨Z, sv, hd, hr, ho, _⟩, ok, _⟩ := h.ri
  exact rroom_any r d sv J w hr ok ho
theorem RmIn.cells (h : RmIn w0 w g d r Q n size i st J) : w.cell? ⟨g, 1, none⟩ = some (.pointer (some ⟨r, 0, none⟩)) := by
  have h1 := h.row
  unfold rowG at h1
  simp [World.cell?, h1]
end
theorem rd_rowB {w : World} {q : Nat} {l : List Int} {e : TypeId} {fr : Nat × Nat} (row : w.heap[q]? = some (.cells (l.map (Value.int .u8)).toArray e fr)) (hl : l.length ≤ maxLen) (hw : ∀ x ∈ l, (Lit.int .u8 x).wf = true) : RdAt .u8 w (some ⟨q, 0, none⟩) l.length l.length l :=
  ⟨rfl, Nat.le_refl _, hl, fun i hi => ⟨_, _, rfl, by rw [cell_of_row w _ _ _ _ _ row, Nat.zero_add, List.getElem?_toArray, List.getElem?_map, List.getElem?_eq_getElem hi, nth_eq hi]; rfl⟩, hw, fun h => by cases h⟩
/-- A new row of zeros. -/
structure NewZ (w w' : World) (v : Value) (k : Nat) : Prop where
  ex : ∃ b, v = .slice (some ⟨b, 0, none⟩) k k ∧ RdAt .u8 w' (some ⟨b, 0, none⟩) k k (List.replicate k 0) ∧ w.heap.size ≤ b
  below : Below w.heap.size w w'
set_option maxRecDepth 100000 in
theorem mk_zeros (k : Nat) (hk : k ≤ 16777216) (w : World) : ∃ v w', (Instr.makeSlice 36 (.int .i64 (k : Int)) (.int .i64 (k : Int))).run Try.prog w = .ok v w' ∧ NewZ w w' v k := by
  have mkI : (Try.prog.info? 5).map (fun i => (i.zero, i.size, i.bytes)) = some (some (.int .u8 0), 1, 1) := by kernel_rfl
  obtain ⟨i, hi, hz, hs, hb⟩ := info_parts mkI
  have hr := run_make (P := Try.prog) w 36 5 i (.int .u8 0) u8TR hi hz .i64 .i64 k k (by omega) (Int.le_refl _) (by rw [hb]; omega) (by omega)
  rw [hs, Int.toNat_natCast, Nat.mul_one] at hr
  have hrow := heap_alloc_new w (.cells (List.replicate k (.int .u8 0)).toArray 5)
  refine ⟨_, _, hr, ⟨⟨w.heap.size, rfl, ?_, Nat.le_refl _⟩, (Below.refl _ _).alloc (Nat.le_refl _) _⟩⟩
  have hrow2 : (w.alloc (.cells (List.replicate k (Value.int .u8 0)).toArray 5)).heap[w.heap.size]? = some (.cells ((List.replicate k (0 : Int)).map (Value.int .u8)).toArray 5 (0, 0)) := by rw [List.map_replicate]; exact hrow
  have h3 := rd_rowB (l := List.replicate k 0) hrow2 (by rw [List.length_replicate]; unfold maxLen; omega) (fun x hx => by rw [List.eq_of_mem_replicate hx]; rfl)
  rw [List.length_replicate] at h3
  have e : (.cells (madeCells (Value.int .u8 0).cells k) 5 : Obj) = .cells (List.replicate k (Value.int .u8 0)).toArray 5 := by
    congr 1
    rw [show (Value.int .u8 0).cells = #[.int .u8 0] from rfl, ← toList_madeCells_one]
  rw [e]
  exact h3
end Go.Proofs.Ytlhpdkapddnbcaa

namespace Go.Proofs.Ytlhpdkapddnbcaa
open Go.RowKit
/-- The sectors from 0 on written alike. -/
def wrN (st : Dk) (S : List Int) : Nat → Dk
  | 0 => st
  | k + 1 => putS (wrN st S k) (k : Int) S
theorem wrN_facts {st : Dk} (S : List Int) (ha : st.armed = 0) (hp : st.pend = []) : ∀ k, (wrN st S k).off = st.off ∧ (wrN st S k).armed = 0 ∧ (wrN st S k).size = st.size ∧ (wrN st S k).kept = st.kept ∧ (wrN st S k).reads = st.reads ∧ (wrN st S k).writes = st.writes + k ∧ (wrN st S k).pend = (List.range k).map fun (j : Nat) => ((j : Int), S)
  | 0 => ⟨rfl, ha, rfl, rfl, rfl, by show st.writes = st.writes + ((0 : Nat) : Int); omega, hp⟩
  | k + 1 => by
    obtain ⟨e1, e2, e3, e4, e5, e6, e7⟩ := wrN_facts S ha hp k
    refine ⟨e1, ?_, e3, e4, e5, ?_, ?_⟩
    · show (if (wrN st S k).armed = 0 then (0 : Int) else _) = 0
      rw [if_pos e2]
    · show (wrN st S k).writes + 1 = _
      rw [e6]
      omega
    · show (wrN st S k).pend ++ [((k : Int), S)] = _
      rw [e7, List.range_succ, List.map_append]
      rfl
theorem wrN_put {st : Dk} {S : List Int} (ha : st.armed = 0) (hp : st.pend = []) (hoff : st.off = false) (hS : S.length = st.size) (k : Nat) (hk : k < st.kept.length) : wrE (wrN st S k) (k : Int) S = 0 ∧ wrS (wrN st S k) (k : Int) S = wrN st S (k + 1) := by
  obtain ⟨e1, e2, e3, e4, e5, e6, e7⟩ := wrN_facts S ha hp k
  obtain ⟨h1, h2⟩ := wr1_fit (st := wrN st S k) (s := (k : Int)) (l := S) (e1.trans hoff) (by omega) (by rw [e4]; omega) (by rw [e3]; exact hS)
  have hn : ¬ (wrN st S k).armed = 1 := by omega
  rw [h1, h2]
  unfold wr1E wr1
  rw [if_neg hn, if_neg hn]
  exact ⟨rfl, rfl⟩
/-- Flushed, each sector is so. -/
theorem wrN_flush {st : Dk} {S : List Int} (ha : st.armed = 0) (hp : st.pend = []) (N : Nat) (hN : st.kept.length = N) (s : Nat) (hs : s < N) : (flushS (wrN st S N)).kept[s]? = some S := by
  obtain ⟨e1, e2, e3, e4, e5, e6, e7⟩ := wrN_facts S ha hp N
  show (settleK (fun _ => true) 0 (wrN st S N).pend (wrN st S N).kept)[s]? = _
  have hm : ((List.range N).map fun (j : Nat) => ((j : Int), S)) = ((List.range N).map fun (j : Nat) => (j, S)).map (fun p : Nat × List Int => ((p.1 : Int), p.2)) := by rw [List.map_map]; rfl
  rw [e7, e4, hm, settle_setAll _ _ _ _ (fun _ => rfl)]
  have hat : ∀ i, i < N → ((List.range N).map fun (j : Nat) => (j, S))[i]? = some (i, S) := fun i hi => by simp [hi]
  refine setAll_at _ st.kept s (s, S) (hat s hs) (by show s < _; omega) (fun j q hj hq => ?_)
  have hjN : j < N := by have := (List.getElem?_eq_some_iff.1 hq).1; simpa using this
  rw [hat j hjN] at hq
  injection hq with hq
  rw [← hq]
  show j ≠ s
  omega
/-- A row being filled. -/
def fillL (f : Int) (size i : Nat) : List Int := List.replicate i f ++ List.replicate (size - i) 0
theorem fillL_len (f : Int) {size i : Nat} (h : i ≤ size) : (fillL f size i).length = size := by
  unfold fillL
  rw [List.length_append, List.length_replicate, List.length_replicate]
  omega
theorem fillL_set (f : Int) {size i : Nat} (h : i < size) : (fillL f size i).set i f = fillL f size (i + 1) := by
  unfold fillL
  rw [List.set_append_right _ _ (by simp), List.length_replicate, Nat.sub_self, show size - i = (size - (i + 1)) + 1 by omega, List.replicate_succ, List.set_cons_zero, List.replicate_succ', List.append_assoc]
  rfl
theorem fillL_all (f : Int) (size : Nat) : fillL f size size = List.replicate size f := by
  unfold fillL
  rw [Nat.sub_self, List.replicate_zero, List.append_nil]
def FillAt (w : World) (b : Nat) (l : List Int) : Prop := w.heap[b]? = some (.cells (l.map (Value.int .u8)).toArray 5 (0, 0))
theorem FillAt.cell {w : World} {b : Nat} {l : List Int} (h : FillAt w b l) {i : Nat} (hi : i < l.length) : w.cell? ⟨b, i, none⟩ = some (.int .u8 (nth l i)) := by
  rw [cell_of_row w b i _ _ _ h, List.getElem?_toArray, List.getElem?_map, List.getElem?_eq_getElem hi, nth_eq hi]
  rfl
theorem FillAt.put {w : World} {b : Nat} {l : List Int} (h : FillAt w b l) (i : Nat) (x : Int) : FillAt (w.setCell ⟨b, i, none⟩ (.int .u8 x)) b (l.set i x) := by
  unfold FillAt
  rw [heap_setCell_same w b i _ _ _ h]
  simp
theorem FillAt.rd {w : World} {b : Nat} {l : List Int} (h : FillAt w b l) (hl : l.length ≤ 4096) (hw : ∀ x ∈ l, (Lit.int .u8 x).wf = true) : RdAt .u8 w (some ⟨b, 0, none⟩) l.length l.length l := rd_rowB h (by unfold maxLen; omega) hw
set_option maxRecDepth 100000 in
theorem mk_fill (k : Nat) (hk : k ≤ 4096) (w : World) : ∃ w', (Instr.makeSlice 36 (.int .i64 (k : Int)) (.int .i64 (k : Int))).run Try.prog w = .ok (.slice (some ⟨w.heap.size, 0, none⟩) k k) w' ∧ FillAt w' w.heap.size (List.replicate k 0) ∧ Below w.heap.size w w' := by
  have mkI : (Try.prog.info? 5).map (fun i => (i.zero, i.size, i.bytes)) = some (some (.int .u8 0), 1, 1) := by kernel_rfl
  obtain ⟨i, hi, hz, hs, hb⟩ := info_parts mkI
  have hr := run_make (P := Try.prog) w 36 5 i (.int .u8 0) u8TR hi hz .i64 .i64 k k (by omega) (Int.le_refl _) (by rw [hb]; omega) (by omega)
  rw [hs, Int.toNat_natCast, Nat.mul_one] at hr
  refine ⟨_, hr, ?_, (Below.refl _ _).alloc (Nat.le_refl _) _⟩
  unfold FillAt
  rw [List.map_replicate]
  have e : (.cells (madeCells (Value.int .u8 0).cells k) 5 : Obj) = .cells (List.replicate k (Value.int .u8 0)).toArray 5 := by
    congr 1
    rw [show (Value.int .u8 0).cells = #[.int .u8 0] from rfl, ← toList_madeCells_one]
  rw [e]
  exact heap_alloc_new _ _
/-- The sectors being written. -/
structure WrIn (w0 w : World) (d bs : Nat) (Z : Nat → Prop) (st : Dk) (S : List Int) (k : Nat) : Prop where
  di : DkIn w Z d (wrN st S k)
  base : ∀ x, Z x → w0.heap.size ≤ x
  nz : ¬ Z bs
  row : FillAt w bs S
  lt : bs < w.heap.size
  below : Below w0.heap.size w0 w
set_option maxRecDepth 100000 in
theorem WrIn.next {w0 w : World} {d bs : Nat} {Z : Nat → Prop} {st : Dk} {S : List Int} {k : Nat} (h : WrIn w0 w d bs Z st S k) (ha : st.armed = 0) (hp : st.pend = []) (hoff : st.off = false) (hS : S.length = st.size) (hk : k < st.kept.length) (hkl : k ≤ 1000) (hs : st.size ≤ 4096) (hw : ∀ x ∈ S, (Lit.int .u8 x).wf = true) (hwr : st.writes = 0) :
    Calls Try.prog 27 #[.pointer (some ⟨d, 0, none⟩), .int .i64 (k : Int), .slice (some ⟨bs, 0, none⟩) S.length S.length] w fun e w' => e = .returned (.int .i64 0) ∧ ∃ Z', WrIn w0 w' d bs Z' st S (k + 1) := by
  obtain ⟨e1, e2, e3, e4, e5, e6, e7⟩ := wrN_facts S ha hp k
  obtain ⟨p1, p2⟩ := wrN_put ha hp hoff hS k hk
  refine (write_any Z d (wrN st S k) (k : Int) (some ⟨bs, 0, none⟩) S.length S.length S w h.di (h.row.rd (by omega) hw) (fun x hx => by injection hx with hx; subst hx; exact h.nz) (by omega) (by omega) (by rw [e7, List.length_map, List.length_range]; omega) (by rw [e6]; omega)).mono ?_
  rintro e w' ⟨rfl, Z', hd, ht⟩
  rw [p1]
  rw [p2] at hd
  exact ⟨rfl, Z', hd, ht.base h.base h.below.size, tnd_new ht h.lt h.nz, (ht.block bs h.lt h.nz).trans h.row, Nat.lt_of_lt_of_le h.lt ht.size, h.below.trans (ht.below h.base h.below.size)⟩
set_option maxRecDepth 100000 in
/-- A sector read. -/
theorem PlD.read {C : PlC} {w0 w : World} {Z : Nat → Prop} {i : Nat} {st : Dk} {h : Hd} {L : List (List Int)} {V : PlV} (p : PlD C w0 w Z i st h L V) (hoff : st.off = false) (hi : i ≤ 1000) (s : Nat) (hs : s < C.n + 4) :
    Calls Try.prog 29 #[.pointer (some ⟨C.d, 0, none⟩), .int .i64 (s : Int)] w fun e w' => ∃ a c, e = .returned (.tuple #[.slice a C.size c, .int .i64 0]) ∧ RdAt .u8 w' a C.size c (secB st s) ∧ (∃ st', PlD C w0 w' Z (i + 1) st' h L V ∧ st'.off = false ∧ st'.kept = st.kept) ∧ Tnd Z Z w w' := by
  have hlen := p.num.len
  have hn : (st.kept.length : Int) ≤ 65536 := by have := p.di.okR.n.2; omega
  obtain ⟨r1, r2, r3⟩ := rd_in (st := st) (s := s) hoff (by omega)
  refine (read_any Z C.d st (s : Int) w p.di (by omega) (by omega) (by have := p.num.rd; omega)).mono ?_
  rintro e w' ⟨v, rfl, ho, hd, ht⟩
  rw [r1]
  rw [r2] at ho
  rw [r3] at hd
  have hsl : (secB st s).length = C.size := by rw [secB_len p.di.okR (by omega)]; exact p.num.size
  obtain ⟨a, c, rfl⟩ := ho.shapeN C.size hsl
  exact ⟨a, c, rfl, ho.rd, ⟨_, p.turn hd ht ⟨p.num.pend, p.num.size, p.num.len, by have := p.num.wr; show st.writes ≤ _; omega, by have := p.num.rd; show st.reads + 1 ≤ _; omega, by have := p.num.nx; omega, by have := p.num.tn; omega, p.num.out⟩ (fun q => rfl), hoff, rfl⟩, ht⟩
/-- A play begun over a formatted journal. -/
theorem fm_pls {w0 w w' : World} {Q : Nat → Prop} {d r n size : Nat} {st : Dk} {t : Int} {W : World} {Kp : Nat → Prop} (hr : RiIn w Q r d (fmS st 2 size t) (fmJ 2 n size t)) (base : ∀ k, Q k → w0.heap.size ≤ k) (below : Below w0.heap.size w0 w) (h4 : 4 ≤ n) (hoff : st.off = false) (hp : st.pend = []) (hsz : st.size = size) (hlen : st.kept.length = n + 4) (hwr : st.writes ≤ 900) (hrd : st.reads ≤ 900) (t0 : 0 ≤ t) (t1 : t ≤ 4611686018427387908) (t2 : t % 2 = 0)
    (hw : w' = w.alloc (.cells #[.pointer (some ⟨d, 0, none⟩), .pointer (some ⟨r, 0, none⟩), .int .i64 2, .int .i64 (n : Int), .slice none 0 0, .int .u64 1, .bool false, .slice none 0 0, .int .u64 0] 31)) (hk : ∀ b, Kp b → b < w.heap.size ∧ w.heap[b]? = W.heap[b]? ∧ ¬ Q b) :
    PlS ⟨w.heap.size, d, n, size, (fmS st 2 size t).kept, W, Kp⟩ w0 w' 0 [] := by
  have hba : Below w.heap.size w w' := by rw [hw]; exact (Below.refl _ _).alloc (Nat.le_refl _) _
  have hrow := heap_alloc_new w (.cells #[.pointer (some ⟨d, 0, none⟩), .pointer (some ⟨r, 0, none⟩), .int .i64 2, .int .i64 (n : Int), .slice none 0 0, .int .u64 1, .bool false, .slice none 0 0, .int .u64 0] 31)
  rw [← hw] at hrow
  refine ⟨Q, r, _, _, ⟨.pointer (some ⟨r, 0, none⟩), .slice none 0 0, .slice none 0 0, false, 0, 1, []⟩, ⟨hrow, hr.below hba, fun h => Nat.lt_irrefl _ (hr.lt _ h), base, below.size, below.trans (hba.mono below.size), hoff, ⟨rfl, hsz, ?_, ?_, ?_, ?_, ?_, fun s _ => rfl⟩, rfl, rfl, rfl, fm_holds (st := st) (lo := 2) hp h4 (by show 2 + n ≤ _; rw [hlen]; omega) t0 t1 t2, rfl, ⟨none, 0, 0, rfl, RowsRd.nil _ _⟩, fun x => ⟨by simp, by simp⟩, fun b hb => ?_⟩, rfl, rfl, rfl⟩
  · show (settleK _ _ _ _).length = _
    rw [settleK_len]
    exact hlen
  · show st.writes + 1 + 1 ≤ 1000 + 70000 * ((0 : Nat) : Int)
    omega
  · show st.reads + 2 ≤ 1000 + 8589934592 * ((0 : Nat) : Int)
    omega
  · show (1 : Int) ≤ 1 + ((0 : Nat) : Int)
    omega
  · show t + 1 ≤ 4611686018427387909 + ((0 : Nat) : Int)
    omega
  · obtain ⟨h1, h2, h3⟩ := hk b hb
    exact ⟨Nat.lt_of_lt_of_le h1 hba.size, (hba.block b h1).trans h2, h3, Nat.ne_of_lt h1⟩
/-- The sectors beside the journal stay through Format. -/
theorem fm_out {st : Dk} {n size : Nat} {t : Int} (hp : st.pend = []) (h4 : 4 ≤ n) (s : Nat) (hs : s < 2 ∨ n + 2 ≤ s) : (fmS st 2 size t).kept[s]? = st.kept[s]? := by
  show (settleK (fun _ => true) 0 ((st.pend ++ [((2 : Int), hdS size (hdI t))]) ++ [(((2 + 1 : Nat) : Int), hdS size (hdI (t + 1)))]) st.kept)[s]? = _
  rw [hp]
  refine settle_other _ _ _ _ s (fun q hq => ?_)
  have hq' : q = ((2 : Int), hdS size (hdI t)) ∨ q = (((2 + 1 : Nat) : Int), hdS size (hdI (t + 1))) := by simpa using hq
  rcases hq' with rfl | rfl
  · exact ⟨by show (2 : Int) ≠ s; omega, by show (0 : Int) ≤ 2; omega⟩
  · exact ⟨by show ((2 + 1 : Nat) : Int) ≠ s; omega, by show (0 : Int) ≤ ((2 + 1 : Nat) : Int); omega⟩
end Go.Proofs.Ytlhpdkapddnbcaa

namespace Go.Proofs.Ytlhpdkapddnbcaa
open Go.RowKit
set_option linter.unusedSimpArgs false in
set_option linter.unusedVariables false in
set_option maxRecDepth 100000 in
set_option maxHeartbeats 4000000 in
theorem ringApart_walk (a0 a1 : Int) (x2 : Option Addr) (nl cl : Nat) (l : List RaP) (a3 : Int) (w0 : World) (hw0 : (Lit.int .i64 a0).wf = true) (hw1 : (Lit.int .i64 a1).wf = true) (hl : RasAt w0 x2 nl l) (hb : sumRa l + nl ≤ 1048576) (hw3 : (Lit.int .u8 a3).wf = true) : Calls Try.prog 7 #[.int .i64 a0, .int .i64 a1, .slice x2 nl cl, .int .u8 a3] w0 fun e w' => e = .returned (.bool true) ∧ Below w0.heap.size w0 w' := by
  obtain ⟨p0, p1⟩ := wf_i64_bd hw0
  obtain ⟨q0, q1⟩ := wf_i64_bd hw1
  have HKN := Lib.hid (known8 w0)
  have HL := Lib.hid hl
  have HFW : Hid (∀ w1, Below w0.heap.size w0 w1 → Calls Try.prog 24 #[.slice x2 nl cl] w1 fun e w' => e = .returned (.bool (fewR l)) ∧ Below w1.heap.size w1 w') := fun w1 h => few8_any x2 nl cl l w1 (hl.below h) hb
  obtain ⟨f0, f1⟩ := wf_u8_bd hw3
  by_cases hfew : fewR l = true
  rotate_left
  · have hfw : fewR l = false := by simpa using hfew
    rw [hfw] at HFW
    clear hfew hfw
    go_enter Try.func7, Try.ntmps7
    go_wp2_with fail
    refine HKN.out.mono ?_
    rintro e w1 ⟨rfl, hb1⟩
    have B1 := Lib.hid hb1
    clear hb1
    go_wp2_with (first | (go_at_call 24; refine (HFW.out w1 B1.out).mono ?_; rintro e w2 ⟨rfl, hb2⟩; have B2 := Lib.hid (B1.out.trans (hb2.mono B1.out.size)); clear hb2))
    go_ret
    exact ⟨rfl, B2.out⟩
  have hl60 : nl ≤ 60 := by unfold fewR at hfew; rw [Bool.and_eq_true, decide_eq_true_eq, decide_eq_true_eq, hl.len] at hfew; omega
  have hs16 : sumRa l ≤ 16384 := by unfold fewR at hfew; rw [Bool.and_eq_true, decide_eq_true_eq, decide_eq_true_eq] at hfew; omega
  rw [hfew] at HFW
  clear hfew hl
  by_cases hs : a0 < 64
  · have d0 : decide (a0 < 64) = true := decide_eq_true (by omega)
    go_enter Try.func7, Try.ntmps7
    go_wp2_with fail
    refine HKN.out.mono ?_
    rintro e w1 ⟨rfl, hb1⟩
    have B1 := Lib.hid hb1
    clear hb1
    go_wp2_with (first | (go_at_call 24; refine (HFW.out w1 B1.out).mono ?_; rintro e w2 ⟨rfl, hb2⟩; have B2 := Lib.hid (B1.out.trans (hb2.mono B1.out.size)); clear hb2))
    go_ret
    exact ⟨rfl, B2.out⟩
  have d0 : decide (a0 < 64) = false := decide_eq_false (by omega)
  by_cases hs2 : 512 < a0
  · have d1 : decide (512 < a0) = true := decide_eq_true (by omega)
    go_enter Try.func7, Try.ntmps7
    go_wp2_with fail
    refine HKN.out.mono ?_
    rintro e w1 ⟨rfl, hb1⟩
    have B1 := Lib.hid hb1
    clear hb1
    go_wp2_with (first | (go_at_call 24; refine (HFW.out w1 B1.out).mono ?_; rintro e w2 ⟨rfl, hb2⟩; have B2 := Lib.hid (B1.out.trans (hb2.mono B1.out.size)); clear hb2))
    go_ret
    exact ⟨rfl, B2.out⟩
  have d1 : decide (512 < a0) = false := decide_eq_false (by omega)
  by_cases hn : a1 < 4
  · have d2 : decide (a1 < 4) = true := decide_eq_true (by omega)
    go_enter Try.func7, Try.ntmps7
    go_wp2_with fail
    refine HKN.out.mono ?_
    rintro e w1 ⟨rfl, hb1⟩
    have B1 := Lib.hid hb1
    clear hb1
    go_wp2_with (first | (go_at_call 24; refine (HFW.out w1 B1.out).mono ?_; rintro e w2 ⟨rfl, hb2⟩; have B2 := Lib.hid (B1.out.trans (hb2.mono B1.out.size)); clear hb2))
    go_ret
    exact ⟨rfl, B2.out⟩
  have d2 : decide (a1 < 4) = false := decide_eq_false (by omega)
  by_cases hn2 : 60 < a1
  · have d3 : decide (60 < a1) = true := decide_eq_true (by omega)
    go_enter Try.func7, Try.ntmps7
    go_wp2_with fail
    refine HKN.out.mono ?_
    rintro e w1 ⟨rfl, hb1⟩
    have B1 := Lib.hid hb1
    clear hb1
    go_wp2_with (first | (go_at_call 24; refine (HFW.out w1 B1.out).mono ?_; rintro e w2 ⟨rfl, hb2⟩; have B2 := Lib.hid (B1.out.trans (hb2.mono B1.out.size)); clear hb2))
    go_ret
    exact ⟨rfl, B2.out⟩
  have d3 : decide (60 < a1) = false := decide_eq_false (by omega)
  obtain ⟨size, rfl⟩ : ∃ size : Nat, a0 = size := Int.eq_ofNat_of_zero_le (by omega)
  obtain ⟨n, rfl⟩ : ∃ n : Nat, a1 = n := Int.eq_ofNat_of_zero_le (by omega)
  have h4 : 4 ≤ n := by omega
  have h60 : n ≤ 60 := by omega
  have h64 : 64 ≤ size := by omega
  have h512 : size ≤ 512 := by omega
  clear hs hs2 hn hn2 p0 p1 q0 q1 hw0 hw1
  have hrb : rightB ((n + 4 : Nat) : Int) size = true := by unfold rightB; simp; omega
  have HNW : Hid (∀ w, Calls Try.prog 13 #[.int .i64 ((n : Int) + 4), .int .i64 size] w fun e w' => ∃ d Z, e = .returned (.tuple #[.pointer (some ⟨d, 0, none⟩), .int .i64 0]) ∧ DkIn w' Z d (dk0 (n + 4) size) ∧ (∀ k, Z k → w.heap.size ≤ k) ∧ Below w.heap.size w w') := fun w => new_any (n + 4) size w hrb
  have hlen0 : (dk0 (n + 4) size).kept.length = n + 4 := by show (List.replicate (n + 4) _).length = _; rw [List.length_replicate]
  obtain ⟨S, hS⟩ : ∃ S, List.replicate size a3 = S := ⟨_, rfl⟩
  have hSl : S.length = size := by rw [← hS, List.length_replicate]
  have hn4w : wrap64 ((n : Int) + 4) = ((n : Int) + 4) := by unfold wrap64; omega
  have e11 : wrap64 ((n : Int) + 2) = (n : Int) + 2 := by unfold wrap64; omega
  have e12 : wrap64 ((n : Int) + 3) = (n : Int) + 3 := by unfold wrap64; omega
  clear hrb
  go_enter Try.func7, Try.ntmps7
  go_wp2_with fail
  refine HKN.out.mono ?_
  rintro e w1 ⟨rfl, hb1⟩
  have B1 := Lib.hid hb1
  clear hb1
  go_wp2_with (first | (go_at_call 24; refine (HFW.out w1 B1.out).mono ?_; rintro e w2 ⟨rfl, hb2⟩; have B2 := Lib.hid (B1.out.trans (hb2.mono B1.out.size)); clear hb2))
  refine (HNW.out w2).mono ?_
  rintro e w3 ⟨d, Z0, rfl, hd3, hz3, hb3⟩
  have D3 := Lib.hid hd3
  have Z3 : Hid (∀ k, Z0 k → w0.heap.size ≤ k) := fun k hk => Nat.le_trans B2.out.size (hz3 k hk)
  have B3 := Lib.hid (B2.out.trans (hb3.mono B2.out.size))
  clear hd3 hz3 hb3
  go_wp2_with fail
  obtain ⟨w4, hrz, hfz, hbz⟩ := mk_fill size (by omega) w3
  rw [hrz]
  obtain ⟨bs, hbs⟩ : ∃ bs, w3.heap.size = bs := ⟨_, rfl⟩
  rw [hbs] at hfz ⊢
  have D4 := Lib.hid (D3.out.below hbz)
  have B4 := Lib.hid (B3.out.trans (hbz.mono B3.out.size))
  have hbz4 : ¬ Z0 bs := fun h => by have := D3.out.1 bs h; omega
  have hbsg : w0.heap.size ≤ bs := by rw [← hbs]; exact B3.out.size
  have hbl : bs < w4.heap.size := (Array.getElem?_eq_some_iff.1 hfz).1
  have HF0 : Hid (FillAt w4 bs (fillL a3 size 0)) := by show FillAt _ _ _; unfold fillL; rw [List.replicate_zero, List.nil_append, Nat.sub_zero]; exact hfz
  clear hrz hfz hbz hbs D3 B3
  go_wp2_with fail
  go_loopw [12] (fun ix wr => ∃ i : Nat, i ≤ size ∧ ix = .int .i64 i ∧ Hid (FillAt wr bs (fillL a3 size i)) ∧ Hid (w4.grownBy wr (some bs))) (fun ix _ => size - (intOf ix).toNat)
  case atStart => exact ⟨0, Nat.zero_le _, rfl, HF0, World.grownBy.refl _ _⟩
  case round =>
    obtain ⟨i, hi, rfl, HFI, HGI⟩ := hrel
    by_cases hin : i < size
    · have d5 : decide ((i : Int) < size) = true := decide_eq_true (by omega)
      have hc := HFI.out.cell (i := i) (by rw [fillL_len a3 hi]; exact hin)
      have hfr := frozen_of_row wr bs i _ _ HFI.out
      have HF2 := Lib.hid (HFI.out.put i a3)
      rw [fillL_set a3 hin] at HF2
      have HG2 := Lib.hid (grown_oneR HGI.out (cell_grownR wr bs i (.int .u8 a3)))
      go_wp2_with fail
      go_roundw
      case rel => exact ⟨i + 1, by omega, by go_num, HF2, HG2⟩
      case measure => simp [intOf] <;> omega
    obtain rfl : i = size := by omega
    have d5 : decide ((i : Int) < i) = false := decide_eq_false (by omega)
    have hfull := HFI.out
    rw [fillL_all, hS] at hfull
    have HSW : Hid (∀ x ∈ S, (Lit.int .u8 x).wf = true) := fun x hx => by rw [← hS] at hx; rw [List.eq_of_mem_replicate hx]; exact hw3
    have HW0 : Hid (WrIn w0 wr d bs Z0 (dk0 (n + 4) i) S 0) := ⟨D4.out.same (fun k hk => HGI.out.block k (D4.out.1 k hk) (fun e => by injection e with e; exact hbz4 (e ▸ hk))) HGI.out.size, Z3.out, hbz4, hfull, Nat.lt_of_lt_of_le hbl HGI.out.size, B4.out.grown HGI.out B4.out.size (fun g hg => by injection hg with hg; omega)⟩
    clear hfull
    go_wp2_with fail
    go_loopw [13] (fun ix wq => ∃ (k : Nat) (Z : Nat → Prop), k ≤ n + 4 ∧ ix = .int .i64 k ∧ Hid (WrIn w0 wq d bs Z (dk0 (n + 4) i) S k)) (fun ix _ => n + 4 - (intOf ix).toNat)
    case atStart => exact ⟨0, Z0, Nat.zero_le _, rfl, HW0⟩
    case round =>
      obtain ⟨k, Z, hk, rfl, HWK⟩ := hrel
      by_cases hkn : k < n + 4
      · have d6 : decide ((k : Int) < (n : Int) + 4) = true := decide_eq_true (by omega)
        have HNX := Lib.hid (HWK.out.next rfl rfl rfl hSl (by rw [hlen0]; exact hkn) (by omega) (show i ≤ 4096 by omega) HSW.out rfl)
        rw [hSl] at HNX
        go_wp2_with fail
        refine HNX.out.mono ?_
        rintro e wx ⟨rfl, Z', hz'⟩
        have HZ' := Lib.hid hz'
        clear hz'
        go_wp2_with fail
        go_roundw
        case rel => exact ⟨k + 1, Z', by omega, by go_num, HZ'⟩
        case measure => simp [intOf] <;> omega
      obtain rfl : k = n + 4 := by omega
      have d6 : decide (((n + 4 : Nat) : Int) < (n : Int) + 4) = false := decide_eq_false (by omega)
      have d7 : decide ((n : Int) + 4 < (n : Int) + 4) = false := decide_eq_false (by omega)
      obtain ⟨g1, g2, g3, g4, g5, g6, g7⟩ := wrN_facts (st := dk0 (n + 4) i) S rfl rfl (n + 4)
      obtain ⟨ST, hST⟩ : ∃ ST, wrN (dk0 (n + 4) i) S (n + 4) = ST := ⟨_, rfl⟩
      have HFLK : Hid (∀ s, s < n + 4 → (flushS ST).kept[s]? = some S) := fun s hs => by rw [← hST]; exact wrN_flush rfl rfl (n + 4) hlen0 s hs
      rw [hST] at g1 g2 g3 g4 g5 g6 g7
      have hdi := HWK.out.di
      rw [hST] at hdi
      have HDI := Lib.hid hdi
      clear hdi
      go_wp2_with fail
      refine (flush_any Z d ST wr HDI.out).mono ?_
      rintro e w5 ⟨rfl, hd5, ht5⟩
      rw [g1] at hd5 ⊢
      replace hd5 : DkIn w5 Z d (flushS ST) := hd5
      have BQ := HWK.out.below
      have hlt5 := HWK.out.lt
      have D5 := Lib.hid hd5
      have Z5 := Lib.hid HWK.out.base
      have B5 := Lib.hid (BQ.trans (ht5.below HWK.out.base BQ.size))
      have HR5 := Lib.hid ((ht5.block bs hlt5 HWK.out.nz).trans HWK.out.row)
      have hl5 : bs < w5.heap.size := Nat.lt_of_lt_of_le hlt5 ht5.size
      have hnz5 : ¬ Z bs := HWK.out.nz
      clear hd5 ht5 BQ hlt5
      have hlenF : (flushS ST).kept.length = n + 4 := by show (settleK _ _ _ _).length = _; rw [settleK_len, g4]; exact hlen0
      have hszF : (flushS ST).size = i := g3
      obtain ⟨t, ht0⟩ : ∃ t, fmT n (fun k => secB (flushS ST) (2 + k)) 2 = t := ⟨_, rfl⟩
      have htb := fmT_bd n (fun k => secB (flushS ST) (2 + k)) 2
      rw [ht0] at htb
      have HFM := Lib.hid (format_any Z d (flushS ST) 2 n w5 D5.out h4 (by rw [hlenF]; omega) g1 g2 rfl (by show ST.reads + 2 ≤ _; rw [g5]; show (0 : Int) + 2 ≤ _; omega) (by show ST.writes + 2 ≤ _; rw [g6]; show (0 : Int) + ((n + 4 : Nat) : Int) + 2 ≤ _; omega))
      rw [ht0, hszF] at HFM
      have HWR : Hid ((flushS ST).writes ≤ 900) := by show ST.writes ≤ 900; rw [g6]; show (0 : Int) + ((n + 4 : Nat) : Int) ≤ _; omega
      have HRD : Hid ((flushS ST).reads ≤ 900) := by show ST.reads ≤ 900; rw [g5]; show (0 : Int) ≤ 900; omega
      have HOFF : Hid ((flushS ST).off = false) := g1
      clear g1 g2 g3 g4 g5 g6 g7 ht0
      go_wp2_with fail
      refine HFM.out.mono ?_
      rintro e w6 ⟨r, rfl, Q, hr6, ht6⟩
      have R6 := Lib.hid hr6
      have B6 := Lib.hid (B5.out.trans (ht6.below Z5.out B5.out.size))
      have Q6 := Lib.hid (ht6.base Z5.out B5.out.size)
      have hnq6 := tnd_new ht6 hl5 hnz5
      have HR6 := Lib.hid ((ht6.block bs hl5 hnz5).trans HR5.out)
      have hl6 : bs < w6.heap.size := Nat.lt_of_lt_of_le hl5 ht6.size
      clear hr6 ht6
      go_upto_region 22 with fail
      obtain ⟨w7, hw7⟩ : ∃ w7, w6.alloc (.cells #[.pointer (some ⟨d, 0, none⟩), .pointer (some ⟨r, 0, none⟩), .int .i64 2, .int .i64 (n : Int), .slice none 0 0, .int .u64 1, .bool false, .slice none 0 0, .int .u64 0] 31) = w7 := ⟨_, rfl⟩
      have hpl := fm_pls (W := w6) (Kp := fun b => b = bs) R6.out Q6.out B6.out h4 HOFF.out rfl hszF hlenF HWR.out HRD.out htb.1 htb.2.1 htb.2.2 hw7.symm (fun b hb => by subst hb; exact ⟨hl6, rfl, hnq6⟩)
      rw [hw7]
      obtain ⟨C, hC⟩ : ∃ C, (⟨w6.heap.size, d, n, i, (fmS (flushS ST) 2 i t).kept, w6, fun b => b = bs⟩ : PlC) = C := ⟨_, rfl⟩
      have hCg : w6.heap.size = C.g := by rw [← hC]
      have hCn : C.n = n := by rw [← hC]
      have hCd : C.d = d := by rw [← hC]
      have hCs : C.size = i := by rw [← hC]
      have hCW : C.W = w6 := by rw [← hC]
      have HKp : Hid (C.Kp bs) := by rw [← hC]; rfl
      have HK0 : Hid (∀ s, (s < 2 ∨ n + 2 ≤ s) → s < n + 4 → C.K0[s]? = some S) := fun s hs hs2 => by rw [← hC]; exact (fm_out rfl h4 s hs).trans (HFLK.out s hs2)
      have OK : Hid (C.Ok) := by rw [← hC]; exact ⟨h4, h60, h64, h512⟩
      rw [hC] at hpl
      rw [hCg]
      have HP0 := Lib.hid hpl
      clear hpl hC hw7 HFM HFLK
      skip
      go_wp2_with fail
      go_loopw [17] (fun ix wr => ∃ (k : Nat) (L : List (List Int)), k ≤ nl ∧ ix = .int .i64 k ∧ Hid (PlS C w0 wr (2 * k) L)) (fun ix _ => nl - (intOf ix).toNat)
      case atStart => exact ⟨0, [], Nat.zero_le _, rfl, HP0⟩
      case round =>
        obtain ⟨k, L, hk, rfl, HP⟩ := hrel
        by_cases hkn : k < nl
        · have d5 : decide ((k : Int) < nl) = true := decide_eq_true (by omega)
          obtain ⟨A, hA⟩ : ∃ A, l[k]? = some A := ⟨_, List.getElem?_eq_getElem (by rw [HL.out.len]; exact hkn)⟩
          have hmem := sumRa_mem (List.mem_of_getElem? hA)
          obtain ⟨b0, o0, rfl, hat⟩ := (HL.out.below HP.out.below).at_ k A hA
          obtain ⟨b00, o00, e00, ⟨ba, bn, bc, ka, kn, kc, _, cb, _, ck, hrB, hrK⟩, _⟩ := HL.out.at_ k A hA
          injection e00 with e00
          injection e00 with e00 e01
          subst e00 e01
          obtain ⟨⟨ba', bn', bc', ka', kn', kc', c0, c1, c2, c3, _, _⟩, hwf⟩ := hat
          have e1 : Value.slice ba' bn' bc' = Value.slice ba bn bc := by have h1 := (Below.cell HP.out.below (block_lt_of_cell cb)).trans cb; rw [c1] at h1; exact Option.some.inj h1
          have e3 : Value.slice ka' kn' kc' = Value.slice ka kn kc := by have h1 := (Below.cell HP.out.below (block_lt_of_cell ck)).trans ck; rw [c3] at h1; exact Option.some.inj h1
          injection e1 with e10 e11 e12
          injection e3 with e30 e31 e32
          subst e10 e11 e12 e30 e31 e32
          have hbn : bn' ≤ 1000000 := by rw [← hrB.len]; omega
          have hkn2 : kn' ≤ 1000000 := by rw [← hrK.len]; omega
          have HRB := Lib.hid hrB
          have HRK := Lib.hid hrK
          obtain ⟨n0, n1⟩ := wf_i64_bd hwf.2
          obtain ⟨op, hop⟩ : ∃ op, A.op = op := ⟨_, rfl⟩
          obtain ⟨N, hN⟩ : ∃ N, A.nn = N := ⟨_, rfl⟩
          rw [hop] at c0
          rw [hN] at c2 n0 n1
          clear hA hmem hrB hrK hwf cb ck hop hN
          obtain ⟨hb1, hhb⟩ : ∃ hb1, wr.heap.size = hb1 := ⟨_, rfl⟩
          go_upto_region 26 with fail
          have hba : Below wr.heap.size wr (wr.alloc (.cells #[.int .i64 op, .slice ba' bn' bc', .int .i64 N, .slice ka' kn' kc'] 63)) := (Below.refl _ _).alloc (Nat.le_refl _) _
          have hrow := heap_alloc_new wr (.cells #[.int .i64 op, .slice ba' bn' bc', .int .i64 N, .slice ka' kn' kc'] 63)
          rw [hhb] at hrow
          obtain ⟨wA, hwA⟩ : ∃ wA, wr.alloc (.cells #[.int .i64 op, .slice ba' bn' bc', .int .i64 N, .slice ka' kn' kc'] 63) = wA := ⟨_, rfl⟩
          rw [hwA] at hba hrow ⊢
          clear hwA c0 c1 c2 c3
          have HBA := Lib.hid hba
          clear hba
          obtain ⟨z0, z1, z2, z3⟩ := cells4 hrow
          have zf := fun j => frozen_of_row wA hb1 j _ _ hrow
          by_cases hN1 : N < 0
          · have dn1 : decide (N < 0) = true := decide_eq_true hN1
            go_upto_region 28 with fail
            have hrow2 := heap_setCell_same wA hb1 2 _ _ (.int .i64 1) hrow
            have hbz := HBA.out.trans ((put_below8 wA _ hb1 2 (.int .i64 1) (Nat.le_of_eq hhb)))
            obtain ⟨wZ, hwZ⟩ : ∃ wZ, wA.setCell ⟨hb1, 2, none⟩ (.int .i64 1) = wZ := ⟨_, rfl⟩
            rw [hwZ] at hrow2 hbz ⊢
            have HBZ := Lib.hid hbz
            clear hwZ hrow hbz z0 z1 z2 z3 zf
            replace hrow2 : wZ.heap[hb1]? = some (.cells #[.int .i64 op, .slice ba' bn' bc', .int .i64 1, .slice ka' kn' kc'] 63 (0, 0)) := hrow2
            obtain ⟨z0, z1, z2, z3⟩ := cells4 hrow2
            clear hrow2
            go_wp2_with fail
            refine (wstep_any C OK.out w0 wZ (2 * k) L (HP.out.keep HBZ.out) (by omega) op 1 ba' bn' bc' _ ka' kn' kc' _ HRB.out HRK.out hbn hkn2 (by omega) (by omega)).mono ?_
            rintro e w5 ⟨rfl, L', hS⟩
            have HS := Lib.hid (hS.later (show 2 * k + 2 ≤ 2 * (k + 1) by omega))
            clear hS
            go_wp2_with fail
            go_roundw
            case rel => exact ⟨k + 1, L', by omega, by go_num, HS⟩
            case measure => simp [intOf] <;> omega
          have dn1 : decide (N < 0) = false := decide_eq_false hN1
          by_cases hN2 : 100 < N
          · have dn2 : decide (100 < N) = true := decide_eq_true hN2
            go_upto_region 28 with fail
            have hrow2 := heap_setCell_same wA hb1 2 _ _ (.int .i64 1) hrow
            have hbz := HBA.out.trans ((put_below8 wA _ hb1 2 (.int .i64 1) (Nat.le_of_eq hhb)))
            obtain ⟨wZ, hwZ⟩ : ∃ wZ, wA.setCell ⟨hb1, 2, none⟩ (.int .i64 1) = wZ := ⟨_, rfl⟩
            rw [hwZ] at hrow2 hbz ⊢
            have HBZ := Lib.hid hbz
            clear hwZ hrow hbz z0 z1 z2 z3 zf
            replace hrow2 : wZ.heap[hb1]? = some (.cells #[.int .i64 op, .slice ba' bn' bc', .int .i64 1, .slice ka' kn' kc'] 63 (0, 0)) := hrow2
            obtain ⟨z0, z1, z2, z3⟩ := cells4 hrow2
            clear hrow2
            go_wp2_with fail
            refine (wstep_any C OK.out w0 wZ (2 * k) L (HP.out.keep HBZ.out) (by omega) op 1 ba' bn' bc' _ ka' kn' kc' _ HRB.out HRK.out hbn hkn2 (by omega) (by omega)).mono ?_
            rintro e w5 ⟨rfl, L', hS⟩
            have HS := Lib.hid (hS.later (show 2 * k + 2 ≤ 2 * (k + 1) by omega))
            clear hS
            go_wp2_with fail
            go_roundw
            case rel => exact ⟨k + 1, L', by omega, by go_num, HS⟩
            case measure => simp [intOf] <;> omega
          have dn2 : decide (100 < N) = false := decide_eq_false hN2
          clear hrow
          go_wp2_with fail
          refine (wstep_any C OK.out w0 wA (2 * k) L (HP.out.keep HBA.out) (by omega) op N ba' bn' bc' _ ka' kn' kc' _ HRB.out HRK.out hbn hkn2 (by omega) (by omega)).mono ?_
          rintro e w5 ⟨rfl, L', hS⟩
          have HS := Lib.hid (hS.later (show 2 * k + 2 ≤ 2 * (k + 1) by omega))
          clear hS
          go_wp2_with fail
          go_roundw
          case rel => exact ⟨k + 1, L', by omega, by go_num, HS⟩
          case measure => simp [intOf] <;> omega
        have d5 : decide ((k : Int) < nl) = false := decide_eq_false (by omega)
        obtain ⟨Q9, r9, st9, J9, lv, mv, may, ma, hp⟩ := HP.out.steady
        replace hp := hp.later (show 2 * k ≤ 120 by omega)
        obtain ⟨Z9, hpd, _⟩ := hp.disk
        have PD := Lib.hid hpd
        have HOF := Lib.hid hp.off
        have PDO := Lib.hid hpd.on
        rw [hCd] at PDO
        clear hp hpd
        go_wp2_with fail
        refine PDO.out.mono ?_
        rintro e w8 ⟨rfl, hp8⟩
        have P8 := Lib.hid hp8
        clear hp8 PD PDO
        have hrl := heap_alloc_new w8 (.cells #[.int .i64 0, .int .i64 1, .int .i64 ((n : Int) + 2), .int .i64 ((n : Int) + 3)] 3)
        have hbl8 : Below w8.heap.size w8 (w8.alloc (.cells #[.int .i64 0, .int .i64 1, .int .i64 ((n : Int) + 2), .int .i64 ((n : Int) + 3)] 3)) := (Below.refl _ _).alloc (Nat.le_refl _) _
        have hnb : ¬ Z9 w8.heap.size := fun h => Nat.lt_irrefl _ (P8.out.di.1 _ h)
        skip
        obtain ⟨bl, hbl⟩ : ∃ bl, w8.heap.size = bl := ⟨_, rfl⟩
        go_wp2_with fail
        obtain ⟨w9, hw9⟩ : ∃ w9, w8.alloc (.cells #[.int .i64 0, .int .i64 1, .int .i64 ((n : Int) + 2), .int .i64 ((n : Int) + 3)] 3) = w9 := ⟨_, rfl⟩
        rw [hw9] at hrl hbl8 ⊢
        rw [hbl] at hrl hnb
        have P9 := Lib.hid (P8.out.more hbl8)
        have HRL := Lib.hid hrl
        have HKE : Hid (∀ s, (s < 2 ∨ n + 2 ≤ s) → s < n + 4 → st9.kept[s]? = some S) := fun s hs hs2 => (P8.out.num.out s (by rw [hCn]; exact hs)).trans (HK0.out s hs hs2)
        have HOF9 : Hid (({ st9 with off := false } : Dk).off = false) := rfl
        clear hrl hbl8 hw9 P8 hbl HP
        go_loopw [130] (fun ix wr => ∃ (j : Nat) (st : Dk), j ≤ 4 ∧ ix = .int .i64 j ∧ Hid (PlD C w0 wr Z9 (120 + j) st J9.h L ⟨.pointer (some ⟨r9, 0, none⟩), lv, mv, may, ma, J9.h.first, L⟩ ∧ st.off = false ∧ ∀ s, (s < 2 ∨ n + 2 ≤ s) → s < n + 4 → st.kept[s]? = some S) ∧ Hid (wr.heap[bl]? = some (.cells #[.int .i64 0, .int .i64 1, .int .i64 ((n : Int) + 2), .int .i64 ((n : Int) + 3)] 3 (0, 0)))) (fun ix _ => 4 - (intOf ix).toNat)
        case atStart => exact ⟨0, _, Nat.zero_le _, rfl, ⟨P9.out, rfl, HKE.out⟩, HRL⟩
        case round =>
          obtain ⟨j, st, hj, rfl, HPJ, HRJ⟩ := hrel
          by_cases hj4 : j < 4
          · have d8 : decide ((j : Int) < 4) = true := decide_eq_true (by omega)
            obtain ⟨s, hs1, hs2, hcs⟩ : ∃ s : Nat, s < n + 4 ∧ (s < 2 ∨ n + 2 ≤ s) ∧ wr.cell? ⟨bl, j, none⟩ = some (.int .i64 (s : Int)) := by
              obtain ⟨z0, z1, z2, z3⟩ := cells4 HRJ.out
              rcases (by omega : j = 0 ∨ j = 1 ∨ j = 2 ∨ j = 3) with h | h | h | h
              · subst h; exact ⟨0, by omega, .inl (by omega), z0⟩
              · subst h; exact ⟨1, by omega, .inl (by omega), z1⟩
              · subst h; exact ⟨n + 2, by omega, .inr (by omega), z2⟩
              · subst h; exact ⟨n + 3, by omega, .inr (by omega), z3⟩
            have HRD := Lib.hid (HPJ.out.1.read HPJ.out.2.1 (by omega) s (by rw [hCn]; exact hs1))
            rw [hCd, hCs, secB_kept HPJ.out.1.num.pend, HPJ.out.2.2 s hs2 hs1] at HRD
            have hne : ((strOfNums S).toList != (strOfNums S).toList) = false := by simp
            go_wp2_with fail
            refine HRD.out.mono ?_
            rintro e w10 ⟨a, c, rfl, hrd, ⟨st', hp', hof', hk'⟩, ht'⟩
            have hrow' := (ht'.block bl (Array.getElem?_eq_some_iff.1 HRJ.out).1 hnb).trans HRJ.out
            have HRJ2 := Lib.hid hrow'
            have hbs := (hp'.kp bs HKp.out).2.1
            rw [hCW] at hbs
            have hfl : FillAt w10 bs S := hbs.trans HR6.out
            have hrs := hfl.rd (by omega) HSW.out
            rw [hSl] at hrs
            have cv1 := conv_rd (P := Try.prog) (src := 36) (dst := 9) u8TR Try.underlying5 Try.underlying9 hrd
            have cv2 := conv_rd (P := Try.prog) (src := 36) (dst := 9) u8TR Try.underlying5 Try.underlying9 hrs
            have HPK : Hid (PlD C w0 w10 Z9 (120 + (j + 1)) st' J9.h L ⟨.pointer (some ⟨r9, 0, none⟩), lv, mv, may, ma, J9.h.first, L⟩ ∧ st'.off = false ∧ ∀ s, (s < 2 ∨ n + 2 ≤ s) → s < n + 4 → st'.kept[s]? = some S) := ⟨hp', hof', fun s h1 h2 => by rw [hk']; exact HPJ.out.2.2 s h1 h2⟩
            clear hrd hp' hof' hk' ht' hrow' hbs hfl hrs hcs
            go_wp2_with fail
            go_roundw
            case rel => exact ⟨j + 1, st', by omega, by go_num, HPK, HRJ2⟩
            case measure => simp [intOf] <;> omega
          have hj5 : j = 4 := by omega
          have d8 : decide ((j : Int) < 4) = false := decide_eq_false (by omega)
          have BZ := Lib.hid HPJ.out.1.below
          clear hj5
          go_wp2_with fail
          go_ret
          exact ⟨rfl, BZ.out⟩
end Go.Proofs.Ytlhpdkapddnbcaa

namespace Go.Proofs.Ytlhpdkapddnbcaa.ringApart
open Go.ChangeShapes Go.WideShapes Go.ChangeAt Go.RowKit
set_option linter.unusedVariables false

set_option maxRecDepth 100000 in
theorem own : ownKnob Try.prog.godebug = none := by kernel_rfl
set_option maxRecDepth 100000 in
theorem laidOut : laidOutB Try.prog = true := by kernel_rfl

set_option maxRecDepth 100000 in
theorem lifted (os : Os) (started : os.Started) (H : Type) (enc : TypeId × Value → H) (F : Stop.Interp) :
    ReturnsInHanded {} Try.checked os 7 .any ((Rows.OpenSpec.upto Rows.ringApartSpec).pre6 enc Try.prog Try.f7 Rows.ringApartUptoRow.domain false) (((Rows.OpenSpec.upto Rows.ringApartSpec).at F).post enc Try.prog Try.f7 false true false false) := by
  refine returnsInHanded_of_cond (C := Try.checked) (s := Rows.OpenSpec.upto Rows.ringApartSpec) (k := Rows.uptoSmall) rfl own started (by kernel_rfl) Try.func7
    (OpenSpec.witness (enc := enc) (C := Try.checked) (s := Rows.OpenSpec.upto Rows.ringApartSpec) (k := Rows.uptoSmall) rfl false ⟨#[], #[.int .i64 0, .int .i64 0, .slice none 0 0, .int .u8 0], []⟩ 8 (by kernel_rfl) (by kernel_rfl) (by kernel_rfl)
      (x := ([.lit (.int .i64 0), .lit (.int .i64 0), .nil, .lit (.int .u8 0)], [], [])) (by kernel_rfl) rfl (by kernel_rfl)) ?_
  intro W base args ds gs before hval0 hW hcnd hk _
  have hval : ∀ (j : Nat) t v, Try.f7.params[j]? = some t → args[j]? = some v → Value.okWide Try.prog W .any base t v := hval0
  have hW' := hW
  obtain ⟨p, q, hA0, hV, rfl, hfz, hnd⟩ := hW
  have hA : DataW.TrodAll enc Try.prog W 0 (fun _ => true) true Try.f7.params.toList args.toList ds p := hA0
  rw [Try.params7] at hA hval
  obtain ⟨v0, vs0, d0, ds0, p0, q0, hargs, rfl, rfl, h0, r0⟩ := trodAll_cons hA
  obtain ⟨v1, vs1, d1, ds1, p1, q1, rfl, rfl, rfl, h1, r1⟩ := trodAll_cons r0
  obtain ⟨v2, vs2, d2, ds2, p2, q2, rfl, rfl, rfl, h2, r2⟩ := trodAll_cons r1
  obtain ⟨v3, vs3, d3, ds3, p3, q3, rfl, rfl, rfl, h3, r3⟩ := trodAll_cons r2
  obtain ⟨rfl, rfl, rfl⟩ := trodAll_nil r3
  obtain rfl : args = #[v0, v1, v2, v3] := by cases args; simp_all
  obtain ⟨rfl, rfl⟩ := trodVars_none hV
  obtain ⟨a0, rfl, rfl, rfl, w0⟩ := open_int Try.underlying3 (hval 0 3 v0 rfl rfl) h0
  obtain ⟨a1, rfl, rfl, rfl, w1⟩ := open_int Try.underlying3 (hval 1 3 v1 rfl rfl) h1
  obtain ⟨a2, len2, cap2, rfl⟩ := okWide_slice Try.underlying60 (hval 2 60 v2 rfl rfl)
  have k2 := h2
  have lt2 : ∀ x ∈ p2, x.block < W.heap.size := by obtain ⟨m, hm⟩ := k2; exact DataW.trod_lt m _ _ _ hm
  obtain ⟨z2, w2, y2⟩ := ras_open h2
  obtain ⟨a3, rfl, rfl, rfl, w3⟩ := open_int Try.underlying5 (hval 3 5 v3 rfl rfl) h3
  have b2 := bulk_part (l := [(.lit (.int .i64 a0)), (.lit (.int .i64 a1)), d2, (.lit (.int .u8 a3))]) (d := d2) (by simp)
  clear hA0 hval0
  refine (ringApart_walk a0 a1 a2 len2 cap2 z2 a3 W w0 w1 w2 (by have := bulk_bound hk; simp only [List.append_nil] at this; omega) w3).mono fun e W' ⟨he, bel⟩ => ?_
  subst he
  exact ⟨_, rfl, _, _, _, [], _, [], hW', trodAll_mk1 (shut_bool Try.underlying4 _), (trodAll_cons_mk (shut_int Try.underlying3 w0) (trodAll_cons_mk (shut_int Try.underlying3 w1) (trodAll_cons_mk (Below.trod laidOut (by kernel_rfl) (of_decide_eq_true (by kernel_rfl)) k2 bel lt2) (trodAll_cons_mk (shut_int Try.underlying5 w3) trodAll_mk0)))), rfl, bel.frame _, fun h => by cases h⟩

set_option maxRecDepth 100000 in
theorem over : Rows.ringApartUptoRow.holds Try.pinned (Rows.OpenSpec.upto Rows.ringApartSpec) :=
  OpenClaim.holds_of_cond 7 Try.f7 rfl rfl rfl rfl rfl rfl rfl ⟨rfl, rfl, rfl, rfl, rfl⟩ rfl rfl rfl rfl rfl (by kernel_rfl) Try.func7 (by kernel_rfl)
    (of_decide_eq_true (by kernel_rfl)) (by unfold Func.isWrapper; first | (rw [if_pos (by decide +kernel)]; kernel_rfl) | (rw [if_neg (by decide +kernel)]; exact ⟨rfl, rfl⟩))
    (fun os started H enc _ F => lifted os started H enc F)

/-- RingApart holds for every input of a bulk that fits. -/
theorem proved : Rows.RingApartUptoSaid := over
end Go.Proofs.Ytlhpdkapddnbcaa.ringApart
