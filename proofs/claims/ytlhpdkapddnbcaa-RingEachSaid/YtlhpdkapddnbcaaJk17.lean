/- ring: a play: what it is behind each act; the calls that turn it. -/
import Derived.Test.YtlhpdkapddnbcaaJk15
import Derived.Test.YtlhpdkapddnbcaaJk16
namespace Go.Proofs.Ytlhpdkapddnbcaa
open Go.RowKit
/-- What stays through a play. -/
structure PlC where
  g : Nat
  d : Nat
  n : Nat
  size : Nat
  K0 : List (List Int)
  W : World
  Kp : Nat → Prop
structure PlC.Ok (C : PlC) : Prop where
  n4 : 4 ≤ C.n
  n60 : C.n ≤ 60
  s0 : 64 ≤ C.size
  s1 : C.size ≤ 512
/-- The values in its block. -/
structure PlV where
  rv : Value
  lv : Value
  mv : Value
  may : Bool
  ma : Int
  f : Int
  M : List (List Int)
def PlV.Nu (V : PlV) : Prop := ∀ x, V.rv ≠ .int .u8 x ∧ V.mv ≠ .int .u8 x
def rowW (C : PlC) (V : PlV) : Obj := .cells #[.pointer (some ⟨C.d, 0, none⟩), V.rv, .int .i64 2, .int .i64 (C.n : Int), V.lv, .int .u64 V.f, .bool V.may, V.mv, .int .u64 V.ma] 31 (0, 0)
/-- Its numbers, behind i acts. -/
structure PlN (C : PlC) (i : Nat) (st : Dk) (h : Hd) : Prop where
  pend : st.pend = []
  size : st.size = C.size
  len : st.kept.length = C.n + 4
  wr : st.writes ≤ 1000 + 70000 * i
  rd : st.reads ≤ 1000 + 8589934592 * i
  nx : h.next ≤ 1 + i
  tn : h.turn ≤ 4611686018427387909 + i
  out : ∀ s : Nat, s < 2 ∨ C.n + 2 ≤ s → st.kept[s]? = C.K0[s]?
/-- Some blocks that no act turns. -/
def KpIn (C : PlC) (w : World) (Z : Nat → Prop) : Prop := ∀ b, C.Kp b → b < w.heap.size ∧ w.heap[b]? = C.W.heap[b]? ∧ ¬ Z b ∧ b ≠ C.g
theorem KpIn.below {C : PlC} {w w' : World} {Z : Nat → Prop} (h : KpIn C w Z) (b : Below w.heap.size w w') : KpIn C w' Z := fun k hk => by
  obtain ⟨h1, h2, h3, h4⟩ := h k hk
  exact ⟨Nat.lt_of_lt_of_le h1 b.size, (b.block k h1).trans h2, h3, h4⟩
theorem KpIn.tnd {C : PlC} {w w' : World} {Z Z' : Nat → Prop} (h : KpIn C w Z) (t : Tnd Z Z' w w') : KpIn C w' Z' := fun k hk => by
  obtain ⟨h1, h2, h3, h4⟩ := h k hk
  refine ⟨Nat.lt_of_lt_of_le h1 t.size, (t.block k h1 h3).trans h2, fun h5 => ?_, h4⟩
  rcases t.sub k h5 with h6 | h6
  · exact h3 h6
  · omega
theorem KpIn.sub {C : PlC} {w : World} {Z Z' : Nat → Prop} (h : KpIn C w Z) (hz : ∀ k, Z' k → Z k) : KpIn C w Z' := fun k hk => by
  obtain ⟨h1, h2, h3, h4⟩ := h k hk
  exact ⟨h1, h2, fun h5 => h3 (hz k h5), h4⟩
theorem KpIn.put {C : PlC} {w w' : World} {Z : Nat → Prop} (h : KpIn C w Z) (g : w.grownBy w' (some C.g)) : KpIn C w' Z := fun k hk => by
  obtain ⟨h1, h2, h3, h4⟩ := h k hk
  exact ⟨Nat.lt_of_lt_of_le h1 g.size, (g.block k h1 (fun e => by injection e with e; exact h4 e)).trans h2, h3, h4⟩
/-- The play's disk, the power being on or off. -/
structure PlD (C : PlC) (w0 w : World) (Z : Nat → Prop) (i : Nat) (st : Dk) (h : Hd) (L : List (List Int)) (V : PlV) : Prop where
  row : w.heap[C.g]? = some (rowW C V)
  di : DkIn w Z C.d st
  ng : ¬ Z C.g
  base : ∀ k, Z k → w0.heap.size ≤ k
  gb : w0.heap.size ≤ C.g
  below : Below w0.heap.size w0 w
  num : PlN C i st h
  H : HoldsK (secB st) 2 C.n C.size h L
  rows : ∃ a m c, V.lv = .slice a m c ∧ RowsRd w (fun k => Z k ∨ k = C.g) a m c V.M
  nu : V.Nu
  kp : KpIn C w Z
/-- The play with its journal in block r, the power being on. -/
structure PlR (C : PlC) (w0 w : World) (Q : Nat → Prop) (i r : Nat) (st : Dk) (J : Jr) (L : List (List Int)) (V : PlV) : Prop where
  row : w.heap[C.g]? = some (rowW C V)
  ri : RiIn w Q r C.d st J
  ng : ¬ Q C.g
  base : ∀ k, Q k → w0.heap.size ≤ k
  gb : w0.heap.size ≤ C.g
  below : Below w0.heap.size w0 w
  off : st.off = false
  num : PlN C i st J.h
  jlo : J.lo = 2
  jn : J.n = C.n
  jsz : J.size = C.size
  H : HoldsK (secB st) 2 C.n C.size J.h L
  ks : J.ks = ksOf C.size L
  rows : ∃ a m c, V.lv = .slice a m c ∧ RowsRd w (fun k => Q k ∨ k = C.g) a m c V.M
  nu : V.Nu
  kp : KpIn C w Q
theorem rowW_cells {w : World} {C : PlC} {V : PlV} (h : w.heap[C.g]? = some (rowW C V)) : w.cell? ⟨C.g, 0, none⟩ = some (.pointer (some ⟨C.d, 0, none⟩)) ∧ w.cell? ⟨C.g, 1, none⟩ = some V.rv ∧ w.cell? ⟨C.g, 2, none⟩ = some (.int .i64 2) ∧ w.cell? ⟨C.g, 3, none⟩ = some (.int .i64 (C.n : Int)) ∧ w.cell? ⟨C.g, 4, none⟩ = some V.lv ∧ w.cell? ⟨C.g, 5, none⟩ = some (.int .u64 V.f) ∧ w.cell? ⟨C.g, 6, none⟩ = some (.bool V.may) ∧ w.cell? ⟨C.g, 7, none⟩ = some V.mv ∧ w.cell? ⟨C.g, 8, none⟩ = some (.int .u64 V.ma) ∧ ∀ j, w.frozen? ⟨C.g, j, none⟩ = false := by
  unfold rowW at h
  obtain ⟨c0, c1, c2, c3, c4, c5, c6, c7, c8, cf⟩ := cellsD h
  exact ⟨c0, c1, c2, c3, c4, c5, c6, c7, c8, cf⟩
theorem plcells {w : World} {C : PlC} {rv lv mv : Value} {may : Bool} {ma f : Int} {M : List (List Int)} (h : w.heap[C.g]? = some (rowW C ⟨rv, lv, mv, may, ma, f, M⟩)) : w.cell? ⟨C.g, 0, none⟩ = some (.pointer (some ⟨C.d, 0, none⟩)) ∧ w.cell? ⟨C.g, 1, none⟩ = some rv ∧ w.cell? ⟨C.g, 2, none⟩ = some (.int .i64 2) ∧ w.cell? ⟨C.g, 3, none⟩ = some (.int .i64 (C.n : Int)) ∧ w.cell? ⟨C.g, 4, none⟩ = some lv ∧ w.cell? ⟨C.g, 5, none⟩ = some (.int .u64 f) ∧ w.cell? ⟨C.g, 6, none⟩ = some (.bool may) ∧ w.cell? ⟨C.g, 7, none⟩ = some mv ∧ w.cell? ⟨C.g, 8, none⟩ = some (.int .u64 ma) ∧ ∀ j, w.frozen? ⟨C.g, j, none⟩ = false := rowW_cells h
/-- A steady play behind i acts: it holds L. -/
def PlS (C : PlC) (w0 w : World) (i : Nat) (L : List (List Int)) : Prop := ∃ Q r st J V, PlR C w0 w Q i r st J L V ∧ V.rv = .pointer (some ⟨r, 0, none⟩) ∧ V.f = J.h.first ∧ V.M = L
theorem PlN.more {C : PlC} {i j : Nat} {st : Dk} {h : Hd} (H : PlN C i st h) (hij : i ≤ j) : PlN C j st h := ⟨H.pend, H.size, H.len, by have := H.wr; omega, by have := H.rd; omega, by have := H.nx; omega, by have := H.tn; omega, H.out⟩
section
variable {C : PlC} {w0 w w' : World} {Q Z Z' : Nat → Prop} {i r : Nat} {st st' : Dk} {J : Jr} {h : Hd} {L : List (List Int)} {V : PlV}
theorem PlD.glt (p : PlD C w0 w Z i st h L V) : C.g < w.heap.size := (Array.getElem?_eq_some_iff.1 p.row).1
theorem PlR.glt (p : PlR C w0 w Q i r st J L V) : C.g < w.heap.size := (Array.getElem?_eq_some_iff.1 p.row).1
theorem PlD.more (p : PlD C w0 w Z i st h L V) (b : Below w.heap.size w w') : PlD C w0 w' Z i st h L V := by
  obtain ⟨a, m, c, e1, e2⟩ := p.rows
  exact ⟨row_keep p.row b, p.di.below b, p.ng, p.base, p.gb, p.below.trans (b.mono p.below.size), p.num, p.H, ⟨a, m, c, e1, e2.below b⟩, p.nu, p.kp.below b⟩
theorem PlR.more (p : PlR C w0 w Q i r st J L V) (b : Below w.heap.size w w') : PlR C w0 w' Q i r st J L V := by
  obtain ⟨a, m, c, e1, e2⟩ := p.rows
  exact ⟨row_keep p.row b, p.ri.below b, p.ng, p.base, p.gb, p.below.trans (b.mono p.below.size), p.off, p.num, p.jlo, p.jn, p.jsz, p.H, p.ks, ⟨a, m, c, e1, e2.below b⟩, p.nu, p.kp.below b⟩
theorem PlD.drew (p : PlD C w0 w Z i st h L V) : PlD C w0 w.drew Z i st h L V := p.more ⟨rfl, rfl, rfl, Nat.le_refl _, fun _ _ => rfl⟩
theorem PlR.drew (p : PlR C w0 w Q i r st J L V) : PlR C w0 w.drew Q i r st J L V := p.more ⟨rfl, rfl, rfl, Nat.le_refl _, fun _ _ => rfl⟩
theorem tnd_new {k : Nat} (t : Tnd Z Z' w w') (hk : k < w.heap.size) (hz : ¬ Z k) : ¬ Z' k := fun h => by
  rcases t.sub k h with h1 | h1
  · exact hz h1
  · omega
/-- The disk turned. -/
theorem PlD.turn {j : Nat} (p : PlD C w0 w Z i st h L V) (hd : DkIn w' Z' C.d st') (t : Tnd Z Z' w w') (num : PlN C j st' h) (hx : ∀ s, secB st' s = secB st s) : PlD C w0 w' Z' j st' h L V := by
  obtain ⟨a, m, c, e1, e2⟩ := p.rows
  refine ⟨(t.block _ p.glt p.ng).trans p.row, hd, tnd_new t p.glt p.ng, t.base p.base p.below.size, p.gb, p.below.trans (t.below p.base p.below.size), num, ?_, ⟨a, m, c, e1, e2.keep (fun k hk hn => t.block k hk (fun hz => hn (.inl hz))) (fun k hk hn hz => ?_)⟩, p.nu, p.kp.tnd t⟩
  · rw [show secB st' = secB st from funext hx]
    exact p.H
  · rcases hz with hz | hz
    · exact tnd_new t hk (fun h1 => hn (.inl h1)) hz
    · exact hn (.inr hz)
/-- Without its journal. -/
theorem PlR.disk (p : PlR C w0 w Q i r st J L V) : ∃ Z, PlD C w0 w Z i st J.h L V ∧ ∀ k, Z k → Q k := by
  obtain ⟨⟨Z, sv, hd, hr, ho, hz, hq, hn, hg⟩, ok, dok, lt⟩ := p.ri
  obtain ⟨a, m, c, e1, e2⟩ := p.rows
  exact ⟨Z, ⟨p.row, hd, fun h1 => p.ng (hz _ h1), fun k hk => p.base k (hz k hk), p.gb, p.below, p.num, p.H, ⟨a, m, c, e1, e2.keep (fun _ _ _ => rfl) (fun k _ hn h1 => hn (h1.imp (hz k) id))⟩, p.nu, p.kp.sub hz⟩, hz⟩
theorem PlD.secs (st : Dk) (z : Int) (kl : List Bool) (b : Bool) (s : Nat) : secB (armS st z kl) s = secB st s ∧ secB { st with off := b } s = secB st s := ⟨rfl, rfl⟩
set_option maxRecDepth 100000 in
theorem PlD.on (p : PlD C w0 w Z i st h L V) : Calls Try.prog 18 #[.pointer (some ⟨C.d, 0, none⟩)] w fun e w' => e = .returned (.tuple #[]) ∧ PlD C w0 w' Z i { st with off := false } h L V := by
  refine (on_any Z C.d st w p.di).mono ?_
  rintro e w' ⟨rfl, hd, ht⟩
  exact ⟨rfl, p.turn hd ht ⟨p.num.pend, p.num.size, p.num.len, p.num.wr, p.num.rd, p.num.nx, p.num.tn, p.num.out⟩ (fun s => rfl)⟩
set_option maxRecDepth 100000 in
theorem PlD.arm (p : PlD C w0 w Z i st h L V) (z : Int) (a : Option Addr) (m c : Nat) (kl : List Bool) (hk : RdB w a m c kl) (hm : m ≤ 1000000000) (h1 : -9223372036854775808 ≤ z) (h2 : z ≤ 9223372036854775807) :
    Calls Try.prog 15 #[.pointer (some ⟨C.d, 0, none⟩), .int .i64 z, .slice a m c] w fun e w' => e = .returned (.tuple #[]) ∧ ∃ Z', PlD C w0 w' Z' i (armS st z kl) h L V := by
  refine (arm_any Z C.d st z a m c kl w p.di hk hm h1 h2).mono ?_
  rintro e w' ⟨rfl, Z', hd, ht⟩
  exact ⟨rfl, Z', p.turn hd ht ⟨p.num.pend, p.num.size, p.num.len, p.num.wr, p.num.rd, p.num.nx, p.num.tn, p.num.out⟩ (fun s => rfl)⟩
set_option maxRecDepth 100000 in
theorem PlD.cut (p : PlD C w0 w Z i st h L V) (a : Option Addr) (m c : Nat) (kl : List Bool) (hr : RdB w a m c kl) (hlo : ∀ x, a = some x → 0 < m → x.block < w.heap.size ∧ ¬ Z x.block) :
    Calls Try.prog 17 #[.pointer (some ⟨C.d, 0, none⟩), .slice a m c] w fun e w' => e = .returned (.tuple #[]) ∧ PlD C w0 w' Z i (cutS st kl) h L V := by
  refine (cut_any Z C.d st w p.di a m c kl hr hlo).mono ?_
  rintro e w' ⟨rfl, hd, ht⟩
  obtain ⟨hc, hk, hw⟩ := cut_none (keep := kl) p.num.pend
  refine ⟨rfl, p.turn hd ht ⟨hc.pend, hc.size.trans p.num.size, hc.len.trans p.num.len, by rw [hw]; exact p.num.wr, by rw [hc.reads]; exact p.num.rd, p.num.nx, p.num.tn, fun s hs => by rw [hk]; exact p.num.out s hs⟩ (fun s => ?_)⟩
  rw [secB_kept hc.pend, secB_kept p.num.pend, hk]
theorem rowW_no {o : Nat} {x : Int} (h : w.heap[C.g]? = some (rowW C V)) (nu : V.Nu) (hl : ∃ a m c, V.lv = .slice a m c) : w.cell? ⟨C.g, o, none⟩ ≠ some (.int .u8 x) := fun e => by
  obtain ⟨a, m, c, hl⟩ := hl
  obtain ⟨c0, c1, c2, c3, c4, c5, c6, c7, c8, _⟩ := rowW_cells h
  by_cases ho : o < 9
  · rcases (by omega : o = 0 ∨ o = 1 ∨ o = 2 ∨ o = 3 ∨ o = 4 ∨ o = 5 ∨ o = 6 ∨ o = 7 ∨ o = 8) with rfl | rfl | rfl | rfl | rfl | rfl | rfl | rfl | rfl
    · rw [c0] at e; cases e
    · rw [c1] at e; injection e with e; exact (nu x).1 e
    · rw [c2] at e; cases e
    · rw [c3] at e; cases e
    · rw [c4, hl] at e; cases e
    · rw [c5] at e; cases e
    · rw [c6] at e; cases e
    · rw [c7] at e; injection e with e; exact (nu x).2 e
    · rw [c8] at e; cases e
  · unfold rowW at h
    rw [cell_of_row w C.g o _ _ _ h, Array.getElem?_eq_none (by show 9 ≤ o; omega)] at e
    cases e
/-- The rows that Open tells are not the play's block. -/
theorem RowsIn.rdg {a : Option Addr} {n c : Nat} {vs : List Value} {ls : List (List Int)} (hW : RowsIn w Q (.slice a n c) vs ls) (hrow : w.heap[C.g]? = some (rowW C V)) (nu : V.Nu) (hl : ∃ a m c, V.lv = .slice a m c) : RowsRd w (fun k => k = C.g) a n c ls := by
  have h := hW.rd
  refine ⟨h.len, h.cap, h.max, h.void, fun x hx hn e => ?_, fun i l hi => ?_⟩
  · rcases hW.own.2 with ⟨hv, h1⟩ | ⟨g, cap, cur, hv, h0, hh, h1, h2, h3, h4⟩
    · injection hv with q1 q2 q3
      rw [hx] at q1
      cases q1
    · injection hv with q1 q2 q3
      rw [hx] at q1
      injection q1 with q1
      rw [q1] at e
      have e' : g = C.g := e
      rw [e', hrow] at hh
      unfold rowW at hh
      injection hh with hh
      injection hh with _ hh
      exact absurd hh (by decide)
  · obtain ⟨b, o, a', n', c', f1, f2, f3, f4⟩ := h.each i l hi
    refine ⟨b, o, a', n', c', f1, f2, f3, fun x hx hn e => ?_⟩
    obtain ⟨b2, o2, g1, g2⟩ := f3.cell 0 hn
    rw [hx] at g1
    injection g1 with g1
    subst g1
    have e' : b2 = C.g := e
    rw [e'] at g2
    exact rowW_no hrow nu hl g2
set_option maxRecDepth 100000 in
/-- The journal opened. -/
theorem PlD.opn (ok : C.Ok) (p : PlD C w0 w Z i st h L V) (hoff : st.off = false) (hi : i ≤ 1000) :
    Calls Try.prog 19 #[.pointer (some ⟨C.d, 0, none⟩), .int .i64 2, .int .i64 (C.n : Int)] w fun e w' => ∃ r a m c, e = .returned (.tuple #[.pointer (some ⟨r, 0, none⟩), .slice a m c, .nilIface]) ∧ RowsRd w' (fun k => k = C.g) a m c L ∧ ∃ Q' st', PlR C w0 w' Q' (i + 1) r st' ⟨2, C.n, C.size, h, ksOf C.size L⟩ L V := by
  have hn4 := ok.n4
  have hn60 := ok.n60
  have hs0 := ok.s0
  refine (ropen_any Z C.d st 2 C.n w p.di hn4 (by rw [p.num.len]; omega) hoff (by have := p.num.rd; omega)).mono ?_
  rintro e w' ⟨R, hR1, hR2, hpost⟩
  rw [p.num.size, opR_holds p.H hs0 hn4 (by omega)] at hpost
  obtain ⟨r, Q', v, vs, rfl, hr, hW, ht⟩ := hpost
  obtain ⟨a, c, rfl⟩ := hW.shape
  obtain ⟨a0, m0, c0, e1, e2⟩ := p.rows
  have hd : PlD C w0 w Z i st h L V := p
  have hrow' : w'.heap[C.g]? = some (rowW C V) := (ht.block _ p.glt p.ng).trans p.row
  refine ⟨r, a, _, c, rfl, hW.rdg hrow' p.nu ⟨_, _, _, e1⟩, Q', _, ⟨(ht.block _ p.glt p.ng).trans p.row, hr, tnd_new ht p.glt p.ng, ht.base p.base p.below.size, p.gb, p.below.trans (ht.below p.base p.below.size), hoff, ⟨p.num.pend, p.num.size, p.num.len, by have := p.num.wr; show st.writes ≤ _; omega, by have := p.num.rd; show R ≤ _; omega, by have := p.num.nx; show h.next ≤ _; omega, by have := p.num.tn; show h.turn ≤ _; omega, p.num.out⟩, rfl, rfl, rfl, p.H, rfl, ⟨a0, m0, c0, e1, e2.keep (fun k hk hn => ht.block k hk (fun hz => hn (.inl hz))) (fun k hk hn hz => ?_)⟩, p.nu, p.kp.tnd ht⟩⟩
  rcases hz with hz | hz
  · exact tnd_new ht hk (fun h1 => hn (.inl h1)) hz
  · exact hn (.inr hz)
set_option maxRecDepth 100000 in
theorem PlR.first (p : PlR C w0 w Q i r st J L V) : Calls Try.prog 20 #[.pointer (some ⟨r, 0, none⟩)] w fun e w' => e = .returned (.int .u64 J.h.first) ∧ w = w' := by
  obtain ⟨⟨Z, sv, hd, hr, _⟩, _⟩ := p.ri
  exact first_any r C.d sv J w hr
set_option maxRecDepth 100000 in
theorem PlR.next (p : PlR C w0 w Q i r st J L V) : Calls Try.prog 21 #[.pointer (some ⟨r, 0, none⟩)] w fun e w' => e = .returned (.int .u64 J.h.next) ∧ w = w' := by
  obtain ⟨⟨Z, sv, hd, hr, _⟩, _⟩ := p.ri
  exact next_any r C.d sv J w hr
set_option maxRecDepth 100000 in
theorem PlR.room (p : PlR C w0 w Q i r st J L V) : Calls Try.prog 11 #[.pointer (some ⟨r, 0, none⟩)] w fun e w' => e = .returned (.int .i64 (roomN J)) ∧ w = w' := by
  obtain ⟨⟨Z, sv, hd, hr, ho, _⟩, ok, _⟩ := p.ri
  exact rroom_any r C.d sv J w hr ok ho
/-- A value put into the play's block. -/
theorem PlR.put (p : PlR C w0 w Q i r st J L V) (k : Nat) (x : Value) (V' : PlV) (hrow : ∀ w1 : World, w1.heap[C.g]? = some (rowW C V) → (w1.setCell ⟨C.g, k, none⟩ x).heap[C.g]? = some (rowW C V')) (hlv : V'.lv = V.lv) (hM : V'.M = V.M) (hnu : V'.Nu) : PlR C w0 (w.setCell ⟨C.g, k, none⟩ x) Q i r st J L V' := by
  have hg := cell_grownR w C.g k x
  obtain ⟨a, m, c, e1, e2⟩ := p.rows
  exact ⟨hrow w p.row, p.ri.keep (fun b hb => hg.block b (p.ri.lt b hb) (fun e => by injection e with e; exact p.ng (e ▸ hb))) hg.size, p.ng, p.base, p.gb, p.below.grown hg p.below.size (fun b hb => by injection hb with hb; rw [← hb]; exact p.gb), p.off, p.num, p.jlo, p.jn, p.jsz, p.H, p.ks, ⟨a, m, c, hlv.trans e1, by rw [hM]; exact e2.keep (fun b hb hn => hg.block b hb (fun e => by injection e with e; exact hn (.inr e))) (fun _ _ hn => hn)⟩, hnu, p.kp.put hg⟩
theorem PlD.put (p : PlD C w0 w Z i st h L V) (k : Nat) (x : Value) (V' : PlV) (hrow : ∀ w1 : World, w1.heap[C.g]? = some (rowW C V) → (w1.setCell ⟨C.g, k, none⟩ x).heap[C.g]? = some (rowW C V')) (hlv : V'.lv = V.lv) (hM : V'.M = V.M) (hnu : V'.Nu) : PlD C w0 (w.setCell ⟨C.g, k, none⟩ x) Z i st h L V' := by
  have hg := cell_grownR w C.g k x
  obtain ⟨a, m, c, e1, e2⟩ := p.rows
  exact ⟨hrow w p.row, p.di.same (fun b hb => hg.block b (p.di.1 b hb) (fun e => by injection e with e; exact p.ng (e ▸ hb))) hg.size, p.ng, p.base, p.gb, p.below.grown hg p.below.size (fun b hb => by injection hb with hb; rw [← hb]; exact p.gb), p.num, p.H, ⟨a, m, c, hlv.trans e1, by rw [hM]; exact e2.keep (fun b hb hn => hg.block b hb (fun e => by injection e with e; exact hn (.inr e))) (fun _ _ hn => hn)⟩, hnu, p.kp.put hg⟩
theorem rowW_set1 (x : Value) {w1 : World} (h : w1.heap[C.g]? = some (rowW C V)) : (w1.setCell ⟨C.g, 1, none⟩ x).heap[C.g]? = some (rowW C { V with rv := x }) := heap_setCell_same w1 C.g 1 _ _ x h
theorem rowW_set4 (x : Value) (M : List (List Int)) {w1 : World} (h : w1.heap[C.g]? = some (rowW C V)) : (w1.setCell ⟨C.g, 4, none⟩ x).heap[C.g]? = some (rowW C { V with lv := x, M := M }) := heap_setCell_same w1 C.g 4 _ _ x h
theorem rowW_set5 (f' : Int) {w1 : World} (h : w1.heap[C.g]? = some (rowW C V)) : (w1.setCell ⟨C.g, 5, none⟩ (.int .u64 f')).heap[C.g]? = some (rowW C { V with f := f' }) := heap_setCell_same w1 C.g 5 _ _ (.int .u64 f') h
theorem rowW_set6 (b : Bool) {w1 : World} (h : w1.heap[C.g]? = some (rowW C V)) : (w1.setCell ⟨C.g, 6, none⟩ (.bool b)).heap[C.g]? = some (rowW C { V with may := b }) := heap_setCell_same w1 C.g 6 _ _ (.bool b) h
theorem rowW_set7 (x : Value) {w1 : World} (h : w1.heap[C.g]? = some (rowW C V)) : (w1.setCell ⟨C.g, 7, none⟩ x).heap[C.g]? = some (rowW C { V with mv := x }) := heap_setCell_same w1 C.g 7 _ _ x h
theorem rowW_set8 (x : Int) {w1 : World} (h : w1.heap[C.g]? = some (rowW C V)) : (w1.setCell ⟨C.g, 8, none⟩ (.int .u64 x)).heap[C.g]? = some (rowW C { V with ma := x }) := heap_setCell_same w1 C.g 8 _ _ (.int .u64 x) h
/-- Other rows put into the play's block. -/
theorem PlR.putL (p : PlR C w0 w Q i r st J L V) (a : Option Addr) (m c : Nat) (M : List (List Int)) (hr : RowsRd w (fun k => Q k ∨ k = C.g) a m c M) : PlR C w0 (w.setCell ⟨C.g, 4, none⟩ (.slice a m c)) Q i r st J L { V with lv := .slice a m c, M := M } := by
  have hnu : PlV.Nu { V with lv := .slice a m c, M := M } := p.nu
  have hg := cell_grownR w C.g 4 (.slice a m c)
  exact ⟨rowW_set4 _ _ p.row, p.ri.keep (fun b hb => hg.block b (p.ri.lt b hb) (fun e => by injection e with e; exact p.ng (e ▸ hb))) hg.size, p.ng, p.base, p.gb, p.below.grown hg p.below.size (fun b hb => by injection hb with hb; rw [← hb]; exact p.gb), p.off, p.num, p.jlo, p.jn, p.jsz, p.H, p.ks, ⟨a, m, c, rfl, hr.keep (fun b hb hn => hg.block b hb (fun e => by injection e with e; exact hn (.inr e))) (fun _ _ hn => hn)⟩, hnu, p.kp.put hg⟩
theorem PlR.next_len (p : PlR C w0 w Q i r st J L V) : J.h.next = J.h.first + J.ks.length := by
  rw [p.H.next, p.ks]
  unfold ksOf
  rw [List.length_map]
theorem PlR.len60 (p : PlR C w0 w Q i r st J L V) (ok : C.Ok) : L.length ≤ 60 := by
  have h1 := ks_len J.ks p.ri.ok.kp
  have h2 := p.ri.ok.ks
  have h3 := ok.n60
  have h4 := p.jn
  have h5 : J.ks.length = L.length := by rw [p.ks]; unfold ksOf; rw [List.length_map]
  omega
theorem PlD.len60 (p : PlD C w0 w Z i st h L V) (ok : C.Ok) : L.length ≤ 60 := by
  have h1 := ks_len (ksOf C.size L) (fun k hk => by
    obtain ⟨l, _, rfl⟩ := List.mem_map.1 hk
    unfold ndN
    omega)
  have h2 := p.H.sum
  have h3 := ok.n60
  have h5 : (ksOf C.size L).length = L.length := by unfold ksOf; rw [List.length_map]
  omega
/-- The journal turned. -/
theorem PlR.turn {j : Nat} {Q' : Nat → Prop} {J' : Jr} {L' : List (List Int)} (p : PlR C w0 w Q i r st J L V) (hr : RiIn w' Q' r C.d st' J') (t : Tnd Q Q' w w') (hoff : st'.off = false) (num : PlN C j st' J'.h) (h1 : J'.lo = 2) (h2 : J'.n = C.n) (h3 : J'.size = C.size) (H : HoldsK (secB st') 2 C.n C.size J'.h L') (hks : J'.ks = ksOf C.size L') : PlR C w0 w' Q' j r st' J' L' V := by
  obtain ⟨a, m, c, e1, e2⟩ := p.rows
  refine ⟨(t.block _ p.glt p.ng).trans p.row, hr, tnd_new t p.glt p.ng, t.base p.base p.below.size, p.gb, p.below.trans (t.below p.base p.below.size), hoff, num, h1, h2, h3, H, hks, ⟨a, m, c, e1, e2.keep (fun k hk hn => t.block k hk (fun hz => hn (.inl hz))) (fun k hk hn hz => ?_)⟩, p.nu, p.kp.tnd t⟩
  rcases hz with hz | hz
  · exact tnd_new t hk (fun h1 => hn (.inl h1)) hz
  · exact hn (.inr hz)
/-- The journal turned, the power gone. -/
theorem PlR.gone {j : Nat} {Q' : Nat → Prop} {J' : Jr} (p : PlR C w0 w Q i r st J L V) (hr : RiIn w' Q' r C.d st' J') (t : Tnd Q Q' w w') (num : PlN C j st' J.h) (H : HoldsK (secB st') 2 C.n C.size J.h L) : ∃ Z, PlD C w0 w' Z j st' J.h L V ∧ ∀ k, Z k → Q' k := by
  obtain ⟨a, m, c, e1, e2⟩ := p.rows
  obtain ⟨⟨Z, sv, hd, _, _, hz, _⟩, _⟩ := hr
  refine ⟨Z, ⟨(t.block _ p.glt p.ng).trans p.row, hd, fun h1 => tnd_new t p.glt p.ng (hz _ h1), fun k hk => t.base p.base p.below.size k (hz k hk), p.gb, p.below.trans (t.below p.base p.below.size), num, H, ⟨a, m, c, e1, e2.keep (fun k hk hn => t.block k hk (fun hz => hn (.inl hz))) (fun k hk hn h1 => ?_)⟩, p.nu, (p.kp.tnd t).sub hz⟩, hz⟩
  rcases h1 with h1 | h1
  · exact tnd_new t hk (fun h2 => hn (.inl h2)) (hz k h1)
  · exact hn (.inr h1)
set_option maxRecDepth 100000 in
theorem PlR.arm (p : PlR C w0 w Q i r st J L V) (z : Int) (a : Option Addr) (m c : Nat) (kl : List Bool) (hk : RdB w a m c kl) (hm : m ≤ 1000000000) (h1 : -9223372036854775808 ≤ z) (h2 : z ≤ 9223372036854775807) :
    Calls Try.prog 15 #[.pointer (some ⟨C.d, 0, none⟩), .int .i64 z, .slice a m c] w fun e w' => e = .returned (.tuple #[]) ∧ ∃ Q', PlR C w0 w' Q' i r (armS st z kl) J L V := by
  obtain ⟨⟨Z, sv, hd, hr, ho, hz, hq, hn, hg⟩, ok, dok, lt⟩ := p.ri
  refine (arm_any Z C.d st z a m c kl w hd hk hm h1 h2).mono ?_
  rintro e w' ⟨rfl, Z', hd', ht'⟩
  obtain ⟨Q', hr', tq⟩ := RiIn.disk hr ho hz hq hn hg ok dok (st' := armS st z kl) ⟨rfl, rfl⟩ hd' ht'
  exact ⟨rfl, Q', p.turn hr' tq p.off ⟨p.num.pend, p.num.size, p.num.len, p.num.wr, p.num.rd, p.num.nx, p.num.tn, p.num.out⟩ p.jlo p.jn p.jsz p.H p.ks⟩
theorem PlR.later {j : Nat} (p : PlR C w0 w Q i r st J L V) (h : i ≤ j) : PlR C w0 w Q j r st J L V := ⟨p.row, p.ri, p.ng, p.base, p.gb, p.below, p.off, p.num.more h, p.jlo, p.jn, p.jsz, p.H, p.ks, p.rows, p.nu, p.kp⟩
theorem PlS.later {j : Nat} (p : PlS C w0 w i L) (h : i ≤ j) : PlS C w0 w j L := by
  obtain ⟨Q, r, st, J, V, hp, h1, h2, h3⟩ := p
  exact ⟨Q, r, st, J, V, hp.later h, h1, h2, h3⟩
/-- A row of slices without its first k. -/
theorem RowsRd.drop {P : Nat → Prop} {b o n c : Nat} {ls : List (List Int)} (h : RowsRd w P (some ⟨b, o, none⟩) n c ls) (k : Nat) (hk : k ≤ n) : RowsRd w P (pkT c k (some ⟨b, o, none⟩) (some ⟨b, o + k, none⟩)) (n - k) (c - k) (ls.drop k) := by
  have hcap := h.cap
  have hl := h.len
  have hm := h.max
  have hb : ∀ x, pkT c k (some (⟨b, o, none⟩ : Addr)) (some ⟨b, o + k, none⟩) = some x → x.block = b := fun x hx => by
    unfold pkT at hx
    split at hx <;> (injection hx with hx; rw [← hx])
  refine ⟨by rw [List.length_drop, hl], by omega, by omega, fun e => ?_, fun x hx hn hp => ?_, fun i l hi => ?_⟩
  · unfold pkT at e
    split at e <;> cases e
  · rw [hb x hx] at hp
    exact h.nq _ rfl (by omega) hp
  · rw [List.getElem?_drop] at hi
    obtain ⟨b', o', a', n', c', e1, e2, e3, e4⟩ := h.each (k + i) l hi
    injection e1 with e1
    injection e1 with e1 e1'
    subst e1 e1'
    have hlt : k + i < ls.length := (List.getElem?_eq_some_iff.1 hi).1
    refine ⟨b, o + k, a', n', c', ?_, by rw [Nat.add_assoc]; exact e2, e3, e4⟩
    unfold pkT
    rw [if_neg (by omega)]
theorem PlR.lenW (p : PlR C w0 w Q i r st J L V) {m : Nat} (hm : L.length = m) : IntKind.u64.wrap (m : Int) = (m : Int) ∧ IntKind.u64.wrap (J.h.first + (m : Int)) = J.h.next := by
  have h1 := p.H.next
  have h2 := p.H.hv.wf.n1
  have h3 := p.H.hv.f1
  rw [hm] at h1
  rw [IntKind.wrap_u64, IntKind.wrap_u64]
  omega
set_option maxRecDepth 100000 in
/-- One record more: too long; whole; or cut. -/
theorem PlR.append (ok : C.Ok) (p : PlR C w0 w Q i r st J L V) (hi : i ≤ 1000) (a : Option Addr) (m c : Nat) (l : List Int) (hl : RdAt .u8 w a m c l) (hq : ∀ x, a = some x → 0 < m → ¬ Q x.block) (hf : ¬ roomN J < m) :
    Calls Try.prog 12 #[.pointer (some ⟨r, 0, none⟩), .slice a m c] w fun e w' =>
      ((st.armed = 0 ∨ ((ndN J.size l.length : Nat) : Int) + 1 < st.armed) → e = .returned (.tuple #[.int .u64 J.h.next, .int .i64 0]) ∧ ∃ Q' st' J', Tnd Q Q' w w' ∧ PlR C w0 w' Q' (i + 1) r st' J' (L ++ [l]) V ∧ J'.h.first = J.h.first) ∧
      (¬ (st.armed = 0 ∨ ((ndN J.size l.length : Nat) : Int) + 1 < st.armed) → e = .returned (.tuple #[.int .u64 0, .int .i64 8]) ∧ ∃ Q' st', Tnd Q Q' w w' ∧ ∃ Z, PlD C w0 w' Z (i + 1) st' J.h L V ∧ st'.off = true ∧ ∀ k, Z k → Q' k) := by
  have hn4 := ok.n4
  refine (append_on Q r C.d st J a m c l w p.ri hl hq hf p.off p.num.pend (by have := p.num.nx; omega) (by have := p.num.tn; omega) (by have := p.num.wr; omega)).mono ?_
  rintro e w' ⟨rfl, Q', hr', ht'⟩
  have hlen := hl.len
  have hfl : ¬ roomN J < l.length := by rw [hlen]; exact hf
  obtain ⟨hsum, hm2⟩ := nd_room p.ri.ok hf
  have hnd : ndN J.size m ≤ 65536 := by have := p.ri.ok.n1; omega
  have harm : 0 ≤ st.armed := by
    obtain ⟨⟨Z, sv, hd, _⟩, _⟩ := p.ri
    exact hd.okR.armed.1
  have hH : HoldsK (secB st) J.lo J.n J.size J.h L := by rw [p.jlo, p.jn, p.jsz]; exact p.H
  have hks : J.ks = ksOf J.size L := by rw [p.jsz]; exact p.ks
  have hpt : ∀ s : Nat, s < 2 ∨ C.n + 2 ≤ s → ∀ j, ptAt J j ≠ s := fun s hs j => by
    have h1 := p.jn
    have h2 := p.jlo
    have := Nat.mod_lt (J.h.start.toNat + sumN J.ks + j) (show 0 < J.n - 2 by omega)
    unfold ptAt
    omega
  refine ⟨fun hw => ?_, fun hw => ?_⟩
  · obtain ⟨e1, eJ, e3, e4, e5, e6, e7, e8, e9⟩ := ap_whole p.off p.num.pend hw hfl
    have hhold := ap_holds p.ri.ok p.ri.dok p.off p.num.pend hw hfl hH hks (by have := p.num.nx; omega) (by have := p.num.tn; omega)
    have hJ1 : (apS st J l).J.h = J.h.nx.up := by rw [eJ]
    refine ⟨by unfold ApE; rw [e1]; rfl, Q', _, _, ht', p.turn hr' ht' e3 ⟨e4, e5.trans p.num.size, by rw [e9, List.length_set, setAll_len]; exact p.num.len, ?_, ?_, ?_, ?_, fun s hs => ?_⟩ (by rw [eJ]; exact p.jlo) (by rw [eJ]; exact p.jn) (by rw [eJ]; exact p.jsz) ?_ ?_, by rw [hJ1]; rfl⟩
    · have := p.num.wr
      rw [e7, hlen]
      omega
    · have := p.num.rd
      rw [e6]
      omega
    · rw [hJ1]
      have := p.num.nx
      show J.h.next + 1 ≤ _
      omega
    · rw [hJ1]
      have := p.num.tn
      show J.h.turn + 1 ≤ _
      omega
    · rw [e9, List.getElem?_set_ne (by have := p.jlo; omega), setAll_other _ _ _ (fun q hq => ?_)]
      · exact p.num.out s hs
      · obtain ⟨j, hj⟩ := List.getElem?_of_mem hq
        have hjN : j < ndN J.size l.length := by
          have := (List.getElem?_eq_some_iff.1 hj).1
          rw [apW_len] at this
          exact this
        rw [apW_at J l _ 0 j hjN] at hj
        injection hj with hj
        rw [← hj]
        exact hpt s hs _
    · rw [hJ1]
      rw [p.jlo, p.jn, p.jsz] at hhold
      exact hhold
    · rw [eJ]
      show J.ks ++ [ndN J.size l.length] = _
      rw [ksOf_snoc, p.ks, p.jsz]
  · have h1 : 1 ≤ st.armed := by omega
    have h2 : st.armed ≤ ((ndN J.size l.length : Nat) : Int) + 1 := by omega
    obtain ⟨e1, eJ, ec, ew, ek⟩ := ap_cut p.off p.num.pend h1 h2 hfl
    have hhold := ap_cut_holds p.ri.ok p.off p.num.pend h1 h2 hfl hH hks
    rw [p.jlo, p.jn, p.jsz] at hhold
    obtain ⟨Z, hZ, hZQ⟩ := p.gone (j := i + 1) hr' ht' ⟨ec.pend, ec.size.trans p.num.size, ec.len.trans p.num.len, by have := p.num.wr; rw [hlen] at ew; omega, by have := p.num.rd; rw [ec.reads]; omega, by have := p.num.nx; omega, by have := p.num.tn; omega, fun s hs => (ek s (fun j _ => hpt s hs j)).trans (p.num.out s hs)⟩ hhold
    exact ⟨by unfold ApE; rw [e1]; rfl, Q', _, ht', Z, hZ, ec.off, hZQ⟩
set_option maxRecDepth 100000 in
theorem PlR.full (p : PlR C w0 w Q i r st J L V) (a : Option Addr) (m c : Nat) (l : List Int) (hl : RdAt .u8 w a m c l) (hf : roomN J < m) (hm : m ≤ 1000000000) :
    Calls Try.prog 12 #[.pointer (some ⟨r, 0, none⟩), .slice a m c] w fun e w' => e = .returned (.tuple #[.int .u64 0, .int .i64 10]) ∧ w = w' :=
  append_full Q r C.d st J a m c l w p.ri hl hf hm
set_option maxRecDepth 100000 in
/-- The eldest k records let go: done; or cut. -/
theorem PlR.trunc (ok : C.Ok) (p : PlR C w0 w Q i r st J L V) (hi : i ≤ 1000) (up : Int) (h0 : 0 ≤ up) (h1 : up ≤ 18446744073709551615) :
    Calls Try.prog 53 #[.pointer (some ⟨r, 0, none⟩), .int .u64 up] w fun e w' =>
      (J.h.next ≤ up → e = .returned (.int .i64 1) ∧ ∃ Q', PlR C w0 w' Q' (i + 1) r st J L V) ∧
      (¬ J.h.next ≤ up → up < J.h.first → e = .returned (.int .i64 0) ∧ ∃ Q', PlR C w0 w' Q' (i + 1) r st J L V) ∧
      (¬ J.h.next ≤ up → ¬ up < J.h.first → ¬ st.armed = 1 → e = .returned (.int .i64 0) ∧ ∃ Q' st' J', PlR C w0 w' Q' (i + 1) r st' J' (L.drop ((up - J.h.first).toNat + 1)) V ∧ J'.h.first = up + 1) ∧
      (¬ J.h.next ≤ up → ¬ up < J.h.first → st.armed = 1 → e = .returned (.int .i64 8) ∧ ∃ Z st', PlD C w0 w' Z (i + 1) st' J.h L V ∧ st'.off = true) := by
  have hn4 := ok.n4
  have hH : HoldsK (secB st) J.lo J.n J.size J.h L := by rw [p.jlo, p.jn, p.jsz]; exact p.H
  have hks : J.ks = ksOf J.size L := by rw [p.jsz]; exact p.ks
  have hnl := p.next_len
  have hle := p.H.hv.le
  refine (truncate_any Q r C.d st J up w p.ri p.off p.num.pend h0 h1 hnl (by have := p.num.tn; omega) (by have := p.num.wr; omega)).mono ?_
  rintro e w' ⟨rfl, Q', hr', ht'⟩
  have hsame : ∀ x : Int, trS st J up = ⟨st, J, x⟩ → PlR C w0 w' Q' (i + 1) r st J L V := fun x hx => by
    rw [hx] at hr'
    exact p.turn hr' ht' p.off (p.num.more (by omega)) p.jlo p.jn p.jsz p.H p.ks
  refine ⟨fun c1 => ?_, fun c1 c2 => ?_, fun c1 c2 ha => ?_, fun c1 c2 ha => ?_⟩
  · have hE : trS st J up = ⟨st, J, 1⟩ := by unfold trS; rw [if_pos c1]
    exact ⟨by rw [hE], Q', hsame 1 hE⟩
  · have hE : trS st J up = ⟨st, J, 0⟩ := by unfold trS; rw [if_neg c1, if_pos c2]
    exact ⟨by rw [hE], Q', hsame 0 hE⟩
  rotate_left
  · have hE := tr_cut c1 c2 ha
    rw [hE] at hr'
    obtain ⟨hc, hk, hw⟩ := cut_none (keep := st.keep) p.num.pend
    have hsec : ∀ s, secB (cutS st st.keep) s = secB st s := fun s => by rw [secB_kept hc.pend, secB_kept p.num.pend, hk]
    obtain ⟨Z, hZ, hZQ⟩ := p.gone (j := i + 1) hr' ht' ⟨hc.pend, hc.size.trans p.num.size, hc.len.trans p.num.len, by have := p.num.wr; rw [hw]; omega, by have := p.num.rd; rw [hc.reads]; omega, by have := p.num.nx; omega, by have := p.num.tn; omega, fun s hs => by rw [hk]; exact p.num.out s hs⟩ (by rw [show secB (cutS st st.keep) = secB st from funext hsec]; exact p.H)
    exact ⟨by rw [hE], Z, _, hZ, hc.off⟩
  · obtain ⟨e1, eJ, e3, e4, e5, e6, e7, e8⟩ := tr_whole c1 c2 rfl p.num.pend ha
    have hhold := tr_holds p.ri.ok p.ri.dok c1 c2 rfl p.num.pend ha hH hks (by have := p.num.tn; omega)
    rw [p.jlo, p.jn, p.jsz] at hhold
    have hJ1 : (trS st J up).J.h = (trH J ((up - J.h.first).toNat + 1)).up := by rw [eJ]
    refine ⟨by rw [e1], Q', _, _, p.turn hr' ht' (e3.trans p.off) ⟨e4, e5.trans p.num.size, by rw [e8, List.length_set]; exact p.num.len, ?_, ?_, ?_, ?_, fun s hs => ?_⟩ (by rw [eJ]; exact p.jlo) (by rw [eJ]; exact p.jn) (by rw [eJ]; exact p.jsz) ?_ ?_, ?_⟩
    · have := p.num.wr
      rw [e7]
      omega
    · have := p.num.rd
      rw [e6]
      omega
    · rw [hJ1]
      have := p.num.nx
      show J.h.next ≤ _
      omega
    · rw [hJ1]
      have := p.num.tn
      show J.h.turn + 1 ≤ _
      omega
    · rw [e8, List.getElem?_set_ne (by have := p.jlo; omega)]
      exact p.num.out s hs
    · rw [hJ1]
      exact hhold
    · rw [eJ]
      show J.ks.drop _ = _
      rw [p.ks]
      exact List.map_drop.symm
    · rw [hJ1]
      show J.h.first + (((up - J.h.first).toNat + 1 : Nat) : Int) = _
      omega
end
end Go.Proofs.Ytlhpdkapddnbcaa
