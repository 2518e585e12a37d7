/- ring: a play's disk flushed; a burst in it; what Open tells then. RingBursts: the walk. RingBursts: for every input the law returns true, and every argument reads as it did: the row round the walk. -/
import Derived.Test.YtlhpdkapddnbcaaJk0
import Derived.Test.YtlhpdkapddnbcaaJk25
import Derived.Test.YtlhpdkapddnbcaaJb1
import Derived.Deep.CutBlock
import Derived.Deep.DeepCutAuto
import Derived.JoinedCond
import Derived.Test.YtlhpdkapddnbcaaRows
import Derived.WalkKit
import Derived.ProofKit
import Derived.OpenShut
import Derived.ShutString
import Derived.ChangeOld
import Derived.Below
namespace Go.Proofs.Ytlhpdkapddnbcaa
open Go.RowKit
section
variable {C : PlC} {w0 w w' : World} {Q Z Z' : Nat → Prop} {i r : Nat} {st st' : Dk} {J : Jr} {h : Hd} {L : List (List Int)} {V : PlV}
theorem flush_none {st : Dk} (hp : st.pend = []) : (flushS st).kept = st.kept := by
  show settleK _ 0 st.pend st.kept = _
  rw [hp]
  rfl
set_option maxRecDepth 100000 in
theorem PlR.flush (p : PlR C w0 w Q i r st J L V) : Calls Try.prog 28 #[.pointer (some ⟨C.d, 0, none⟩)] w fun e w' => e = .returned (.int .i64 0) ∧ PlR C w0 w' Q i r (flushS st) J L V := by
  refine (p.ri.flush p.off).mono ?_
  rintro e w' ⟨rfl, hr, ht⟩
  have hk := flush_none p.num.pend
  refine ⟨rfl, p.turn hr ht p.off ⟨rfl, p.num.size, by rw [hk]; exact p.num.len, p.num.wr, p.num.rd, p.num.nx, p.num.tn, fun s hs => by rw [hk]; exact p.num.out s hs⟩ p.jlo p.jn p.jsz ?_ p.ks⟩
  have hs : secB (flushS st) = secB st := funext fun s => by rw [secB_kept (st := flushS st) rfl, secB_kept p.num.pend, hk]
  rw [hs]
  exact p.H
/-- A play's disk behind a burst. -/
structure BuIn (C : PlC) (w0 w : World) (Z : Nat → Prop) (st : Dk) (h : Hd) (L : List (List Int)) (V : PlV) : Prop where
  row : w.heap[C.g]? = some (rowW C V)
  di : DkIn w Z C.d st
  ng : ¬ Z C.g
  base : ∀ k, Z k → w0.heap.size ≤ k
  below : Below w0.heap.size w0 w
  off : st.off = false
  size : st.size = C.size
  len : st.kept.length = C.n + 4
  rd : st.reads + 8589934592 ≤ 4611686018427387904
  rows : ∃ a m c, V.lv = .slice a m c ∧ RowsRd w (fun k => Z k ∨ k = C.g) a m c V.M
  nu : V.Nu
  res : opR (secB st) 2 C.n C.size = none ∨ opR (secB st) 2 C.n C.size = some (h, L)
set_option maxRecDepth 100000 in
theorem PlD.burst (ok : C.Ok) (p : PlD C w0 w Z i st h L V) (hoff : st.off = false) (hi : i ≤ 1000) (sec : Nat) (hsec : sec < C.n) (bit : Int) (pat : BitVec 32) (hb1 : bit ≤ 9223372036854775807) :
    Calls Try.prog 30 #[.pointer (some ⟨C.d, 0, none⟩), .int .i64 ((2 + sec : Nat) : Int), .int .i64 bit, .int .u32 (rnum pat)] w fun e w' => (∃ b : Bool, e = .returned (.bool b)) ∧ ∃ Z' st', BuIn C w0 w' Z' st' h L V := by
  have hn4 := ok.n4
  have hn60 := ok.n60
  have hs0 := ok.s0
  refine (dburst_any Z C.d st ((2 + sec : Nat) : Int) bit pat w p.di hb1).mono ?_
  rintro e w' ⟨rfl, Z', hd, ht⟩
  obtain ⟨a, m, c, e1, e2⟩ := p.rows
  have hsl : ∀ b : Bool, burB st ((2 + sec : Nat) : Int) bit = b → (burS st ((2 + sec : Nat) : Int) bit pat).off = false ∧ (burS st ((2 + sec : Nat) : Int) bit pat).size = st.size ∧ (burS st ((2 + sec : Nat) : Int) bit pat).kept.length = st.kept.length ∧ (burS st ((2 + sec : Nat) : Int) bit pat).reads = st.reads := fun b hb => by
    unfold burS
    cases b with
    | false => rw [hb, if_neg (by decide)]; exact ⟨hoff, rfl, rfl, rfl⟩
    | true => rw [hb, if_pos rfl]; exact ⟨hoff, rfl, List.length_set, rfl⟩
  obtain ⟨f1, f2, f3, f4⟩ := hsl _ rfl
  refine ⟨⟨_, rfl⟩, Z', _, ⟨(ht.block _ p.glt p.ng).trans p.row, hd, tnd_new ht p.glt p.ng, ht.base p.base p.below.size, p.below.trans (ht.below p.base p.below.size), f1, f2.trans p.num.size, f3.trans p.num.len, by rw [f4]; have := p.num.rd; omega, ⟨a, m, c, e1, e2.keep (fun k hk hn => ht.block k hk (fun hz => hn (.inl hz))) (fun k hk hn hz => ?_)⟩, p.nu, ?_⟩⟩
  · rcases hz with hz | hz
    · exact tnd_new ht hk (fun h1 => hn (.inl h1)) hz
    · exact hn (.inr hz)
  · cases hb : burB st ((2 + sec : Nat) : Int) bit with
    | false =>
      have e : burS st ((2 + sec : Nat) : Int) bit pat = st := by unfold burS; rw [hb, if_neg (by decide)]
      rw [e]
      exact .inr (opR_holds p.H hs0 hn4 (by omega))
    | true =>
      have hp2 : (burS st ((2 + sec : Nat) : Int) bit pat).pend = [] := by unfold burS; rw [hb, if_pos rfl]; show st.pend.map _ = []; rw [p.num.pend]; rfl
      have hk2 : (burS st ((2 + sec : Nat) : Int) bit pat).kept = st.kept.set (2 + sec) (burstV (secB st (2 + sec)) bit pat) := by unfold burS; rw [hb, if_pos rfl, secB_kept p.num.pend, Int.toNat_natCast]
      refine opR_burst (s := 2 + sec) (bit := bit) (p := pat) p.H hs0 hn4 (by omega) (p.di.secBytes _) ?_ (fun q hq => ?_)
      · rw [secB_kept hp2, hk2, List.getElem?_set_self (by rw [p.num.len]; omega)]
        rfl
      · rw [secB_kept hp2, hk2, List.getElem?_set_ne (fun e => hq e.symm), secB_kept p.num.pend]
/-- A play's disk opened, behind a burst: the records as they were. -/
structure BuOp (C : PlC) (w0 w : World) (r : Nat) (h : Hd) (V : PlV) : Prop where
  row : w.heap[C.g]? = some (rowW C V)
  below : Below w0.heap.size w0 w
  first : ∃ d sv J, w.heap[r]? = some (rowJ d sv J) ∧ J.h = h
  rows : ∃ a m c, V.lv = .slice a m c ∧ RowsRd w (fun _ => False) a m c V.M
theorem BuOp.more (p : BuOp C w0 w r h V) (b : Below w.heap.size w w') : BuOp C w0 w' r h V := by
  obtain ⟨d, sv, J, h1, h2⟩ := p.first
  obtain ⟨a, m, c, e1, e2⟩ := p.rows
  exact ⟨row_keep p.row b, p.below.trans (b.mono p.below.size), ⟨d, sv, J, row_keep h1 b, h2⟩, ⟨a, m, c, e1, e2.below b⟩⟩
set_option maxRecDepth 100000 in
theorem BuOp.firstC (p : BuOp C w0 w r h V) : Calls Try.prog 20 #[.pointer (some ⟨r, 0, none⟩)] w fun e w' => e = .returned (.int .u64 h.first) ∧ w = w' := by
  obtain ⟨d, sv, J, h1, h2⟩ := p.first
  rw [← h2]
  exact first_any r d sv J w h1
set_option maxRecDepth 100000 in
theorem BuIn.opn (ok : C.Ok) (p : BuIn C w0 w Z st h L V) :
    Calls Try.prog 19 #[.pointer (some ⟨C.d, 0, none⟩), .int .i64 2, .int .i64 (C.n : Int)] w fun e w' => (∃ v, e = .returned (.tuple #[.pointer none, .slice none 0 0, v]) ∧ FailAt w' v 20 ∧ Below w0.heap.size w0 w') ∨ (∃ r a m c, e = .returned (.tuple #[.pointer (some ⟨r, 0, none⟩), .slice a m c, .nilIface]) ∧ RowsRd w' (fun _ => False) a m c L ∧ BuOp C w0 w' r h V) := by
  have hn4 := ok.n4
  refine (ropen_any Z C.d st 2 C.n w p.di hn4 (by rw [p.len]; omega) p.off p.rd).mono ?_
  rintro e w' ⟨R, hR1, hR2, hpost⟩
  have glt := (Array.getElem?_eq_some_iff.1 p.row).1
  rw [p.size] at hpost
  rcases p.res with hres | hres
  · rw [hres] at hpost
    obtain ⟨⟨v, rfl, hf⟩, Z', hd, ht⟩ := hpost
    exact .inl ⟨v, rfl, hf, p.below.trans (ht.below p.base p.below.size)⟩
  · rw [hres] at hpost
    obtain ⟨r, Q', v, vs, rfl, hr, hW, ht⟩ := hpost
    obtain ⟨a, c, rfl⟩ := hW.shape
    obtain ⟨a0, m0, c0, e1, e2⟩ := p.rows
    obtain ⟨⟨Z2, sv, hd, hrow, _⟩, _⟩ := hr
    exact .inr ⟨r, a, _, c, rfl, hW.rd.keep (fun _ _ _ => rfl) (fun _ _ _ h1 => h1), (ht.block _ glt p.ng).trans p.row, p.below.trans (ht.below p.base p.below.size), ⟨_, sv, _, hrow, rfl⟩, ⟨a0, m0, c0, e1, e2.keep (fun k hk hn => ht.block k hk (fun hz => hn (.inl hz))) (fun _ _ _ h1 => h1)⟩⟩
end
end Go.Proofs.Ytlhpdkapddnbcaa

namespace Go.Proofs.Ytlhpdkapddnbcaa
open Go.RowKit
set_option linter.unusedSimpArgs false in
set_option linter.unusedVariables false in
set_option maxRecDepth 100000 in
set_option maxHeartbeats 4000000 in
theorem ringBursts_walk (a0 a1 : Int) (x2 : Option Addr) (nl cl : Nat) (l : List RaP) (a3 a4 a5 : Int) (w0 : World) (hw0 : (Lit.int .i64 a0).wf = true) (hw1 : (Lit.int .i64 a1).wf = true) (hl : RasAt w0 x2 nl l) (hb : sumRa l + nl ≤ 1048576) (hw3 : (Lit.int .i64 a3).wf = true) (hw4 : (Lit.int .i64 a4).wf = true) (hw5 : (Lit.int .u32 a5).wf = true) : Calls Try.prog 8 #[.int .i64 a0, .int .i64 a1, .slice x2 nl cl, .int .i64 a3, .int .i64 a4, .int .u32 a5] w0 fun e w' => e = .returned (.bool true) ∧ Below w0.heap.size w0 w' := by
  obtain ⟨p0, p1⟩ := wf_i64_bd hw0
  obtain ⟨q0, q1⟩ := wf_i64_bd hw1
  have HKN := Lib.hid (known8 w0)
  have HL := Lib.hid hl
  have HFW : Hid (∀ w1, Below w0.heap.size w0 w1 → Calls Try.prog 24 #[.slice x2 nl cl] w1 fun e w' => e = .returned (.bool (fewR l)) ∧ Below w1.heap.size w1 w') := fun w1 h => few8_any x2 nl cl l w1 (hl.below h) hb
  obtain ⟨s0, s1⟩ := wf_i64_bd hw3
  obtain ⟨t0, t1⟩ := wf_i64_bd hw4
  obtain ⟨v0, v1⟩ := wf_u32_bd hw5
  obtain ⟨pat, rfl⟩ : ∃ pat : BitVec 32, a5 = rnum pat := ⟨_, (u32_ofInt a5 v0 v1).symm⟩
  clear hw3 hw4 hw5 v0 v1
  by_cases hfew : fewR l = true
  rotate_left
  · have hfw : fewR l = false := by simpa using hfew
    rw [hfw] at HFW
    clear hfew hfw
    go_enter Try.func8, Try.ntmps8
    go_wp2_with fail
    refine HKN.out.mono ?_
    rintro e w1 ⟨rfl, hb1⟩
    have B1 := Lib.hid hb1
    clear hb1
    go_wp2_with (first | (go_at_call 24; refine (HFW.out w1 B1.out).mono ?_; rintro e w2 ⟨rfl, hb2⟩; have B2 := Lib.hid (B1.out.trans (hb2.mono B1.out.size)); clear hb2))
    go_ret
    exact ⟨rfl, B2.out⟩
  have hl60 : nl ≤ 60 := by unfold fewR at hfew; rw [Bool.and_eq_true, decide_eq_true_eq, decide_eq_true_eq, hl.len] at hfew; omega
  have hs16 : sumRa l ≤ 16384 := by unfold fewR at hfew; rw [Bool.and_eq_true, decide_eq_true_eq, decide_eq_true_eq] at hfew; omega
  rw [hfew] at HFW
  clear hfew hl
  by_cases hs : a0 < 64
  · have d0 : decide (a0 < 64) = true := decide_eq_true (by omega)
    go_enter Try.func8, Try.ntmps8
    go_wp2_with fail
    refine HKN.out.mono ?_
    rintro e w1 ⟨rfl, hb1⟩
    have B1 := Lib.hid hb1
    clear hb1
    go_wp2_with (first | (go_at_call 24; refine (HFW.out w1 B1.out).mono ?_; rintro e w2 ⟨rfl, hb2⟩; have B2 := Lib.hid (B1.out.trans (hb2.mono B1.out.size)); clear hb2))
    go_ret
    exact ⟨rfl, B2.out⟩
  have d0 : decide (a0 < 64) = false := decide_eq_false (by omega)
  by_cases hs2 : 512 < a0
  · have d1 : decide (512 < a0) = true := decide_eq_true (by omega)
    go_enter Try.func8, Try.ntmps8
    go_wp2_with fail
    refine HKN.out.mono ?_
    rintro e w1 ⟨rfl, hb1⟩
    have B1 := Lib.hid hb1
    clear hb1
    go_wp2_with (first | (go_at_call 24; refine (HFW.out w1 B1.out).mono ?_; rintro e w2 ⟨rfl, hb2⟩; have B2 := Lib.hid (B1.out.trans (hb2.mono B1.out.size)); clear hb2))
    go_ret
    exact ⟨rfl, B2.out⟩
  have d1 : decide (512 < a0) = false := decide_eq_false (by omega)
  by_cases hn : a1 < 4
  · have d2 : decide (a1 < 4) = true := decide_eq_true (by omega)
    go_enter Try.func8, Try.ntmps8
    go_wp2_with fail
    refine HKN.out.mono ?_
    rintro e w1 ⟨rfl, hb1⟩
    have B1 := Lib.hid hb1
    clear hb1
    go_wp2_with (first | (go_at_call 24; refine (HFW.out w1 B1.out).mono ?_; rintro e w2 ⟨rfl, hb2⟩; have B2 := Lib.hid (B1.out.trans (hb2.mono B1.out.size)); clear hb2))
    go_ret
    exact ⟨rfl, B2.out⟩
  have d2 : decide (a1 < 4) = false := decide_eq_false (by omega)
  by_cases hn2 : 60 < a1
  · have d3 : decide (60 < a1) = true := decide_eq_true (by omega)
    go_enter Try.func8, Try.ntmps8
    go_wp2_with fail
    refine HKN.out.mono ?_
    rintro e w1 ⟨rfl, hb1⟩
    have B1 := Lib.hid hb1
    clear hb1
    go_wp2_with (first | (go_at_call 24; refine (HFW.out w1 B1.out).mono ?_; rintro e w2 ⟨rfl, hb2⟩; have B2 := Lib.hid (B1.out.trans (hb2.mono B1.out.size)); clear hb2))
    go_ret
    exact ⟨rfl, B2.out⟩
  have d3 : decide (60 < a1) = false := decide_eq_false (by omega)
  obtain ⟨size, rfl⟩ : ∃ size : Nat, a0 = size := Int.eq_ofNat_of_zero_le (by omega)
  obtain ⟨n, rfl⟩ : ∃ n : Nat, a1 = n := Int.eq_ofNat_of_zero_le (by omega)
  have h4 : 4 ≤ n := by omega
  have h60 : n ≤ 60 := by omega
  have h64 : 64 ≤ size := by omega
  have h512 : size ≤ 512 := by omega
  clear hs hs2 hn hn2 p0 p1 q0 q1 hw0 hw1
  have HBG : Hid (∀ w1, Calls Try.prog 10 #[.int .i64 (size : Int), .int .i64 (n : Int)] w1 fun e w' => ∃ g d r Q, e = .returned (.pointer (some ⟨g, 0, none⟩)) ∧ Begun w1 w' g d r Q n size) := fun w1 => begun_any n size w1 h4 h60 h64 h512
  go_enter Try.func8, Try.ntmps8
  go_wp2_with fail
  refine HKN.out.mono ?_
  rintro e w1 ⟨rfl, hb1⟩
  have B1 := Lib.hid hb1
  clear hb1
  go_wp2_with (first | (go_at_call 24; refine (HFW.out w1 B1.out).mono ?_; rintro e w2 ⟨rfl, hb2⟩; have B2 := Lib.hid (B1.out.trans (hb2.mono B1.out.size)); clear hb2))
  refine (HBG.out w2).mono ?_
  rintro e w3 ⟨g, d, r, Q, rfl, hbg⟩
  have hpl := hbg.pls B2.out h4
  obtain ⟨C, hC⟩ : ∃ C, (⟨g, d, n, size, (fmS (dk0 (n + 4) size) 2 size (bgT n size)).kept, w0, fun _ => False⟩ : PlC) = C := ⟨_, rfl⟩
  have hCg : C.g = g := by rw [← hC]
  have hCn : C.n = n := by rw [← hC]
  have OK : Hid (C.Ok) := by rw [← hC]; exact ⟨h4, h60, h64, h512⟩
  rw [hC] at hpl
  rw [← hCg]
  have HP0 := Lib.hid hpl
  clear hpl hbg hC hCg g
  go_upto_block 0 with fail
  go_cut [] (fun wx => ∃ L, PlS C w0 wx 120 L)
  case first =>
    go_wp2_with fail
    go_loopw [14] (fun ix wr => ∃ (k : Nat) (L : List (List Int)), k ≤ nl ∧ ix = .int .i64 k ∧ Hid (PlS C w0 wr (2 * k) L)) (fun ix _ => nl - (intOf ix).toNat)
    case atStart => exact ⟨0, [], Nat.zero_le _, rfl, HP0⟩
    case round =>
      obtain ⟨k, L, hk, rfl, HP⟩ := hrel
      by_cases hkn : k < nl
      · have d5 : decide ((k : Int) < nl) = true := decide_eq_true (by omega)
        obtain ⟨A, hA⟩ : ∃ A, l[k]? = some A := ⟨_, List.getElem?_eq_getElem (by rw [HL.out.len]; exact hkn)⟩
        have hmem := sumRa_mem (List.mem_of_getElem? hA)
        obtain ⟨b0, o0, rfl, hat⟩ := (HL.out.below HP.out.below).at_ k A hA
        obtain ⟨b00, o00, e00, ⟨ba, bn, bc, ka, kn, kc, _, cb, _, ck, hrB, hrK⟩, _⟩ := HL.out.at_ k A hA
        injection e00 with e00
        injection e00 with e00 e01
        subst e00 e01
        obtain ⟨⟨ba', bn', bc', ka', kn', kc', c0, c1, c2, c3, _, _⟩, hwf⟩ := hat
        have e1 : Value.slice ba' bn' bc' = Value.slice ba bn bc := by have h1 := (Below.cell HP.out.below (block_lt_of_cell cb)).trans cb; rw [c1] at h1; exact Option.some.inj h1
        have e3 : Value.slice ka' kn' kc' = Value.slice ka kn kc := by have h1 := (Below.cell HP.out.below (block_lt_of_cell ck)).trans ck; rw [c3] at h1; exact Option.some.inj h1
        injection e1 with e10 e11 e12
        injection e3 with e30 e31 e32
        subst e10 e11 e12 e30 e31 e32
        have hbn : bn' ≤ 1000000 := by rw [← hrB.len]; omega
        have hkn2 : kn' ≤ 1000000 := by rw [← hrK.len]; omega
        have HRB := Lib.hid hrB
        have HRK := Lib.hid hrK
        obtain ⟨n0, n1⟩ := wf_i64_bd hwf.2
        obtain ⟨op, hop⟩ : ∃ op, A.op = op := ⟨_, rfl⟩
        obtain ⟨N, hN⟩ : ∃ N, A.nn = N := ⟨_, rfl⟩
        rw [hop] at c0
        rw [hN] at c2 n0 n1
        clear hA hmem hrB hrK hwf cb ck hop hN
        obtain ⟨hb1, hhb⟩ : ∃ hb1, wr.heap.size = hb1 := ⟨_, rfl⟩
        go_upto_region 12 with fail
        have hba : Below wr.heap.size wr (wr.alloc (.cells #[.int .i64 op, .slice ba' bn' bc', .int .i64 N, .slice ka' kn' kc'] 63)) := (Below.refl _ _).alloc (Nat.le_refl _) _
        have hrow := heap_alloc_new wr (.cells #[.int .i64 op, .slice ba' bn' bc', .int .i64 N, .slice ka' kn' kc'] 63)
        rw [hhb] at hrow
        obtain ⟨wA, hwA⟩ : ∃ wA, wr.alloc (.cells #[.int .i64 op, .slice ba' bn' bc', .int .i64 N, .slice ka' kn' kc'] 63) = wA := ⟨_, rfl⟩
        rw [hwA] at hba hrow ⊢
        clear hwA c0 c1 c2 c3
        have HBA := Lib.hid hba
        clear hba
        obtain ⟨z0, z1, z2, z3⟩ := cells4 hrow
        have zf := fun j => frozen_of_row wA hb1 j _ _ hrow
        by_cases hop2 : 2 < op
        · have do2 : decide (2 < op) = true := decide_eq_true hop2
          go_wp2_with fail
          go_roundw
          case rel => exact ⟨k + 1, L, by omega, by go_num, (HP.out.keep HBA.out).later (by omega)⟩
          case measure => simp [intOf] <;> omega
        have do2 : decide (2 < op) = false := decide_eq_false hop2
        by_cases hN1 : N < 0
        · have dn1 : decide (N < 0) = true := decide_eq_true hN1
          go_upto_region 15 with fail
          have hrow2 := heap_setCell_same wA hb1 2 _ _ (.int .i64 1) hrow
          have hbz := HBA.out.trans ((put_below8 wA _ hb1 2 (.int .i64 1) (Nat.le_of_eq hhb)))
          obtain ⟨wZ, hwZ⟩ : ∃ wZ, wA.setCell ⟨hb1, 2, none⟩ (.int .i64 1) = wZ := ⟨_, rfl⟩
          rw [hwZ] at hrow2 hbz ⊢
          have HBZ := Lib.hid hbz
          clear hwZ hrow hbz z0 z1 z2 z3 zf
          replace hrow2 : wZ.heap[hb1]? = some (.cells #[.int .i64 op, .slice ba' bn' bc', .int .i64 1, .slice ka' kn' kc'] 63 (0, 0)) := hrow2
          obtain ⟨z0, z1, z2, z3⟩ := cells4 hrow2
          clear hrow2
          go_wp2_with fail
          refine (wstep_any C OK.out w0 wZ (2 * k) L (HP.out.keep HBZ.out) (by omega) op 1 ba' bn' bc' _ ka' kn' kc' _ HRB.out HRK.out hbn hkn2 (by omega) (by omega)).mono ?_
          rintro e w5 ⟨rfl, L', hS⟩
          have HS := Lib.hid (hS.later (show 2 * k + 2 ≤ 2 * (k + 1) by omega))
          clear hS
          go_wp2_with fail
          go_roundw
          case rel => exact ⟨k + 1, L', by omega, by go_num, HS⟩
          case measure => simp [intOf] <;> omega
        have dn1 : decide (N < 0) = false := decide_eq_false hN1
        by_cases hN2 : 100 < N
        · have dn2 : decide (100 < N) = true := decide_eq_true hN2
          go_upto_region 15 with fail
          have hrow2 := heap_setCell_same wA hb1 2 _ _ (.int .i64 1) hrow
          have hbz := HBA.out.trans ((put_below8 wA _ hb1 2 (.int .i64 1) (Nat.le_of_eq hhb)))
          obtain ⟨wZ, hwZ⟩ : ∃ wZ, wA.setCell ⟨hb1, 2, none⟩ (.int .i64 1) = wZ := ⟨_, rfl⟩
          rw [hwZ] at hrow2 hbz ⊢
          have HBZ := Lib.hid hbz
          clear hwZ hrow hbz z0 z1 z2 z3 zf
          replace hrow2 : wZ.heap[hb1]? = some (.cells #[.int .i64 op, .slice ba' bn' bc', .int .i64 1, .slice ka' kn' kc'] 63 (0, 0)) := hrow2
          obtain ⟨z0, z1, z2, z3⟩ := cells4 hrow2
          clear hrow2
          go_wp2_with fail
          refine (wstep_any C OK.out w0 wZ (2 * k) L (HP.out.keep HBZ.out) (by omega) op 1 ba' bn' bc' _ ka' kn' kc' _ HRB.out HRK.out hbn hkn2 (by omega) (by omega)).mono ?_
          rintro e w5 ⟨rfl, L', hS⟩
          have HS := Lib.hid (hS.later (show 2 * k + 2 ≤ 2 * (k + 1) by omega))
          clear hS
          go_wp2_with fail
          go_roundw
          case rel => exact ⟨k + 1, L', by omega, by go_num, HS⟩
          case measure => simp [intOf] <;> omega
        have dn2 : decide (100 < N) = false := decide_eq_false hN2
        clear hrow
        go_wp2_with fail
        refine (wstep_any C OK.out w0 wA (2 * k) L (HP.out.keep HBA.out) (by omega) op N ba' bn' bc' _ ka' kn' kc' _ HRB.out HRK.out hbn hkn2 (by omega) (by omega)).mono ?_
        rintro e w5 ⟨rfl, L', hS⟩
        have HS := Lib.hid (hS.later (show 2 * k + 2 ≤ 2 * (k + 1) by omega))
        clear hS
        go_wp2_with fail
        go_roundw
        case rel => exact ⟨k + 1, L', by omega, by go_num, HS⟩
        case measure => simp [intOf] <;> omega
      · have d5 : decide ((k : Int) < nl) = false := decide_eq_false (by omega)
        go_wp2_with fail
        go_meet
        case rel => exact ⟨L, HP.out.later (by omega)⟩
  case rest =>
    obtain ⟨L, hpl⟩ := hcut
    obtain ⟨Q, r, st, J, lv, mv, may, ma, hp⟩ := hpl.steady
    clear hpl HP0 d
    obtain ⟨y0, y1, y2, y3, y4, y5, y6, y7, y8, yf⟩ := plcells hp.row
    have PR := Lib.hid hp
    clear hp
    go_wp2_with fail
    refine PR.out.flush.mono ?_
    rintro e w4 ⟨rfl, hp4⟩
    obtain ⟨Z, hpd, _⟩ := hp4.disk
    have PD := Lib.hid hpd
    have HOF4 := Lib.hid hp4.off
    clear hp4 hpd y0 y1 y2 y3 y4 y5 y6 y7 y8 yf
    obtain ⟨y0, y1, y2, y3, y4, y5, y6, y7, y8, yf⟩ := plcells PD.out.row
    rw [hCn] at y3
    obtain ⟨x, hx⟩ : ∃ x, a3.tmod (n : Int) = x := ⟨_, rfl⟩
    have hx2 : -(n : Int) < x ∧ x < n := by
        have h1 := Int.tmod_lt_of_pos a3 (show (0 : Int) < n by omega)
        have h2 := Int.lt_tmod_of_pos a3 (show (0 : Int) < n by omega)
        omega
    have dz : ((n : Int) == 0) = false := by rw [beq_eq_false_iff_ne]; omega
    have dz2 : ¬ (n : Int) = 0 := by omega
    have dz3 : ¬ n = 0 := by omega
    go_upto_region 19 with fail
    clear hx
    by_cases hx0 : x < 0
    · obtain ⟨sec, hsec⟩ : ∃ sec : Nat, x + (n : Int) = sec := Int.eq_ofNat_of_zero_le (by omega)
      have dx : decide (x < 0) = true := decide_eq_true hx0
      have exn : wrap64 (x + (n : Int)) = (sec : Int) := by rw [hsec]; unfold wrap64; omega
      go_upto_region 21 with fail
      have e9 : wrap64 (2 + (sec : Int)) = ((2 + sec : Nat) : Int) := by unfold wrap64; omega
      go_wp2_with fail
      refine (PD.out.burst OK.out HOF4.out (by omega) sec (by rw [hCn]; omega) a4 pat t1).mono ?_
      rintro e w5 ⟨⟨bb, rfl⟩, Z5, st5, hbu⟩
      have BU := Lib.hid hbu
      clear hbu y0 y1 y2 y3 y4 y5 y6 y7 y8 yf
      obtain ⟨y0, y1, y2, y3, y4, y5, y6, y7, y8, yf⟩ := plcells BU.out.row
      have HOP := Lib.hid (BU.out.opn OK.out)
      rw [hCn] at HOP
      go_wp2_with fail
      refine HOP.out.mono ?_
      rintro e w6 (⟨v, rfl, hf6, hb6⟩ | ⟨r6, a6, m6, c6, rfl, hrd6, hbo⟩)
      · obtain ⟨g8, rfl, hc8⟩ := hf6
        have HIS := Lib.hid (is_fail g8 20 w6 hc8)
        have B6 := Lib.hid hb6
        clear hb6 y0 y1 y2 y3 y4 y5 y6 y7 y8 yf
        go_wp2_with (first | (go_at_call 23; refine HIS.out.mono ?_; rintro e w9 ⟨rfl, rfl⟩))
        go_ret
        exact ⟨rfl, B6.out⟩
      · clear y0 y1 y2 y3 y4 y5 y6 y7 y8 yf
        have BO := Lib.hid hbo
        have HR6 := Lib.hid hrd6
        have hm6 : m6 ≤ 60 := by rw [← hrd6.len]; exact PD.out.len60 OK.out
        clear hbo hrd6
        obtain ⟨am, mm, cm, em, hrm⟩ := BO.out.rows
        obtain rfl : lv = .slice am mm cm := em
        have HRM := Lib.hid hrm
        clear hrm
        go_wp2_with fail
        have dd : (J.h.first == J.h.first) = true := beq_self_eq_true _
        refine' reg_free (G := Kept) (pickF [eqV _, eqV _, eqV _, eqV _, eqV _, eqV _, eqV _, eqV _, eqV _, eqV _, eqV _, eqV _, eqV _, eqV _, eqV _, eqV _, eqV _, eqV _, eqV _, eqV _]) [112, 113, 114, 115, 116, 117, 118, 119, 120, 121, 122, 123, 124, 125, 126, 127, 128, 129, 130, 12] [[], [0], [1], [2], [2], [2, 4], [2, 5], [2, 6], [2, 3, 7], [2, 8], [9], [10], [10, 11], [10], [10, 13], [10, 14], [10, 15], [10, 12, 16], [10, 17], [18]] [0, 1, 2, 3, 4, 5, 6, 7, 8, 9, 10, 11, 12, 13, 14, 15, 16, 17, 18, 19] (by kernel_rfl) Kept.refl Kept.trans (pick_stays ⟨eqV_stays _, eqV_stays _, eqV_stays _, eqV_stays _, eqV_stays _, eqV_stays _, eqV_stays _, eqV_stays _, eqV_stays _, eqV_stays _, eqV_stays _, eqV_stays _, eqV_stays _, eqV_stays _, eqV_stays _, eqV_stays _, eqV_stays _, eqV_stays _, eqV_stays _, eqV_stays _, trivial⟩) 131 rfl (by kernel_rfl) (by kernel_rfl) rfl rfl ?r1obl ?r1fin
        case r1obl =>
          refine And.intro ?r1o0 (And.intro ?r1o1 (And.intro ?r1o2 (And.intro ?r1o3 (And.intro ?r1o4 (And.intro ?r1o5 (And.intro ?r1o6 (And.intro ?r1o7 (And.intro ?r1o8 (And.intro ?r1o9 (And.intro ?r1o10 (And.intro ?r1o11 (And.intro ?r1o12 (And.intro ?r1o13 (And.intro ?r1o14 (And.intro ?r1o15 (And.intro ?r1o16 (And.intro ?r1o17 (And.intro ?r1o18 (And.intro ?r1o19 (True.intro))))))))))))))))))))
          case r1o0 =>
            intro w1 hG
            refine turn_on (by rfl) ?_
            intro K hK
            go_simp
            refine hK _ _ ⟨rfl, Kept.refl _, ?_⟩
            show _ = _
            simp only [gv1]
            rfl
          case r1o1 =>
            intro w1 hG
            intro v0 h0
            change _ = _ at h0
            subst h0
            refine turn_on (by rfl) ?_
            intro K hK
            simp only [gv2]
            go_simp
            refine hK _ _ ⟨rfl, Kept.refl _, ?_⟩
            show _ = _
            simp only [gv1]
            rfl
          case r1o2 =>
            intro w1 hG
            intro v1 h1
            change _ = _ at h1
            subst h1
            refine turn_on (by rfl) ?_
            intro K hK
            simp only [gv2]
            go_simp
            refine hK _ _ ⟨rfl, Kept.refl _, ?_⟩
            show _ = _
            simp only [gv1]
            rfl
          case r1o3 =>
            intro w1 hG
            intro v2 h2
            change _ = _ at h2
            subst h2
            refine turn_on (by rfl) ?_
            intro K hK
            simp only [gv2]
            go_simp
            refine hK _ _ ⟨rfl, Kept.refl _, ?_⟩
            show _ = _
            simp only [gv1]
            rfl
          case r1o4 =>
            intro w1 hG
            intro v2 h2
            change _ = _ at h2
            subst h2
            refine turn_on (by rfl) ?_
            intro K hK
            simp only [gv2]
            go_simp
            refine hK _ _ ⟨rfl, Kept.refl _, ?_⟩
            show _ = _
            simp only [gv1]
            rfl
          case r1o5 =>
            intro w1 hG
            intro v2 h2
            change _ = _ at h2
            subst h2
            intro v4 h4
            change _ = _ at h4
            subst h4
            refine turn_on (by rfl) ?_
            intro K hK
            simp only [gv2]
            go_simp
            refine hK _ _ ⟨rfl, Kept.refl _, ?_⟩
            show _ = _
            simp only [gv1]
            rfl
          case r1o6 =>
            intro w1 hG
            intro v2 h2
            change _ = _ at h2
            subst h2
            intro v5 h5
            change _ = _ at h5
            subst h5
            refine turn_on (by rfl) ?_
            intro K hK
            simp only [gv2]
            go_simp
            refine hK _ _ ⟨rfl, Kept.refl _, ?_⟩
            show _ = _
            simp only [gv1]
            rfl
          case r1o7 =>
            intro w1 hG
            intro v2 h2
            change _ = _ at h2
            subst h2
            intro v6 h6
            change _ = _ at h6
            subst h6
            refine turn_on (by rfl) ?_
            intro K hK
            simp only [gv2]
            have PR := BO.out.more (kept_undrew hG)
            obtain ⟨y0, y1, y2, y3, y4, y5, y6, y7, y8, yf⟩ := plcells PR.row
            go_simp
            refine hK _ _ ⟨rfl, Kept.refl _, ?_⟩
            show _ = _
            simp only [gv1]
            rfl
          case r1o8 =>
            intro w1 hG
            intro v2 h2
            change _ = _ at h2
            subst h2
            intro v3 h3
            change _ = _ at h3
            subst h3
            intro v7 h7
            change _ = _ at h7
            subst h7
            refine turn_on (by rfl) ?_
            intro K hK
            simp only [gv2]
            go_simp
            refine Calls.mono (rows_yes _ _ _ _ _ _ L _ _ w1 (HR6.out.below (kept_undrew hG)) (HRM.out.below (kept_undrew hG)) (by omega)) ?_
            rintro e w2 ⟨rfl, hbb⟩
            refine hK _ _ ⟨rfl, hbb, ?_⟩
            show _ = _
            simp only [gv1]
            rfl
          case r1o9 =>
            intro w1 hG
            intro v2 h2
            change _ = _ at h2
            subst h2
            intro v8 h8
            change _ = _ at h8
            subst h8
            refine turn_on (by rfl) ?_
            intro K hK
            simp only [gv2]
            go_simp
            refine hK _ _ ⟨rfl, Kept.refl _, ?_⟩
            show _ = _
            simp only [gv1]
            rfl
          case r1o10 =>
            intro w1 hG
            intro v9 h9
            change _ = _ at h9
            subst h9
            refine turn_on (by rfl) ?_
            intro K hK
            simp only [gv2]
            go_simp
            refine hK _ _ ⟨rfl, Kept.refl _, ?_⟩
            show _ = _
            simp only [gv1]
            rfl
          case r1o11 =>
            intro w1 hG
            intro v10 h10
            change _ = _ at h10
            subst h10
            refine turn_on (by rfl) ?_
            intro K hK
            simp only [gv2]
            go_simp
            refine hK _ _ ⟨rfl, Kept.refl _, ?_⟩
            show _ = _
            simp only [gv1]
            rfl
          case r1o12 =>
            intro w1 hG
            intro v10 h10
            change _ = _ at h10
            subst h10
            intro v11 h11
            change _ = _ at h11
            subst h11
            refine turn_on (by rfl) ?_
            intro K hK
            simp only [gv2]
            have PR := BO.out.more (kept_undrew hG)
            go_simp
            refine Calls.mono PR.firstC ?_
            rintro e w2 ⟨rfl, rfl⟩
            refine hK _ _ ⟨rfl, Kept.refl _, ?_⟩
            show _ = _
            simp only [gv1]
            rfl
          case r1o13 =>
            intro w1 hG
            intro v10 h10
            change _ = _ at h10
            subst h10
            refine turn_on (by rfl) ?_
            intro K hK
            simp only [gv2]
            go_simp
            refine hK _ _ ⟨rfl, Kept.refl _, ?_⟩
            show _ = _
            simp only [gv1]
            rfl
          case r1o14 =>
            intro w1 hG
            intro v10 h10
            change _ = _ at h10
            subst h10
            intro v13 h13
            change _ = _ at h13
            subst h13
            refine turn_on (by rfl) ?_
            intro K hK
            simp only [gv2]
            go_simp
            refine hK _ _ ⟨rfl, Kept.refl _, ?_⟩
            show _ = _
            simp only [gv1]
            rfl
          case r1o15 =>
            intro w1 hG
            intro v10 h10
            change _ = _ at h10
            subst h10
            intro v14 h14
            change _ = _ at h14
            subst h14
            refine turn_on (by rfl) ?_
            intro K hK
            simp only [gv2]
            go_simp
            refine hK _ _ ⟨rfl, Kept.refl _, ?_⟩
            show _ = _
            simp only [gv1]
            rfl
          case r1o16 =>
            intro w1 hG
            intro v10 h10
            change _ = _ at h10
            subst h10
            intro v15 h15
            change _ = _ at h15
            subst h15
            refine turn_on (by rfl) ?_
            intro K hK
            simp only [gv2]
            have PR := BO.out.more (kept_undrew hG)
            obtain ⟨y0, y1, y2, y3, y4, y5, y6, y7, y8, yf⟩ := plcells PR.row
            go_simp
            refine hK _ _ ⟨rfl, Kept.refl _, ?_⟩
            show _ = _
            simp only [gv1]
            rfl
          case r1o17 =>
            intro w1 hG
            intro v10 h10
            change _ = _ at h10
            subst h10
            intro v12 h12
            change _ = _ at h12
            subst h12
            intro v16 h16
            change _ = _ at h16
            subst h16
            refine turn_on (by rfl) ?_
            intro K hK
            simp only [gv2]
            go_simp
            refine hK _ _ ⟨rfl, Kept.refl _, ?_⟩
            show _ = _
            simp only [gv1]
            rfl
          case r1o18 =>
            intro w1 hG
            intro v10 h10
            change _ = _ at h10
            subst h10
            intro v17 h17
            change _ = _ at h17
            subst h17
            refine turn_on (by rfl) ?_
            intro K hK
            simp only [gv2]
            go_simp
            refine hK _ _ ⟨rfl, Kept.refl _, ?_⟩
            show _ = _
            simp only [gv1]
            rfl
          case r1o19 =>
            intro w1 hG
            intro v18 h18
            change _ = _ at h18
            subst h18
            refine turn_on (by rfl) ?_
            intro K hK
            simp only [gv2]
            go_simp
            refine hK _ _ ⟨rfl, Kept.refl _, ?_⟩
            show _ = _
            simp only [gv1]
            rfl
        intro w1 hG
        intro v0 h0
        change _ = _ at h0
        subst h0
        intro v1 h1
        change _ = _ at h1
        subst h1
        intro v2 h2
        change _ = _ at h2
        subst h2
        intro v3 h3
        change _ = _ at h3
        subst h3
        intro v4 h4
        change _ = _ at h4
        subst h4
        intro v5 h5
        change _ = _ at h5
        subst h5
        intro v6 h6
        change _ = _ at h6
        subst h6
        intro v7 h7
        change _ = _ at h7
        subst h7
        intro v8 h8
        change _ = _ at h8
        subst h8
        intro v9 h9
        change _ = _ at h9
        subst h9
        intro v10 h10
        change _ = _ at h10
        subst h10
        intro v11 h11
        change _ = _ at h11
        subst h11
        intro v12 h12
        change _ = _ at h12
        subst h12
        intro v13 h13
        change _ = _ at h13
        subst h13
        intro v14 h14
        change _ = _ at h14
        subst h14
        intro v15 h15
        change _ = _ at h15
        subst h15
        intro v16 h16
        change _ = _ at h16
        subst h16
        intro v17 h17
        change _ = _ at h17
        subst h17
        intro v18 h18
        change _ = _ at h18
        subst h18
        intro v19 h19
        change _ = _ at h19
        subst h19
        simp only [Given, gv2]
        have BZ := Lib.hid (BO.out.more (kept_undrew hG)).below
        go_wp2_with fail
        go_ret
        exact ⟨rfl, BZ.out⟩
    · obtain ⟨sec, rfl⟩ : ∃ sec : Nat, x = sec := Int.eq_ofNat_of_zero_le (by omega)
      have dx : decide ((sec : Int) < 0) = false := decide_eq_false hx0
      go_upto_region 21 with fail
      have e9 : wrap64 (2 + (sec : Int)) = ((2 + sec : Nat) : Int) := by unfold wrap64; omega
      go_wp2_with fail
      refine (PD.out.burst OK.out HOF4.out (by omega) sec (by rw [hCn]; omega) a4 pat t1).mono ?_
      rintro e w5 ⟨⟨bb, rfl⟩, Z5, st5, hbu⟩
      have BU := Lib.hid hbu
      clear hbu y0 y1 y2 y3 y4 y5 y6 y7 y8 yf
      obtain ⟨y0, y1, y2, y3, y4, y5, y6, y7, y8, yf⟩ := plcells BU.out.row
      have HOP := Lib.hid (BU.out.opn OK.out)
      rw [hCn] at HOP
      go_wp2_with fail
      refine HOP.out.mono ?_
      rintro e w6 (⟨v, rfl, hf6, hb6⟩ | ⟨r6, a6, m6, c6, rfl, hrd6, hbo⟩)
      · obtain ⟨g8, rfl, hc8⟩ := hf6
        have HIS := Lib.hid (is_fail g8 20 w6 hc8)
        have B6 := Lib.hid hb6
        clear hb6 y0 y1 y2 y3 y4 y5 y6 y7 y8 yf
        go_wp2_with (first | (go_at_call 23; refine HIS.out.mono ?_; rintro e w9 ⟨rfl, rfl⟩))
        go_ret
        exact ⟨rfl, B6.out⟩
      · clear y0 y1 y2 y3 y4 y5 y6 y7 y8 yf
        have BO := Lib.hid hbo
        have HR6 := Lib.hid hrd6
        have hm6 : m6 ≤ 60 := by rw [← hrd6.len]; exact PD.out.len60 OK.out
        clear hbo hrd6
        obtain ⟨am, mm, cm, em, hrm⟩ := BO.out.rows
        obtain rfl : lv = .slice am mm cm := em
        have HRM := Lib.hid hrm
        clear hrm
        go_wp2_with fail
        have dd : (J.h.first == J.h.first) = true := beq_self_eq_true _
        refine' reg_free (G := Kept) (pickF [eqV _, eqV _, eqV _, eqV _, eqV _, eqV _, eqV _, eqV _, eqV _, eqV _, eqV _, eqV _, eqV _, eqV _, eqV _, eqV _, eqV _, eqV _, eqV _, eqV _]) [112, 113, 114, 115, 116, 117, 118, 119, 120, 121, 122, 123, 124, 125, 126, 127, 128, 129, 130, 12] [[], [0], [1], [2], [2], [2, 4], [2, 5], [2, 6], [2, 3, 7], [2, 8], [9], [10], [10, 11], [10], [10, 13], [10, 14], [10, 15], [10, 12, 16], [10, 17], [18]] [0, 1, 2, 3, 4, 5, 6, 7, 8, 9, 10, 11, 12, 13, 14, 15, 16, 17, 18, 19] (by kernel_rfl) Kept.refl Kept.trans (pick_stays ⟨eqV_stays _, eqV_stays _, eqV_stays _, eqV_stays _, eqV_stays _, eqV_stays _, eqV_stays _, eqV_stays _, eqV_stays _, eqV_stays _, eqV_stays _, eqV_stays _, eqV_stays _, eqV_stays _, eqV_stays _, eqV_stays _, eqV_stays _, eqV_stays _, eqV_stays _, eqV_stays _, trivial⟩) 131 rfl (by kernel_rfl) (by kernel_rfl) rfl rfl ?r2obl ?r2fin
        case r2obl =>
          refine And.intro ?r2o0 (And.intro ?r2o1 (And.intro ?r2o2 (And.intro ?r2o3 (And.intro ?r2o4 (And.intro ?r2o5 (And.intro ?r2o6 (And.intro ?r2o7 (And.intro ?r2o8 (And.intro ?r2o9 (And.intro ?r2o10 (And.intro ?r2o11 (And.intro ?r2o12 (And.intro ?r2o13 (And.intro ?r2o14 (And.intro ?r2o15 (And.intro ?r2o16 (And.intro ?r2o17 (And.intro ?r2o18 (And.intro ?r2o19 (True.intro))))))))))))))))))))
          case r2o0 =>
            intro w1 hG
            refine turn_on (by rfl) ?_
            intro K hK
            go_simp
            refine hK _ _ ⟨rfl, Kept.refl _, ?_⟩
            show _ = _
            simp only [gv1]
            rfl
          case r2o1 =>
            intro w1 hG
            intro v0 h0
            change _ = _ at h0
            subst h0
            refine turn_on (by rfl) ?_
            intro K hK
            simp only [gv2]
            go_simp
            refine hK _ _ ⟨rfl, Kept.refl _, ?_⟩
            show _ = _
            simp only [gv1]
            rfl
          case r2o2 =>
            intro w1 hG
            intro v1 h1
            change _ = _ at h1
            subst h1
            refine turn_on (by rfl) ?_
            intro K hK
            simp only [gv2]
            go_simp
            refine hK _ _ ⟨rfl, Kept.refl _, ?_⟩
            show _ = _
            simp only [gv1]
            rfl
          case r2o3 =>
            intro w1 hG
            intro v2 h2
            change _ = _ at h2
            subst h2
            refine turn_on (by rfl) ?_
            intro K hK
            simp only [gv2]
            go_simp
            refine hK _ _ ⟨rfl, Kept.refl _, ?_⟩
            show _ = _
            simp only [gv1]
            rfl
          case r2o4 =>
            intro w1 hG
            intro v2 h2
            change _ = _ at h2
            subst h2
            refine turn_on (by rfl) ?_
            intro K hK
            simp only [gv2]
            go_simp
            refine hK _ _ ⟨rfl, Kept.refl _, ?_⟩
            show _ = _
            simp only [gv1]
            rfl
          case r2o5 =>
            intro w1 hG
            intro v2 h2
            change _ = _ at h2
            subst h2
            intro v4 h4
            change _ = _ at h4
            subst h4
            refine turn_on (by rfl) ?_
            intro K hK
            simp only [gv2]
            go_simp
            refine hK _ _ ⟨rfl, Kept.refl _, ?_⟩
            show _ = _
            simp only [gv1]
            rfl
          case r2o6 =>
            intro w1 hG
            intro v2 h2
            change _ = _ at h2
            subst h2
            intro v5 h5
            change _ = _ at h5
            subst h5
            refine turn_on (by rfl) ?_
            intro K hK
            simp only [gv2]
            go_simp
            refine hK _ _ ⟨rfl, Kept.refl _, ?_⟩
            show _ = _
            simp only [gv1]
            rfl
          case r2o7 =>
            intro w1 hG
            intro v2 h2
            change _ = _ at h2
            subst h2
            intro v6 h6
            change _ = _ at h6
            subst h6
            refine turn_on (by rfl) ?_
            intro K hK
            simp only [gv2]
            have PR := BO.out.more (kept_undrew hG)
            obtain ⟨y0, y1, y2, y3, y4, y5, y6, y7, y8, yf⟩ := plcells PR.row
            go_simp
            refine hK _ _ ⟨rfl, Kept.refl _, ?_⟩
            show _ = _
            simp only [gv1]
            rfl
          case r2o8 =>
            intro w1 hG
            intro v2 h2
            change _ = _ at h2
            subst h2
            intro v3 h3
            change _ = _ at h3
            subst h3
            intro v7 h7
            change _ = _ at h7
            subst h7
            refine turn_on (by rfl) ?_
            intro K hK
            simp only [gv2]
            go_simp
            refine Calls.mono (rows_yes _ _ _ _ _ _ L _ _ w1 (HR6.out.below (kept_undrew hG)) (HRM.out.below (kept_undrew hG)) (by omega)) ?_
            rintro e w2 ⟨rfl, hbb⟩
            refine hK _ _ ⟨rfl, hbb, ?_⟩
            show _ = _
            simp only [gv1]
            rfl
          case r2o9 =>
            intro w1 hG
            intro v2 h2
            change _ = _ at h2
            subst h2
            intro v8 h8
            change _ = _ at h8
            subst h8
            refine turn_on (by rfl) ?_
            intro K hK
            simp only [gv2]
            go_simp
            refine hK _ _ ⟨rfl, Kept.refl _, ?_⟩
            show _ = _
            simp only [gv1]
            rfl
          case r2o10 =>
            intro w1 hG
            intro v9 h9
            change _ = _ at h9
            subst h9
            refine turn_on (by rfl) ?_
            intro K hK
            simp only [gv2]
            go_simp
            refine hK _ _ ⟨rfl, Kept.refl _, ?_⟩
            show _ = _
            simp only [gv1]
            rfl
          case r2o11 =>
            intro w1 hG
            intro v10 h10
            change _ = _ at h10
            subst h10
            refine turn_on (by rfl) ?_
            intro K hK
            simp only [gv2]
            go_simp
            refine hK _ _ ⟨rfl, Kept.refl _, ?_⟩
            show _ = _
            simp only [gv1]
            rfl
          case r2o12 =>
            intro w1 hG
            intro v10 h10
            change _ = _ at h10
            subst h10
            intro v11 h11
            change _ = _ at h11
            subst h11
            refine turn_on (by rfl) ?_
            intro K hK
            simp only [gv2]
            have PR := BO.out.more (kept_undrew hG)
            go_simp
            refine Calls.mono PR.firstC ?_
            rintro e w2 ⟨rfl, rfl⟩
            refine hK _ _ ⟨rfl, Kept.refl _, ?_⟩
            show _ = _
            simp only [gv1]
            rfl
          case r2o13 =>
            intro w1 hG
            intro v10 h10
            change _ = _ at h10
            subst h10
            refine turn_on (by rfl) ?_
            intro K hK
            simp only [gv2]
            go_simp
            refine hK _ _ ⟨rfl, Kept.refl _, ?_⟩
            show _ = _
            simp only [gv1]
            rfl
          case r2o14 =>
            intro w1 hG
            intro v10 h10
            change _ = _ at h10
            subst h10
            intro v13 h13
            change _ = _ at h13
            subst h13
            refine turn_on (by rfl) ?_
            intro K hK
            simp only [gv2]
            go_simp
            refine hK _ _ ⟨rfl, Kept.refl _, ?_⟩
            show _ = _
            simp only [gv1]
            rfl
          case r2o15 =>
            intro w1 hG
            intro v10 h10
            change _ = _ at h10
            subst h10
            intro v14 h14
            change _ = _ at h14
            subst h14
            refine turn_on (by rfl) ?_
            intro K hK
            simp only [gv2]
            go_simp
            refine hK _ _ ⟨rfl, Kept.refl _, ?_⟩
            show _ = _
            simp only [gv1]
            rfl
          case r2o16 =>
            intro w1 hG
            intro v10 h10
            change _ = _ at h10
            subst h10
            intro v15 h15
            change _ = _ at h15
            subst h15
            refine turn_on (by rfl) ?_
            intro K hK
            simp only [gv2]
            have PR := BO.out.more (kept_undrew hG)
            obtain ⟨y0, y1, y2, y3, y4, y5, y6, y7, y8, yf⟩ := plcells PR.row
            go_simp
            refine hK _ _ ⟨rfl, Kept.refl _, ?_⟩
            show _ = _
            simp only [gv1]
            rfl
          case r2o17 =>
            intro w1 hG
            intro v10 h10
            change _ = _ at h10
            subst h10
            intro v12 h12
            change _ = _ at h12
            subst h12
            intro v16 h16
            change _ = _ at h16
            subst h16
            refine turn_on (by rfl) ?_
            intro K hK
            simp only [gv2]
            go_simp
            refine hK _ _ ⟨rfl, Kept.refl _, ?_⟩
            show _ = _
            simp only [gv1]
            rfl
          case r2o18 =>
            intro w1 hG
            intro v10 h10
            change _ = _ at h10
            subst h10
            intro v17 h17
            change _ = _ at h17
            subst h17
            refine turn_on (by rfl) ?_
            intro K hK
            simp only [gv2]
            go_simp
            refine hK _ _ ⟨rfl, Kept.refl _, ?_⟩
            show _ = _
            simp only [gv1]
            rfl
          case r2o19 =>
            intro w1 hG
            intro v18 h18
            change _ = _ at h18
            subst h18
            refine turn_on (by rfl) ?_
            intro K hK
            simp only [gv2]
            go_simp
            refine hK _ _ ⟨rfl, Kept.refl _, ?_⟩
            show _ = _
            simp only [gv1]
            rfl
        intro w1 hG
        intro v0 h0
        change _ = _ at h0
        subst h0
        intro v1 h1
        change _ = _ at h1
        subst h1
        intro v2 h2
        change _ = _ at h2
        subst h2
        intro v3 h3
        change _ = _ at h3
        subst h3
        intro v4 h4
        change _ = _ at h4
        subst h4
        intro v5 h5
        change _ = _ at h5
        subst h5
        intro v6 h6
        change _ = _ at h6
        subst h6
        intro v7 h7
        change _ = _ at h7
        subst h7
        intro v8 h8
        change _ = _ at h8
        subst h8
        intro v9 h9
        change _ = _ at h9
        subst h9
        intro v10 h10
        change _ = _ at h10
        subst h10
        intro v11 h11
        change _ = _ at h11
        subst h11
        intro v12 h12
        change _ = _ at h12
        subst h12
        intro v13 h13
        change _ = _ at h13
        subst h13
        intro v14 h14
        change _ = _ at h14
        subst h14
        intro v15 h15
        change _ = _ at h15
        subst h15
        intro v16 h16
        change _ = _ at h16
        subst h16
        intro v17 h17
        change _ = _ at h17
        subst h17
        intro v18 h18
        change _ = _ at h18
        subst h18
        intro v19 h19
        change _ = _ at h19
        subst h19
        simp only [Given, gv2]
        have BZ := Lib.hid (BO.out.more (kept_undrew hG)).below
        go_wp2_with fail
        go_ret
        exact ⟨rfl, BZ.out⟩
end Go.Proofs.Ytlhpdkapddnbcaa

namespace Go.Proofs.Ytlhpdkapddnbcaa.ringBursts
open Go.ChangeShapes Go.WideShapes Go.ChangeAt Go.RowKit
set_option linter.unusedVariables false

set_option maxRecDepth 100000 in
theorem own : ownKnob Try.prog.godebug = none := by kernel_rfl
set_option maxRecDepth 100000 in
theorem laidOut : laidOutB Try.prog = true := by kernel_rfl

set_option maxRecDepth 100000 in
theorem lifted (os : Os) (started : os.Started) (H : Type) (enc : TypeId × Value → H) (F : Stop.Interp) :
    ReturnsInHanded {} Try.checked os 8 .any ((Rows.OpenSpec.upto Rows.ringBurstsSpec).pre6 enc Try.prog Try.f8 Rows.ringBurstsUptoRow.domain false) (((Rows.OpenSpec.upto Rows.ringBurstsSpec).at F).post enc Try.prog Try.f8 false true false false) := by
  refine returnsInHanded_of_cond (C := Try.checked) (s := Rows.OpenSpec.upto Rows.ringBurstsSpec) (k := Rows.uptoSmall) rfl own started (by kernel_rfl) Try.func8
    (OpenSpec.witness (enc := enc) (C := Try.checked) (s := Rows.OpenSpec.upto Rows.ringBurstsSpec) (k := Rows.uptoSmall) rfl false ⟨#[], #[.int .i64 0, .int .i64 0, .slice none 0 0, .int .i64 0, .int .i64 0, .int .u32 0], []⟩ 8 (by kernel_rfl) (by kernel_rfl) (by kernel_rfl)
      (x := ([.lit (.int .i64 0), .lit (.int .i64 0), .nil, .lit (.int .i64 0), .lit (.int .i64 0), .lit (.int .u32 0)], [], [])) (by kernel_rfl) rfl (by kernel_rfl)) ?_
  intro W base args ds gs before hval0 hW hcnd hk _
  have hval : ∀ (j : Nat) t v, Try.f8.params[j]? = some t → args[j]? = some v → Value.okWide Try.prog W .any base t v := hval0
  have hW' := hW
  obtain ⟨p, q, hA0, hV, rfl, hfz, hnd⟩ := hW
  have hA : DataW.TrodAll enc Try.prog W 0 (fun _ => true) true Try.f8.params.toList args.toList ds p := hA0
  rw [Try.params8] at hA hval
  obtain ⟨v0, vs0, d0, ds0, p0, q0, hargs, rfl, rfl, h0, r0⟩ := trodAll_cons hA
  obtain ⟨v1, vs1, d1, ds1, p1, q1, rfl, rfl, rfl, h1, r1⟩ := trodAll_cons r0
  obtain ⟨v2, vs2, d2, ds2, p2, q2, rfl, rfl, rfl, h2, r2⟩ := trodAll_cons r1
  obtain ⟨v3, vs3, d3, ds3, p3, q3, rfl, rfl, rfl, h3, r3⟩ := trodAll_cons r2
  obtain ⟨v4, vs4, d4, ds4, p4, q4, rfl, rfl, rfl, h4, r4⟩ := trodAll_cons r3
  obtain ⟨v5, vs5, d5, ds5, p5, q5, rfl, rfl, rfl, h5, r5⟩ := trodAll_cons r4
  obtain ⟨rfl, rfl, rfl⟩ := trodAll_nil r5
  obtain rfl : args = #[v0, v1, v2, v3, v4, v5] := by cases args; simp_all
  obtain ⟨rfl, rfl⟩ := trodVars_none hV
  obtain ⟨a0, rfl, rfl, rfl, w0⟩ := open_int Try.underlying3 (hval 0 3 v0 rfl rfl) h0
  obtain ⟨a1, rfl, rfl, rfl, w1⟩ := open_int Try.underlying3 (hval 1 3 v1 rfl rfl) h1
  obtain ⟨a2, len2, cap2, rfl⟩ := okWide_slice Try.underlying60 (hval 2 60 v2 rfl rfl)
  have k2 := h2
  have lt2 : ∀ x ∈ p2, x.block < W.heap.size := by obtain ⟨m, hm⟩ := k2; exact DataW.trod_lt m _ _ _ hm
  obtain ⟨z2, w2, y2⟩ := ras_open h2
  obtain ⟨a3, rfl, rfl, rfl, w3⟩ := open_int Try.underlying3 (hval 3 3 v3 rfl rfl) h3
  obtain ⟨a4, rfl, rfl, rfl, w4⟩ := open_int Try.underlying3 (hval 4 3 v4 rfl rfl) h4
  obtain ⟨a5, rfl, rfl, rfl, w5⟩ := open_int Try.underlying71 (hval 5 71 v5 rfl rfl) h5
  have b2 := bulk_part (l := [(.lit (.int .i64 a0)), (.lit (.int .i64 a1)), d2, (.lit (.int .i64 a3)), (.lit (.int .i64 a4)), (.lit (.int .u32 a5))]) (d := d2) (by simp)
  clear hA0 hval0
  refine (ringBursts_walk a0 a1 a2 len2 cap2 z2 a3 a4 a5 W w0 w1 w2 (by have := bulk_bound hk; simp only [List.append_nil] at this; omega) w3 w4 w5).mono fun e W' ⟨he, bel⟩ => ?_
  subst he
  exact ⟨_, rfl, _, _, _, [], _, [], hW', trodAll_mk1 (shut_bool Try.underlying4 _), (trodAll_cons_mk (shut_int Try.underlying3 w0) (trodAll_cons_mk (shut_int Try.underlying3 w1) (trodAll_cons_mk (Below.trod laidOut (by kernel_rfl) (of_decide_eq_true (by kernel_rfl)) k2 bel lt2) (trodAll_cons_mk (shut_int Try.underlying3 w3) (trodAll_cons_mk (shut_int Try.underlying3 w4) (trodAll_cons_mk (shut_int Try.underlying71 w5) trodAll_mk0)))))), rfl, bel.frame _, fun h => by cases h⟩

set_option maxRecDepth 100000 in
theorem over : Rows.ringBurstsUptoRow.holds Try.pinned (Rows.OpenSpec.upto Rows.ringBurstsSpec) :=
  OpenClaim.holds_of_cond 8 Try.f8 rfl rfl rfl rfl rfl rfl rfl ⟨rfl, rfl, rfl, rfl, rfl⟩ rfl rfl rfl rfl rfl (by kernel_rfl) Try.func8 (by kernel_rfl)
    (of_decide_eq_true (by kernel_rfl)) (by unfold Func.isWrapper; first | (rw [if_pos (by decide +kernel)]; kernel_rfl) | (rw [if_neg (by decide +kernel)]; exact ⟨rfl, rfl⟩))
    (fun os started H enc _ F => lifted os started H enc F)

/-- RingBursts holds for every input of a bulk that fits. -/
theorem proved : Rows.RingBurstsUptoSaid := over
end Go.Proofs.Ytlhpdkapddnbcaa.ringBursts
