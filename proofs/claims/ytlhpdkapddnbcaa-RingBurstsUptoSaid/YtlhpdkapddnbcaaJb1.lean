/- ring: a burst within one sector of a journal that holds records: it is found, or nothing is turned. Plain. disk: the chapter's example. The contract of crc.Burst. disk: a burst in a sector. -/
import Derived.Test.YtlhpdkapddnbcaaJk0
import Derived.Test.YtlhpdkapddnbcaaJk15
import Derived.Test.YtlhpdkapddnbcaaJk4
import Derived.Test.YtlhpdkapddnbcaaJk16
import Derived.Test.YtlhpdkapddnbcaaJk1
import Derived.RegionTactic
import Derived.ChangeAlike
namespace Go.Proofs.Ytlhpdkapddnbcaa
open Go.RowKit
theorem recGo_bad {kx : Nat → List Int} {lo n size at0 : Nat} {num : Int} {l : List Int} {j : Nat} (hs : 64 ≤ size) (hn : 0 ≤ num ∧ num ≤ 18446744073709551615) (hl : l.length ≤ recTop) (hN : ndN size l.length ≤ 65536) (hj : j < ndN size l.length) (hk : ∀ i, i < ndN size l.length → i ≠ j → kx (lo + 2 + (at0 + i) % (n - 2)) = ptS size num l i) (hb : openOk (kx (lo + 2 + (at0 + j) % (n - 2))) = false) :
    ∀ (f k len : Nat), ndN size l.length ≤ k + f → k ≤ j → (k = 0 ∨ len = l.length) → recGo kx lo n size at0 num f k len (l.take (k * (size - 18))) = none := by
  intro f
  induction f with
  | zero =>
    intro k len h1 h2 h3
    omega
  | succ f ih =>
    intro k len h1 h2 h3
    have hm : k = 0 ∨ k < ndN size len := by
      rcases h3 with h | h
      · exact .inl h
      · exact .inr (by rw [h]; omega)
    by_cases hkj : k = j
    · subst hkj
      unfold recGo
      rw [if_pos hm]
      unfold recS
      rw [if_neg (by rw [hb]; decide)]
      rfl
    · have hil : k * (size - 18) ≤ l.length := by
        by_cases h0 : k = 0
        · rw [h0, Nat.zero_mul]; exact Nat.zero_le _
        · exact Nat.le_of_lt (nd_lt hs (by omega) (by omega))
      unfold recGo
      rw [if_pos hm, hk k (by omega) hkj, recS_ptS hn (by omega) hl h3 rfl hil]
      exact ih (k + 1) l.length (by omega) (by omega) (.inr rfl)
theorem recF_bad {kx : Nat → List Int} {lo n size at0 most : Nat} {num : Int} {l : List Int} {j : Nat} (hs : 64 ≤ size) (hn : 0 ≤ num ∧ num ≤ 18446744073709551615) (hl : l.length ≤ recTop) (hN : ndN size l.length ≤ 65536) (hm : ndN size l.length ≤ most) (hj : j < ndN size l.length) (hk : ∀ i, i < ndN size l.length → i ≠ j → kx (lo + 2 + (at0 + i) % (n - 2)) = ptS size num l i) (hb : openOk (kx (lo + 2 + (at0 + j) % (n - 2))) = false) :
    recF kx lo n size at0 num most = none := by
  unfold recF
  have h := recGo_bad hs hn hl hN hj hk hb most 0 0 (by omega) (Nat.zero_le _) (.inl rfl)
  rw [Nat.zero_mul, List.take_zero] at h
  exact h
theorem opF_bad {kx kx' : Nat → List Int} {lo n size : Nat} (hs : 64 ≤ size) (hn4 : 4 ≤ n) (hn : n ≤ 65536) : ∀ (L : List (List Int)) (p p' : Nat) (num : Int) (left j : Nat), 0 ≤ num → num + L.length ≤ 18446744073709551615 → p' % (n - 2) = p % (n - 2) → sumN (ksOf size L) ≤ left → left ≤ n - 2 → LieAt kx lo n size p num L → j < sumN (ksOf size L) → (∀ q, q ≠ lo + 2 + (p + j) % (n - 2) → kx' q = kx q) → openOk (kx' (lo + 2 + (p + j) % (n - 2))) = false → opF kx' lo n size L.length p' num left = none
  | [], _, _, _, _, j, _, _, _, _, _, _, hj, _, _ => absurd hj (Nat.not_lt_zero _)
  | l :: r, p, p', num, left, j, h0, h1, hp, hsum, hlf, hL, hj, hk, hb => by
    obtain ⟨a1, a2, a3⟩ := hL
    have hsum' : ndN size l.length + sumN (ksOf size r) ≤ left := hsum
    have hj' : j < ndN size l.length + sumN (ksOf size r) := hj
    have hmodadd : ∀ i, (p' + i) % (n - 2) = (p + i) % (n - 2) := fun i => by rw [Nat.add_mod, hp, ← Nat.add_mod]
    have hoth : ∀ i, i < ndN size l.length + sumN (ksOf size r) → i ≠ j → kx' (lo + 2 + (p + i) % (n - 2)) = kx (lo + 2 + (p + i) % (n - 2)) := fun i hi hne => hk _ (by have := mod_ne (m := n - 2) (p := p) (i := i) (j := j) (by omega) (by omega) hne; omega)
    by_cases hjl : j < ndN size l.length
    · have h2 : recF kx' lo n size p' num left = none := recF_bad (j := j) hs ⟨h0, by simp at h1; omega⟩ a1 (by omega) (by omega) hjl (fun i hi hne => by rw [hmodadd, hoth i (by omega) hne]; exact a2 i hi) (by rw [hmodadd]; exact hb)
      show (recF kx' lo n size p' num left).bind _ = _
      rw [h2]
      rfl
    · have h2 : recF kx' lo n size p' num left = some l := recF_back hs ⟨h0, by simp at h1; omega⟩ a1 (by omega) (by omega) (fun i hi => by rw [hmodadd, hoth i (by omega) (by omega)]; exact a2 i hi)
      obtain ⟨j2, rfl⟩ : ∃ j2, j = ndN size l.length + j2 := ⟨j - ndN size l.length, by omega⟩
      have h3 := opF_bad hs hn4 hn r (p + ndN size l.length) ((p' + ndN size l.length) % (n - 2)) (num + 1) (left - ndN size l.length) j2 (by omega) (by simp at h1; omega) (by rw [Nat.mod_mod, hmodadd]) (by omega) (by omega) a3 (by omega) (by rw [Nat.add_assoc p]; exact hk) (by rw [Nat.add_assoc p]; exact hb)
      show (recF kx' lo n size p' num left).bind _ = _
      rw [h2]
      show (opF kx' lo n size r.length ((p' + ndN size l.length) % (n - 2)) (num + 1) (left - ndN size l.length)).map _ = _
      rw [h3]
      rfl
/-- The sectors that lie are sealed. -/
theorem LieAt.at_ {kx : Nat → List Int} {lo n size : Nat} : ∀ (L : List (List Int)) (p j : Nat) (num : Int), LieAt kx lo n size p num L → j < sumN (ksOf size L) → openOk (kx (lo + 2 + (p + j) % (n - 2))) = true
  | [], _, _, _, _, hj => absurd hj (Nat.not_lt_zero _)
  | l :: r, p, j, num, h, hj => by
    obtain ⟨a1, a2, a3⟩ := h
    have hj' : j < ndN size l.length + sumN (ksOf size r) := hj
    by_cases hjl : j < ndN size l.length
    · rw [a2 j hjl]
      exact (secL_open size _).1
    · obtain ⟨j2, rfl⟩ : ∃ j2, j = ndN size l.length + j2 := ⟨j - ndN size l.length, by omega⟩
      have h3 := LieAt.at_ r (p + ndN size l.length) j2 (num + 1) a3 (by omega)
      rw [Nat.add_assoc p] at h3
      exact h3
/-- One sector is turned by a burst: all is as it was, or nothing is told. -/
theorem opR_burst {kx kx' : Nat → List Int} {lo n size : Nat} {h : Hd} {L : List (List Int)} (H : HoldsK kx lo n size h L) (hs : 64 ≤ size) (h4 : 4 ≤ n) (hn : n ≤ 65536) {s : Nat} {bit : Int} {p : BitVec 32} (hb : Bytes (kx s)) (hx : kx' s = burstV (kx s) bit p) (ho : ∀ q, q ≠ s → kx' q = kx q) :
    opR kx' lo n size = none ∨ opR kx' lo n size = some (h, L) := by
  by_cases hsame : kx' s = kx s
  · have he : kx' = kx := funext fun q => by
      by_cases hq : q = s
      · rw [hq]; exact hsame
      · exact ho q hq
    rw [he]
    exact .inr (opR_holds H hs h4 hn)
  have hbad : openOk (kx s) = true → openOk (kx' s) = false := fun h1 => by
    rw [hx]
    exact burst_found _ hb bit p (st_open hb h1) (by rw [← hx]; exact hsame)
  obtain ⟨o, ov, ot, ok⟩ := H.old
  have hv := H.hv
  have b0 := hv.wf.t0
  have c0 := ov.wf.t0
  have hnone : ∀ t, t < 2 → s = lo + t → opR kx' lo n size = none := fun t ht e => by
    have h1 : openOk (kx (lo + t)) = true := by
      by_cases hp : t = (h.turn % 2).toNat
      · rw [hp, H.new]; exact (secL_open size _).1
      · have : t = (o.turn % 2).toNat := by omega
        rw [this, ok]; exact (secL_open size _).1
    have h2 := hbad (by rw [e]; exact h1)
    rw [e] at h2
    have h3 : ∀ sl, hdR n (kx' (lo + t)) sl = none := fun sl => by unfold hdR; rw [if_neg (by rw [h2]; decide)]
    have h5 : stF n (kx' lo) (kx' (lo + 1)) = none := by
      unfold stF
      rcases (by omega : t = 0 ∨ t = 1) with rfl | rfl
      · rw [Nat.add_zero] at h3
        rw [h3]
        rfl
      · rw [h3]
        cases hdR n (kx' lo) 0 <;> rfl
    unfold opR
    rw [h5]
    rfl
  by_cases h0 : s = lo
  · exact .inl (hnone 0 (by omega) h0)
  by_cases h1 : s = lo + 1
  · exact .inl (hnone 1 (by omega) h1)
  by_cases hr : ∃ j, j < sumN (ksOf size L) ∧ s = lo + 2 + (h.start.toNat + j) % (n - 2)
  · obtain ⟨j, hj, hsj⟩ := hr
    have h2 := hbad (by rw [hsj]; exact LieAt.at_ L _ _ _ H.lie hj)
    have hst : stF n (kx' lo) (kx' (lo + 1)) = some h := by
      rw [ho lo (by omega), ho (lo + 1) (by omega)]
      exact stF_holds H
    have hlen : (L.length : Int) ≤ (n : Int) - 2 := by
      have h1 : ∀ l : List (List Int), l.length ≤ sumN (ksOf size l) := fun l => by
        induction l with
        | nil => exact Nat.zero_le _
        | cons x r ih =>
          have : 1 ≤ ndN size x.length := by unfold ndN; omega
          show r.length + 1 ≤ ndN size x.length + sumN (ksOf size r)
          omega
      have := h1 L
      have := H.sum
      omega
    have hnx := H.next
    have hf := hv.f1
    have hbn := hv.wf.n1
    refine .inl ?_
    unfold opR
    rw [hst]
    show (if (n : Int) - 2 < h.next - h.first then none else _) = _
    rw [if_neg (by omega)]
    have hc : (h.next - h.first).toNat = L.length := by omega
    rw [hc, opF_bad (kx := kx) hs h4 hn L h.start.toNat h.start.toNat h.first (n - 2) j (by omega) (by omega) rfl H.sum (Nat.le_refl _) H.lie hj (fun q hq => ho q (by rw [hsj]; exact hq)) (by rw [← hsj]; exact h2)]
    rfl
  · refine .inr (opR_holds (H.keep (fun t ht => ho _ (by omega)) (fun i hi => ho _ (fun e => hr ⟨i, hi, e.symm⟩))) hs h4 hn)
end Go.Proofs.Ytlhpdkapddnbcaa

namespace Go.Proofs.Ytlhpdkapddnbcaa
open Go.RowKit
/-- A disk that is made behind w0. -/
structure DkB (w0 w : World) (d : Nat) (Z : Nat → Prop) (st : Dk) : Prop where
  din : DkIn w Z d st
  base : ∀ k, Z k → w0.heap.size ≤ k
  below : Below w0.heap.size w0 w
theorem DkB.more {w0 w w' : World} {d : Nat} {Z : Nat → Prop} {st : Dk} (h : DkB w0 w d Z st) (b : Below w.heap.size w w') : DkB w0 w' d Z st := ⟨h.din.below b, h.base, Below.call h.below b⟩
theorem DkB.turn {w0 w w' : World} {d : Nat} {Z Z' : Nat → Prop} {st st' : Dk} (h : DkB w0 w d Z st) (i : DkIn w' Z' d st') (t : Tnd Z Z' w w') : DkB w0 w' d Z' st' :=
  ⟨i, t.base h.base h.below.size, h.below.trans (t.below h.base h.below.size)⟩
/-- A buffer of bytes in a block of its own. -/
def BufAt (w : World) (b : Nat) (l : List Int) : Prop := w.heap[b]? = some (.cells (l.map (Value.int .u8)).toArray 5 (0, 0)) ∧ (∀ x ∈ l, (Lit.int .u8 x).wf = true) ∧ l.length ≤ 1000000
theorem BufAt.rd {w : World} {b : Nat} {l : List Int} (h : BufAt w b l) : RdAt .u8 w (some ⟨b, 0, none⟩) l.length l.length l :=
  ⟨rfl, Nat.le_refl _, by have := h.2.2; unfold maxLen; omega, fun i hi => ⟨b, 0, rfl, by rw [cell_of_row w _ _ _ _ _ h.1]; simp [nth_eq hi, hi]⟩, h.2.1, fun h => by cases h⟩
theorem BufAt.cell {w : World} {b : Nat} {l : List Int} (h : BufAt w b l) {i : Nat} (hi : i < l.length) : w.cell? ⟨b, i, none⟩ = some (.int .u8 (nth l i)) := by
  rw [cell_of_row w _ _ _ _ _ h.1]; simp [nth_eq hi, hi]
theorem BufAt.free {w : World} {b : Nat} {l : List Int} (h : BufAt w b l) (i : Nat) : w.frozen? ⟨b, i, none⟩ = false := frozen_of_row w _ i _ _ h.1
theorem BufAt.put {w : World} {b : Nat} {l : List Int} (h : BufAt w b l) (i : Nat) (x : Int) (hx : (Lit.int .u8 x).wf = true) : BufAt (w.setCell ⟨b, i, none⟩ (.int .u8 x)) b (l.set i x) := by
  refine ⟨by rw [heap_setCell_same w b i _ _ _ h.1]; simp, fun y hy => ?_, by rw [List.length_set]; exact h.2.2⟩
  rcases List.mem_or_eq_of_mem_set hy with h1 | h1
  · exact h.2.1 y h1
  · rw [h1]; exact hx
theorem BufAt.lt {w : World} {b : Nat} {l : List Int} (h : BufAt w b l) : b < w.heap.size := (Array.getElem?_eq_some_iff.1 h.1).1
theorem BufAt.below {w w' : World} {b : Nat} {l : List Int} (h : BufAt w b l) (hb : Below w.heap.size w w') : BufAt w' b l := ⟨row_keep h.1 hb, h.2⟩
theorem BufAt.tnd {Z Z' : Nat → Prop} {w w' : World} {b : Nat} {l : List Int} (h : BufAt w b l) (t : Tnd Z Z' w w') (hz : ¬ Z b) : BufAt w' b l := ⟨by rw [t.block b h.lt hz]; exact h.1, h.2⟩
set_option maxRecDepth 100000 in
theorem mk64 (w : World) : ∃ w', (Instr.makeSlice 36 (.int .i64 64) (.int .i64 64)).run Try.prog w = .ok (.slice (some ⟨w.heap.size, 0, none⟩) 64 64) w' ∧ BufAt w' w.heap.size (List.replicate 64 0) ∧ Below w.heap.size w w' :=
  ⟨_, mk_bytes 64 (by omega) w, ⟨by rw [List.map_replicate]; exact heap_alloc_new _ _, fun x hx => by rw [List.eq_of_mem_replicate hx]; rfl, by simp⟩, (Below.refl _ _).alloc (Nat.le_refl _) _⟩
theorem put_below (w : World) (B b i : Nat) (x : Value) (h : B ≤ b) : Below B w (w.setCell ⟨b, i, none⟩ x) :=
  ⟨rfl, rfl, rfl, by simp, fun k hk => heap_setCell_other w ⟨b, i, none⟩ k x (by show k ≠ b; omega)⟩
def A1 : List Int := (List.replicate 64 0).set 0 1
def A2 : List Int := (List.replicate 64 0).set 0 2
def S0 : Dk := dk0 2 64
def S1 : Dk := wrS S0 0 A1
def S2 : Dk := wrS S1 0 A2
def S3 : Dk := rdS S2 0
def S4 : Dk := cutS S3 [true]
def S5 : Dk := rdS S4 0
def S6 : Dk := { S5 with off := false }
def S7 : Dk := rdS S6 0
theorem k2 : rdV S2 0 = A2 := by kernel_rfl
theorem k4 : rdE S4 0 = 8 := by kernel_rfl
theorem k6 : rdV S6 0 = A1 := by kernel_rfl
theorem lenA1 : A1.length = 64 := by kernel_rfl
theorem lenA2 : A2.length = 64 := by kernel_rfl
theorem nthA1 : nth A1 0 = 1 := by kernel_rfl
theorem nthA2 : nth A2 0 = 2 := by kernel_rfl
theorem k60 : rdE S6 0 = 0 := by kernel_rfl
theorem kb0 : S0.pend.length + 1 ≤ 1000000 ∧ S0.writes + 1 ≤ 4611686018427387904 := of_decide_eq_true (by kernel_rfl)
theorem kb1 : S1.pend.length + 1 ≤ 1000000 ∧ S1.writes + 1 ≤ 4611686018427387904 := of_decide_eq_true (by kernel_rfl)
theorem kb2 : S2.reads + 1 ≤ 4611686018427387904 ∧ S4.reads + 1 ≤ 4611686018427387904 ∧ S6.reads + 1 ≤ 4611686018427387904 := of_decide_eq_true (by kernel_rfl)
theorem r264 : rightB 2 64 = true := by decide
end Go.Proofs.Ytlhpdkapddnbcaa

namespace Go.Proofs.Ytlhpdkapddnbcaa
open Go.RowKit
set_option maxRecDepth 100000 in
set_option maxHeartbeats 1000000 in
theorem burst_in (a : Option Addr) (n c : Nat) (l : List Int) (bit : Nat) (p : BitVec 32) (w : World) (h : RdAt .u8 w a n c l) (hn : n ≤ 1000000000) (hb : bit < 8 * n) :
    Calls Try.prog 58 #[.slice a n c, .int .i64 bit, .int .u32 (rnum p)] w (GivesBytes (burstK l bit p 32) w) := by
  have hby := h.bytes
  have HL := Lib.hid h.len
  have hd1 : decide ((bit : Int) < 0) = false := decide_eq_false (by omega)
  go_enter Try.func58, Try.ntmps58
  go_wp2_with (go_at_call 49; refine (clone_any _ _ _ _ _ h hn).mono ?_; rintro e w1 ⟨v, rfl, ho, hbe⟩)
  go_loopw [14] (fun i wr => ∃ k : Nat, k ≤ 32 ∧ i = .int .i64 k ∧ Owns .u8 5 wr w.heap.size v (burstK l bit p k) ∧ Below w.heap.size w wr) (fun i _ => 32 - (intOf i).toNat)
  case atStart => exact ⟨0, by omega, rfl, ho, hbe⟩
  case round =>
    clear ho hbe
    obtain ⟨k, hk, rfl, ho, hbe⟩ := hrel
    have HKL := Lib.hid (burstK_len l bit p k)
    by_cases hp : k < 32
    · by_cases hin : bit + k < 8 * n
      · by_cases hbt : p.getLsbD k = true
        · have ht := bit_yes hbt
          have HX : Hid (burstK l bit p (k + 1) = tog (burstK l bit p k) (bit + k)) := by show _ = _; rw [burstK, if_pos ⟨by rw [HL.out]; exact hin, hbt⟩]
          clear hbt
          have hkb := burstK_bytes hby bit p k
          obtain ⟨av, cv, rfl⟩ := ho.shapeN n (by rw [HKL.out, HL.out])
          obtain ⟨g, rfl, hg1, hg2, hcell, hfz⟩ := ho.cellAt ((bit + k) / 8) (by rw [HKL.out, HL.out]; omega)
          have ho2 := set_tog ho (bit + k) hkb
          generalize burstK l bit p k = r at *
          have e1 := shr_three (bit + k)
          have e2 := i64_and_7 ((bit + k : Nat) : Int) (by omega) (by omega)
          have e3 : ((bit + k : Nat) : Int) % 8 = ((bit + k) % 8 : Nat) := by omega
          rw [e3] at e2
          rw [Int.natCast_add] at e1 e2
          have e4 := pow_u8 (bit + k)
          clear e3
          go_wp2
          go_region
          go_wp2
          go_roundw
          case rel => exact ⟨k + 1, by omega, by go_num, by rw [HX.out]; exact ho2.drew, (hbe.setCell hg1 _).drew⟩
          case measure => simp [intOf] <;> omega
        · have ht := bit_no hbt
          have HX : Hid (burstK l bit p (k + 1) = burstK l bit p k) := by show _ = _; rw [burstK, if_neg (fun h => hbt h.2)]
          clear hbt
          go_wp2
          go_roundw
          case rel => exact ⟨k + 1, by omega, by go_num, by rw [HX.out]; exact ho, hbe⟩
          case measure => simp [intOf] <;> omega
      · have HX := Lib.hid (burstK_far l bit p (by rw [HL.out]; omega) hk)
        go_wp2
        go_ret
        exact ⟨_, rfl, by rw [HX.out]; exact ho, hbe⟩
    · have HX : Hid (burstK l bit p 32 = burstK l bit p k) := by show _ = _; rw [show k = 32 by omega]
      clear hk
      go_wp2
      go_ret
      exact ⟨_, rfl, by rw [HX.out]; exact ho, hbe⟩
set_option maxRecDepth 100000 in
theorem burst_any (a : Option Addr) (n c : Nat) (l : List Int) (bit : Int) (p : BitVec 32) (w : World) (h : RdAt .u8 w a n c l) (hn : n ≤ 1000000000) :
    Calls Try.prog 58 #[.slice a n c, .int .i64 bit, .int .u32 (rnum p)] w (GivesBytes (burstV l bit p) w) := by
  by_cases hc : 0 ≤ bit ∧ bit < 8 * n
  · obtain ⟨bit, rfl⟩ := Int.eq_ofNat_of_zero_le hc.1
    have e : burstV l bit p = burstK l bit p 32 := by unfold burstV; rw [if_pos (by rw [h.len]; exact hc), Int.toNat_natCast]
    rw [e]
    exact burst_in a n c l bit p w h hn (by omega)
  · have e : burstV l bit p = l := by unfold burstV; rw [if_neg (by rw [h.len]; exact hc)]
    rw [e]
    clear e
    by_cases h0 : bit < 0
    · go_enter Try.func58, Try.ntmps58
      go_wp2_with (go_at_call 49; refine (clone_any _ _ _ _ _ h hn).mono ?_; rintro e w1 ⟨v, rfl, ho, hbe⟩)
      go_ret
      exact ⟨_, rfl, ho, hbe⟩
    · have h1 : 8 * (n : Int) ≤ bit := by omega
      clear hc
      go_enter Try.func58, Try.ntmps58
      go_wp2_with (go_at_call 49; refine (clone_any _ _ _ _ _ h hn).mono ?_; rintro e w1 ⟨v, rfl, ho, hbe⟩)
      go_loopw [14] (fun i wr => i = .int .i64 0 ∧ Owns .u8 5 wr w.heap.size v l ∧ Below w.heap.size w wr) (fun i _ => 32 - (intOf i).toNat)
      case atStart => exact ⟨rfl, ho, hbe⟩
      case round =>
        clear ho hbe
        obtain ⟨rfl, ho, hbe⟩ := hrel
        go_wp2
        go_ret
        exact ⟨_, rfl, ho, hbe⟩
end Go.Proofs.Ytlhpdkapddnbcaa

namespace Go.Proofs.Ytlhpdkapddnbcaa
open Go.RowKit
def burF (s : Int) (bit : Int) (p : BitVec 32) (q : Int × List Int) : Int × List Int := if q.1 = s then (q.1, burstV q.2 bit p) else q
def burB (st : Dk) (s bit : Int) : Bool := inS st s && decide (0 ≤ bit)
def burS (st : Dk) (s bit : Int) (p : BitVec 32) : Dk := if burB st s bit = true then { st with kept := st.kept.set s.toNat (burstV ((st.kept[s.toNat]?).getD []) bit p), pend := st.pend.map (burF s bit p) } else st
def mapTo {α : Type} (f : α → α) (k : Nat) (l : List α) : List α := (l.take k).map f ++ l.drop k
theorem mapTo_len {α : Type} (f : α → α) (k : Nat) (l : List α) : (mapTo f k l).length = l.length := by unfold mapTo; simp; omega
theorem mapTo_at {α : Type} (f : α → α) (k : Nat) (l : List α) : (mapTo f k l)[k]? = l[k]? := by
  unfold mapTo
  by_cases h : k ≤ l.length
  · rw [List.getElem?_append_right (by rw [List.length_map, List.length_take]; omega), List.length_map, List.length_take, Nat.min_eq_left h, Nat.sub_self, List.getElem?_drop]; rfl
  · rw [List.getElem?_eq_none (by simp; omega), List.getElem?_eq_none (by omega)]
theorem mapTo_succ {α : Type} (f : α → α) {k : Nat} {l : List α} {x : α} (h : l[k]? = some x) : mapTo f (k + 1) l = (mapTo f k l).set k (f x) := by
  obtain ⟨hk, hx⟩ := List.getElem?_eq_some_iff.1 h
  unfold mapTo
  rw [List.set_append_right (h := by simp; omega), List.length_map, List.length_take, Nat.min_eq_left (by omega), Nat.sub_self, List.drop_eq_getElem_cons hk, List.set_cons_zero, List.take_add_one, h]
  simp
theorem mapTo_all {α : Type} (f : α → α) (l : List α) : mapTo f l.length l = l.map f := by unfold mapTo; simp
theorem mapTo_zero {α : Type} (f : α → α) (l : List α) : mapTo f 0 l = l := by unfold mapTo; simp
theorem pendC_set : ∀ {p : List (Int × List Int)} {vs : List Value} {k : Nat} {v : Value} {s : Int} {l0 l : List Int}, p[k]? = some (s, l0) → vs.length = p.length → pendC (p.set k (s, l)) (vs.set k v) = (pendC p vs).set (2 * k + 1) v
  | [], _, k, v, s, l0, l, h, _ => by simp at h
  | _ :: _, [], k, v, s, l0, l, _, h => by simp at h
  | q :: r, u :: t, 0, v, s, l0, l, h1, h2 => by
    simp at h1
    subst h1
    rfl
  | q :: r, u :: t, k + 1, v, s, l0, l, h1, h2 => by
    have := pendC_set (p := r) (vs := t) (k := k) (v := v) (l := l) (by simpa using h1) (by simpa using h2)
    rw [List.set_cons_succ, List.set_cons_succ, pendC, this, show 2 * (k + 1) + 1 = (2 * k + 1) + 1 + 1 by omega]
    rfl
theorem pendC_len : ∀ {p : List (Int × List Int)} {vs : List Value}, vs.length = p.length → (pendC p vs).length = p.length * 2
  | [], _, _ => by unfold pendC; simp
  | _ :: _, [], h => by simp at h
  | q :: r, u :: t, h => by
    have := pendC_len (p := r) (vs := t) (by simpa using h)
    rw [pendC]
    simp only [List.length_cons, this]
    omega
theorem lastR_set : ∀ (r : List (Int × List Int)) (k : Nat) (s t : Int) (l0 l : List Int), r[k]? = some (s, l0) → lastR (r.set k (s, l)) t = lastR r t
  | [], k, s, t, l0, l, h => by simp at h
  | q :: r, 0, s, t, l0, l, h => by
    simp at h
    subst h
    rfl
  | (q, b) :: r, k + 1, s, t, l0, l, h => by
    rw [List.set_cons_succ, lastR, lastR, lastR_set r k s t l0 l (by simpa using h), List.length_set]
theorem lastOf_set {p : List (Int × List Int)} {k : Nat} {s : Int} {l0 : List Int} (l : List Int) (h : p[k]? = some (s, l0)) (t : Int) : lastOf (p.set k (s, l)) t = lastOf p t := by
  have hk : k < p.length := (List.getElem?_eq_some_iff.1 h).1
  unfold lastOf
  have hr : (p.set k (s, l)).reverse = p.reverse.set (p.length - 1 - k) (s, l) := by
    apply List.ext_getElem?
    intro i
    by_cases hi : i < p.length
    · rw [List.getElem?_reverse (by simpa using hi), List.getElem?_set, List.getElem?_set, List.length_set, List.length_reverse, List.getElem?_reverse hi]
      by_cases e : p.length - 1 - k = i
      · rw [if_pos (by omega), if_pos e, if_pos (by omega), if_pos (by omega)]
      · rw [if_neg (by omega), if_neg e]
    · rw [List.getElem?_eq_none (by simp; omega), List.getElem?_eq_none (by simp; omega)]
  rw [hr]
  exact lastR_set _ _ _ _ l0 _ (by rw [List.getElem?_reverse (by omega), show p.length - 1 - (p.length - 1 - k) = k by omega]; exact h)
theorem cells2 {w : World} {b T : Nat} {x0 x1 : Value} (h : w.heap[b]? = some (.cells #[x0, x1] T (0, 0))) : w.cell? ⟨b, 0, none⟩ = some x0 ∧ w.cell? ⟨b, 1, none⟩ = some x1 :=
  ⟨by rw [cell_of_row w _ _ _ _ _ h]; rfl, by rw [cell_of_row w _ _ _ _ _ h]; rfl⟩
theorem own_cell {w : World} {e : TypeId} {size n n' pc g : Nat} {xs : List Value} (h : w.ownsRow 0 e size (.slice (some ⟨g, 0, none⟩) n' pc) n xs) {j : Nat} (hj : j < xs.length) : (∃ u, w.cell? ⟨g, j, none⟩ = some u) ∧ w.frozen? ⟨g, j, none⟩ = false := by
  rcases h.2 with ⟨h1, _⟩ | ⟨g', cap, cur, hv, h0, hh, h3, h4, h5, h6⟩
  · cases h1
  · injection hv with q1 q2 q3
    injection q1 with q1
    injection q1 with q1
    subst q1
    refine ⟨⟨xs[j], ?_⟩, frozen_of_row w _ j _ _ hh⟩
    rw [cell_of_row w _ _ _ _ _ hh]
    have : cur.toList[j]? = some xs[j] := by
      have h7 : (cur.toList.take (n * size))[j]? = xs[j]? := by rw [h6]
      rw [List.getElem?_take_of_lt (by rw [← h.1]; exact hj), List.getElem?_eq_getElem hj] at h7
      exact h7
    simpa using this
theorem own_set {w : World} {e : TypeId} {size n n' pc g : Nat} {xs : List Value} (h : w.ownsRow 0 e size (.slice (some ⟨g, 0, none⟩) n' pc) n xs) {v0 : Value} (_hv0 : v0 = v0) (j : Nat) (x : Value) : (w.setCell ⟨g, j, none⟩ x).ownsRow 0 e size (.slice (some ⟨g, 0, none⟩) n' pc) n (xs.set j x) := by
  refine ⟨by rw [List.length_set]; exact h.1, ?_⟩
  rcases h.2 with ⟨h1, _⟩ | ⟨g', cap, cur, hv, h0, hh, h3, h4, h5, h6⟩
  · cases h1
  · injection hv with q1 q2 q3
    injection q1 with q1
    injection q1 with q1
    subst q1 q2 q3
    refine .inr ⟨g, pc, cur.setIfInBounds j x, rfl, h0, heap_setCell_same w g j _ _ _ hh, h3, h4, by simpa using h5, ?_⟩
    rw [Array.toList_setIfInBounds, List.take_set, h6]
theorem DkP.same {w w' : World} {Z : Nat → Prop} {d kb mb : Nat} {pv kv : Value} {vals pvs : List Value} {st : Dk} (p : DkP w Z d kb mb pv kv vals pvs st) (hs : ∀ x, Z x → w'.heap[x]? = w.heap[x]?) : DkP w' Z d kb mb pv kv vals pvs st :=
  p.re (fun x hx _ => hs x hx) (by rw [hs d (p.z d (.inl rfl))]; exact p.row) rfl rfl rfl rfl p.ok
/-- One sector laid. -/
theorem DkP.lay {w w5 : World} {Z : Nat → Prop} {d kb mb : Nat} {pv kv : Value} {vals pvs : List Value} {st : Dk} (p : DkP w Z d kb mb pv kv vals pvs st) (hz : ∀ k, Z k → k < w.heap.size) (k : Nat) (l : List Int) (hl : l.length = st.size) (v : Value) (hv : Owns .u8 5 w5 w.heap.size v l)
    (hsp : w.grownBy w5 (some kb)) (hkr : w5.heap[kb]? = some (.cells (vals.set k v).toArray 36 (0, 0))) : DkP w5 (fun x => Z x ∨ (w.heap.size ≤ x ∧ x < w5.heap.size)) d kb mb pv kv (vals.set k v) pvs { st with kept := st.kept.set k l } := by
  have hmut : ∀ x, Z x → ¬ MutD d kb mb pv x → w5.heap[x]? = w.heap[x]? := fun x hx hm => hsp.block x (hz x hx) (fun e => hm (.inr (.inl (Option.some.inj e))))
  have hZm := p.z
  have hl0 : 0 < l.length := by have := p.ok.size; omega
  obtain ⟨g, c, hvs, hrm, hrd, hB, hlt⟩ := Owns.slc hv hl0
  have hpl : ∀ x, pv.ownBlock = some x → x < w.heap.size := fun x hx => hz x (hZm x (.inr (.inr (.inr hx))))
  refine ⟨?_, hkr, ?_, ?_, ?_, ?_, ?_, p.ne, p.rm, fun b hb => .inl (hZm b hb), ⟨p.ok.size, ?_, fun x hx => ?_, fun q hq => ?_, p.ok.armed, p.ok.few, p.ok.writes, p.ok.reads⟩⟩
  · show w5.heap[d]? = some (.cells #[.bool st.off, .int .i64 st.armed, kv, .int .i64 st.size, .slice (some ⟨kb, 0, none⟩) (st.kept.set k l).length (st.kept.set k l).length, pv, .map (some mb), .int .i64 st.writes, .int .i64 st.reads] 51 (0, 0))
    rw [List.length_set]
    exact grown_at p.row hsp p.ne.1
  · refine All2.set (p.kvals.imp fun v l h => h.at hmut (fun _ _ h => h) (fun _ h => .inl h)) k (.inr ⟨g, 0, l.length, c, hvs, hrd, hl0, fun hm => ?_, .inr ⟨hB, hlt⟩⟩)
    have := hz g (hZm g hm)
    omega
  · exact ownsRow_at p.prow (fun x hx => hsp.block x (hpl x hx) (fun e => (p.rm x hx).2.1 (Option.some.inj e)))
  · exact p.pvals.imp fun v l h => h.at hmut (fun _ _ h => h) (fun _ h => .inl h)
  · exact p.map.at (hsp.block mb (hz mb (hZm mb (.inr (.inr (.inl rfl))))) (fun e => p.ne.2.2 (Option.some.inj e).symm))
  · exact p.keep.at hmut (fun _ _ h => h) (fun _ h => .inl h)
  · show 1 ≤ (st.kept.set k l).length ∧ (st.kept.set k l).length ≤ 65536
    rw [List.length_set]; exact p.ok.n
  · rcases List.mem_or_eq_of_mem_set (show x ∈ st.kept.set k l from hx) with h | h
    · exact p.ok.kept x h
    · rw [h]; exact hl
  · have := p.ok.pend q hq
    refine ⟨this.1, this.2.1, ?_⟩
    show q.1 < ((st.kept.set k l).length : Int)
    rw [List.length_set]
    exact this.2.2
/-- A pending write's bytes laid anew. -/
theorem DkP.layp {w w5 : World} {Z : Nat → Prop} {d kb mb : Nat} {pv kv : Value} {vals pvs : List Value} {st : Dk} (p : DkP w Z d kb mb pv kv vals pvs st) (hz : ∀ k, Z k → k < w.heap.size) (k : Nat) (s : Int) (l0 l : List Int) (hk : st.pend[k]? = some (s, l0)) (hl : l.length = st.size) (v : Value) (hv : Owns .u8 5 w5 w.heap.size v l)
    (g : Nat) (hg : pv.ownBlock = some g) (hsp : w.grownBy w5 (some g)) (hpr : w5.ownsRow 0 104 2 pv st.pend.length ((pendC st.pend pvs).set (k * 2 + 1) v)) : DkP w5 (fun x => Z x ∨ (w.heap.size ≤ x ∧ x < w5.heap.size)) d kb mb pv kv vals (pvs.set k v) { st with pend := st.pend.set k (s, l) } := by
  have hmut : ∀ x, Z x → ¬ MutD d kb mb pv x → w5.heap[x]? = w.heap[x]? := fun x hx hm => hsp.block x (hz x hx) (fun e => hm (.inr (.inr (.inr (by rw [hg, Option.some.inj e])))))
  have hZm := p.z
  have hrm := p.rm g hg
  have hl0 : 0 < l.length := by have := p.ok.size; omega
  obtain ⟨y, c, hvs, _, hrd, hB, hlt⟩ := Owns.slc hv hl0
  have hoth : ∀ x, Z x → x ≠ g → w5.heap[x]? = w.heap[x]? := fun x hx hne => hsp.block x (hz x hx) (fun e => hne (Option.some.inj e))
  refine ⟨?_, ?_, ?_, ?_, ?_, ?_, ?_, p.ne, p.rm, fun b hb => .inl (hZm b hb), ⟨p.ok.size, p.ok.n, p.ok.kept, fun q hq => ?_, p.ok.armed, ?_, p.ok.writes, p.ok.reads⟩⟩
  · rw [hoth d (hZm d (.inl rfl)) hrm.1.symm]; exact p.row
  · rw [hoth kb (hZm kb (.inr (.inl rfl))) hrm.2.1.symm]; exact p.krow
  · exact p.kvals.imp fun v l h => h.at hmut (fun _ _ h => h) (fun _ h => .inl h)
  · show w5.ownsRow 0 104 2 pv (st.pend.set k (s, l)).length (pendC (st.pend.set k (s, l)) (pvs.set k v))
    rw [List.length_set, pendC_set hk p.pvals.1, show 2 * k + 1 = k * 2 + 1 by omega]
    exact hpr
  · refine All2.set (p.pvals.imp fun v l h => h.at hmut (fun _ _ h => h) (fun _ h => .inl h)) k ⟨y, 0, l.length, c, hvs, hrd, hl0, fun hm => ?_, .inr ⟨hB, hlt⟩⟩
    have := hz y (hZm y hm)
    omega
  · exact (p.map.at (hoth mb (hZm mb (.inr (.inr (.inl rfl)))) hrm.2.2.symm)).congr (fun t => (lastOf_set l hk t).symm)
  · exact p.keep.at hmut (fun _ _ h => h) (fun _ h => .inl h)
  · rcases List.mem_or_eq_of_mem_set (show q ∈ st.pend.set k (s, l) from hq) with h | h
    · exact p.ok.pend q h
    · have := p.ok.pend _ (List.mem_of_getElem? hk)
      rw [h]; exact ⟨hl, this.2⟩
  · show (st.pend.set k (s, l)).length ≤ 1000000
    rw [List.length_set]; exact p.ok.few
set_option linter.unusedSimpArgs false in
set_option linter.unusedVariables false in
set_option maxRecDepth 100000 in
set_option maxHeartbeats 2000000 in
theorem burst_no (Z : Nat → Prop) (d : Nat) (st : Dk) (s bit : Int) (p : BitVec 32) (w : World) (h : DkIn w Z d st) (hb : burB st s bit = false) :
    Calls Try.prog 30 #[.pointer (some ⟨d, 0, none⟩), .int .i64 s, .int .i64 bit, .int .u32 (rnum p)] w fun e w' => e = .returned (.bool false) ∧ w = w' := by
  have H := Lib.hid h
  clear h
  cases hi : inS st s with
  | false =>
    have HI := Lib.hid hi
    clear hb hi
    go_enter Try.func30, Try.ntmps30
    go_wp2_with fail
    refine (there_any Z d st s w H.out).mono ?_
    rintro e w2 ⟨rfl, rfl⟩
    rw [HI.out]
    go_wp2_with fail
    go_ret
    exact ⟨rfl, rfl⟩
  | true =>
    have HI := Lib.hid hi
    have hb0 : bit < 0 := by
      unfold burB at hb
      rw [hi] at hb
      simpa using hb
    have d0 : decide (bit < 0) = true := decide_eq_true hb0
    clear hb hi
    go_enter Try.func30, Try.ntmps30
    go_wp2_with fail
    refine (there_any Z d st s w H.out).mono ?_
    rintro e w2 ⟨rfl, rfl⟩
    rw [HI.out]
    go_wp2_with fail
    go_ret
    exact ⟨rfl, rfl⟩
set_option linter.unusedSimpArgs false in
set_option linter.unusedVariables false in
set_option maxRecDepth 100000 in
set_option maxHeartbeats 8000000 in
theorem burst_yes (Z : Nat → Prop) (d : Nat) (st : Dk) (s : Nat) (bit : Int) (p : BitVec 32) (w : World) (h : DkIn w Z d st) (hsl : s < st.kept.length) (hb0 : 0 ≤ bit) (hb1 : bit ≤ 9223372036854775807) :
    Calls Try.prog 30 #[.pointer (some ⟨d, 0, none⟩), .int .i64 (s : Int), .int .i64 bit, .int .u32 (rnum p)] w fun e w' => e = .returned (.bool true) ∧ ∃ Z', DkIn w' Z' d (burS st s bit p) ∧ Tnd Z Z' w w' := by
  have H := Lib.hid h
  have hi : inS st s = true := by unfold inS; simp; omega
  have HI := Lib.hid hi
  obtain ⟨lk, hlk⟩ : ∃ lk, (st.kept[s]?).getD [] = lk := ⟨_, rfl⟩
  have HE : Hid (burS st s bit p = { st with kept := st.kept.set s (burstV lk bit p), pend := st.pend.map (burF s bit p) }) := by
    show _ = _
    unfold burS burB
    rw [hi, decide_eq_true hb0, Int.toNat_natCast, hlk]
    rfl
  have HBY : Hid (∀ w1, DkIn w1 Z d st → Calls Try.prog 57 #[.pointer (some ⟨d, 0, none⟩), .int .i64 s] w1 (GivesBytes lk w1)) := by
    intro w1 h1
    have := bytes_any Z d st s w1 h1 hsl
    rw [hlk] at this
    exact this
  have d0 : decide (bit < 0) = false := decide_eq_false (by omega)
  obtain ⟨hz, kb, mb, pv, kv, vals, pvs, P⟩ := h
  have hkl : lk.length = st.size := by
    rw [← hlk, List.getElem?_eq_getElem hsl]
    exact P.ok.kept _ (List.getElem_mem _)
  have HKL := Lib.hid hkl
  have hbl : lk.length ≤ 1000000000 := by have := P.ok.size; omega
  have HBL := Lib.hid hbl
  have HSL := Lib.hid hsl
  have HVL : Hid (s < vals.length) := by show _ < _; rw [P.kvals.1]; exact hsl
  have hkB : ∀ x, some kb = some x → x < w.heap.size := fun x hx => by injection hx with hx; subst hx; exact hz _ (P.z _ (.inr (.inl rfl)))
  obtain ⟨w0, hw0⟩ : ∃ w0 : World, w0 = w := ⟨_, rfl⟩
  have hrow3 : w.drew.heap[d]? = some (.cells #[.bool st.off, .int .i64 st.armed, kv, .int .i64 st.size, .slice (some ⟨kb, 0, none⟩) st.kept.length st.kept.length, pv, .map (some mb), .int .i64 st.writes, .int .i64 st.reads] 51 (0, 0)) := P.row
  have hkr3 : w.drew.heap[kb]? = some (.cells vals.toArray 36 (0, 0)) := P.krow
  have hdk3 : DkIn w.drew Z d st := H.out.same (fun _ _ => rfl) (Nat.le_refl _)
  have hB3 : w0.grownBy w.drew (some kb) := by rw [hw0]; exact ⟨rfl, rfl, rfl, Nat.le_refl _, fun _ _ _ => rfl⟩
  rw [← hw0] at hkB
  have hwz3 : w0.heap.size ≤ w.drew.heap.size := by rw [hw0]; exact Nat.le_refl _
  have HW0 := Lib.hid hw0
  have PP := Lib.hid P
  have hnk := P.ok.n
  clear P hi hkl hbl hw0 hlk
  go_enter Try.func30, Try.ntmps30
  go_wp2_with fail
  refine (there_any Z d st s w H.out).mono ?_
  rintro e w2 ⟨rfl, rfl⟩
  rw [HI.out]
  go_wp2_with fail
  · skip
    refine' reg_order [eqV _, eqV _, eqV _, eqV _, eqV _, eqV _, eqV _, (PF7 w0.heap.size lk), eqV _, eqV _, (PF7 w0.heap.size (burstV lk bit p)), eqV _, (fun _ w => ∃ v, w.heap[kb]? = some (.cells (vals.set s v).toArray 36 (0, 0)) ∧ PF7 w0.heap.size (burstV lk bit p) v w)] [(12, fun w w' => World.grownBy w w' (some kb))] [(3, fun w => w.heap[d]? = some (.cells #[.bool st.off, .int .i64 st.armed, kv, .int .i64 st.size, .slice (some ⟨kb, 0, none⟩) st.kept.length st.kept.length, pv, .map (some mb), .int .i64 st.writes, .int .i64 st.reads] 51 (0, 0))), (7, fun w => DkIn w Z d st ∧ w0.heap.size ≤ w.heap.size), (10, fun w => w0.heap.size ≤ w.heap.size), (12, fun w => w.heap[kb]? = some (.cells vals.toArray 36 (0, 0))), (13, fun w => World.grownBy w0 w (some kb))] [19, 20, 21, 22, 23, 24, 25, 26, 27, 28, 29, 30, 70] [[], [0], [1], [2], [], [], [], [5, 6], [], [], [7, 8, 9], [3, 4], [10, 11]] [0, 1, 2, 3, 4, 5, 6, 7, 8, 9, 10, 11, 12] 13 (by kernel_rfl) ⟨eqV_stays _, eqV_stays _, eqV_stays _, eqV_stays _, eqV_stays _, eqV_stays _, eqV_stays _, fun _ _ _ p b => PF7.below p b, eqV_stays _, eqV_stays _, fun _ _ _ p b => PF7.below p b, eqV_stays _, fun _ _ _ ⟨y, p, z⟩ b => ⟨y, row_keep p b, z.below b⟩, trivial⟩ ⟨⟨.inl (eqV_stays _), .inl (eqV_stays _), .inl (eqV_stays _), .inl (eqV_stays _), .inl (eqV_stays _), .inl (eqV_stays _), .inl (eqV_stays _), .inl (fun _ _ _ p g => PF7.grown p g hkB), .inl (eqV_stays _), .inl (eqV_stays _), .inl (fun _ _ _ p g => PF7.grown p g hkB), .inl (eqV_stays _), .inr (.inr rfl), trivial⟩, trivial⟩ ⟨fun _ _ p b => row_keep p b, fun _ _ p b => ⟨DkIn.below p.1 b, Nat.le_trans p.2 b.size⟩, fun _ _ p b => Nat.le_trans p b.size, fun _ _ p b => row_keep p b, fun _ _ p b => grownB p b, trivial⟩ ⟨⟨.inr (.inl (by kernel_rfl)), .inr (.inl (by kernel_rfl)), .inr (.inl (by kernel_rfl)), .inr (.inr rfl), .inl (fun _ _ p g => World.grownBy.trans p g), trivial⟩, trivial⟩ ⟨hrow3, ⟨hdk3, hwz3⟩, hwz3, hkr3, hB3, trivial⟩ 58 rfl (by kernel_rfl) (by kernel_rfl) rfl rfl 13 rfl ?q1obl ?q1fin
    case q1obl =>
      refine And.intro ?q1o0 (And.intro ?q1o1 (And.intro ?q1o2 (And.intro ?q1o3 (And.intro ?q1o4 (And.intro ?q1o5 (And.intro ?q1o6 (And.intro ?q1o7 (And.intro ?q1o8 (And.intro ?q1o9 (And.intro ?q1o10 (And.intro ?q1o11 (And.intro ?q1o12 (True.intro)))))))))))))
      case q1o0 =>
        intro w1 hI
        refine turn2_on (by rfl) ?_
        intro K hK
        go_simp
        refine hK _ _ ⟨rfl, Kept.refl _, ?_⟩
        show _ = _
        simp only [gv1]
        rfl
      case q1o1 =>
        intro w1 hI
        intro v0 h0
        change _ = _ at h0
        subst v0
        refine turn2_on (by rfl) ?_
        intro K hK
        simp only [gv2]
        go_simp
        refine hK _ _ ⟨rfl, Kept.refl _, ?_⟩
        show _ = _
        simp only [gv1]
        rfl
      case q1o2 =>
        intro w1 hI
        intro v1 h1
        change _ = _ at h1
        subst v1
        refine turn2_on (by rfl) ?_
        intro K hK
        simp only [gv2]
        go_simp
        refine hK _ _ ⟨rfl, Kept.refl _, ?_⟩
        show _ = _
        simp only [gv1]
        rfl
      case q1o3 =>
        intro w1 hI
        replace hI : (fun w => w.heap[d]? = some (.cells #[.bool st.off, .int .i64 st.armed, kv, .int .i64 st.size, .slice (some ⟨kb, 0, none⟩) st.kept.length st.kept.length, pv, .map (some mb), .int .i64 st.writes, .int .i64 st.reads] 51 (0, 0))) w1 := hI
        intro v2 h2
        change _ = _ at h2
        subst v2
        refine turn2_on (by rfl) ?_
        intro K hK
        simp only [gv2]
        obtain ⟨c0, c1, c2, c3, c4, c5, c6, c7, c8, cf⟩ := cellsD hI
        go_simp
        refine hK _ _ ⟨rfl, Kept.refl _, ?_⟩
        show _ = _
        simp only [gv1]
        rfl
      case q1o4 =>
        intro w1 hI
        refine turn2_on (by rfl) ?_
        intro K hK
        go_simp
        refine hK _ _ ⟨rfl, Kept.refl _, ?_⟩
        show _ = _
        simp only [gv1]
        rfl
      case q1o5 =>
        intro w1 hI
        refine turn2_on (by rfl) ?_
        intro K hK
        go_simp
        refine hK _ _ ⟨rfl, Kept.refl _, ?_⟩
        show _ = _
        simp only [gv1]
        rfl
      case q1o6 =>
        intro w1 hI
        refine turn2_on (by rfl) ?_
        intro K hK
        go_simp
        refine hK _ _ ⟨rfl, Kept.refl _, ?_⟩
        show _ = _
        simp only [gv1]
        rfl
      case q1o7 =>
        intro w1 hI
        replace hI : (fun w => DkIn w Z d st ∧ w0.heap.size ≤ w.heap.size) w1 := hI
        intro v5 h5
        change _ = _ at h5
        subst v5
        intro v6 h6
        change _ = _ at h6
        subst v6
        refine turn2_on (by rfl) ?_
        intro K hK
        simp only [gv2]
        obtain ⟨hI, hwz⟩ := hI
        go_simp
        refine Calls.mono (HBY.out w1 hI) ?_
        rintro e w9 ⟨v9, rfl, ho9, hb9⟩
        refine hK _ _ ⟨rfl, hb9, ?_⟩
        show PF7 _ _ _ _
        simp only [gv1]
        exact Owns.mono ho9 hwz
      case q1o8 =>
        intro w1 hI
        refine turn2_on (by rfl) ?_
        intro K hK
        go_simp
        refine hK _ _ ⟨rfl, Kept.refl _, ?_⟩
        show _ = _
        simp only [gv1]
        rfl
      case q1o9 =>
        intro w1 hI
        refine turn2_on (by rfl) ?_
        intro K hK
        go_simp
        refine hK _ _ ⟨rfl, Kept.refl _, ?_⟩
        show _ = _
        simp only [gv1]
        rfl
      case q1o10 =>
        intro w1 hI
        replace hI : (fun w => w0.heap.size ≤ w.heap.size) w1 := hI
        intro v7 h7
        obtain ⟨a7, c7, rfl⟩ := Owns.shape h7
        intro v8 h8
        change _ = _ at h8
        subst v8
        intro v9 h9
        change _ = _ at h9
        subst v9
        refine turn2_on (by rfl) ?_
        intro K hK
        simp only [gv2]
        go_simp
        refine Calls.mono (burst_any a7 _ c7 lk bit p w1 (Owns.rd h7) HBL.out) ?_
        rintro e w9 ⟨v9, rfl, ho9, hb9⟩
        refine hK _ _ ⟨rfl, hb9, ?_⟩
        show PF7 _ _ _ _
        simp only [gv1]
        exact Owns.mono ho9 hI
      case q1o11 =>
        intro w1 hI
        intro v3 h3
        change _ = _ at h3
        subst v3
        intro v4 h4
        change _ = _ at h4
        subst v4
        refine turn2_on (by rfl) ?_
        intro K hK
        simp only [gv2]
        go_simp
        refine hK _ _ ⟨rfl, Kept.refl _, ?_⟩
        show _ = _
        simp only [gv1]
        rfl
      case q1o12 =>
        intro w1 hI
        replace hI : (fun w => w.heap[kb]? = some (.cells vals.toArray 36 (0, 0))) w1 := hI
        intro v10 h10
        obtain ⟨a10, c10, rfl⟩ := Owns.shape h10
        intro v11 h11
        change _ = _ at h11
        subst v11
        refine turn2_on (by rfl) ?_
        intro K hK
        simp only [gv2]
        have hkc : w1.cell? ⟨kb, s, none⟩ = some (vals[s]'HVL.out) := by rw [cell_of_row w1 _ _ _ _ _ hI]; simp [HVL.out]
        have hkf := frozen_of_row w1 _ s _ _ hI
        go_simp
        refine hK _ _ ⟨rfl, put_grown _ _ _ _, ?_⟩
        exact ⟨_, by rw [heap_setCell_same _ kb s _ _ _ hI]; simp, PF7.grown h10 (put_grown _ _ _ _) hkB⟩
    intro w1 hI
    replace hI : (fun w => World.grownBy w0 w (some kb)) w1 := hI
    intro v0 h0
    change _ = _ at h0
    subst v0
    intro v1 h1
    change _ = _ at h1
    subst v1
    intro v2 h2
    change _ = _ at h2
    subst v2
    intro v3 h3
    change _ = _ at h3
    subst v3
    intro v4 h4
    change _ = _ at h4
    subst v4
    intro v5 h5
    change _ = _ at h5
    subst v5
    intro v6 h6
    change _ = _ at h6
    subst v6
    intro v7 h7
    obtain ⟨a7, c7, rfl⟩ := Owns.shape h7
    intro v8 h8
    change _ = _ at h8
    subst v8
    intro v9 h9
    change _ = _ at h9
    subst v9
    intro v10 h10
    obtain ⟨a10, c10, rfl⟩ := Owns.shape h10
    intro v11 h11
    change _ = _ at h11
    subst v11
    intro v12 h12
    simp only [Given, gv2]
    obtain ⟨v3, hkr4, hpf⟩ := h12
    have hw0 := HW0.out
    subst hw0
    obtain ⟨wA, hwA⟩ : ∃ wA, w1 = wA := ⟨_, rfl⟩
    subst w1
    obtain ⟨Z4, hZ4⟩ : ∃ Z4 : Nat → Prop, (fun x => Z x ∨ (w0.heap.size ≤ x ∧ x < wA.heap.size)) = Z4 := ⟨_, rfl⟩
    obtain ⟨st4, hst4⟩ : ∃ st4 : Dk, ({ st with kept := st.kept.set s (burstV lk bit p) } : Dk) = st4 := ⟨_, rfl⟩
    have hp4 : DkP wA Z4 d kb mb pv kv (vals.set s v3) pvs st4 := by
      rw [← hZ4, ← hst4]
      exact PP.out.lay hz s (burstV lk bit p) (by rw [burstV_len]; exact HKL.out) v3 hpf hI hkr4
    have hz4 : ∀ x, Z4 x → x < wA.heap.size := by
      rw [← hZ4]
      rintro x (hx | hx)
      · exact Nat.lt_of_lt_of_le (hz x hx) hI.size
      · exact hx.2
    have ht4 : Tnd Z Z4 w0 wA := by
      rw [← hZ4]
      exact ⟨hI.os, hI.tape, hI.output, hI.size, fun x hx hzx => hI.block x hx (fun e => hzx (by rw [Option.some.inj e]; exact PP.out.z kb (.inr (.inl rfl)))), fun x hx => hx.imp id (·.1)⟩
    have hpe : st4.pend = st.pend := by rw [← hst4]
    have hsz4 : st4.size = st.size := by rw [← hst4]
    have HE4 : Hid (burS st s bit p = { st4 with pend := st4.pend.map (burF s bit p) }) := by
      show _ = _
      rw [HE.out, ← hst4]
    have P4 := Lib.hid hp4
    have T4 := Lib.hid ht4
    clear hZ4 hst4 hpe hsz4 HE hI hkr4 hpf ht4 hrow3 hkr3 hdk3 hB3 hkB HKL HBL HVL HW0 hwz3 PP H
    obtain ⟨n, hn⟩ : ∃ n, st4.pend.length = n := ⟨_, rfl⟩
    have HN := Lib.hid hn
    obtain ⟨pa, pc, hpv⟩ := owns_shape hp4.prow
    rw [hn] at hpv
    subst hpv
    obtain ⟨c0, c1, c2, c3, c4, c5, c6, c7, c8, cf⟩ := cellsD hp4.row
    have hfew := hp4.ok.few
    rw [hn] at hfew
    clear hp4 hn
    go_wp2_with fail
    go_loopw [36] (fun i wr => ∃ (k : Nat) (Z5 : Nat → Prop) (pvs5 : List Value), k ≤ n ∧ i = .int .i64 k ∧ Hid (DkP wr Z5 d kb mb (.slice pa n pc) kv (vals.set s v3) pvs5 { st4 with pend := mapTo (burF s bit p) k st4.pend }) ∧ Hid (∀ x, Z5 x → x < wr.heap.size) ∧ Hid (Tnd Z4 Z5 wA wr)) (fun i _ => n - (intOf i).toNat)
    case atStart => exact ⟨0, Z4, pvs, by omega, rfl, by rw [mapTo_zero]; exact P4.out, hz4, Tnd.refl _ _⟩
    case round =>
      clear c0 c1 c2 c3 c4 c5 c6 c7 c8 cf
      obtain ⟨k, Z5, pvs5, hk, rfl, P5, HZ5, T5⟩ := hrel
      by_cases hp : k < n
      · obtain ⟨⟨t, l9⟩, hpk0⟩ : ∃ x, st4.pend[k]? = some x := ⟨_, List.getElem?_eq_getElem (by rw [HN.out]; exact hp)⟩
        obtain ⟨σ, hσ⟩ : ∃ σ : Dk, ({ st4 with pend := mapTo (burF s bit p) k st4.pend } : Dk) = σ := ⟨_, rfl⟩
        rw [hσ] at P5
        have hpk : σ.pend[k]? = some (t, l9) := by rw [← hσ]; show (mapTo _ k st4.pend)[k]? = _; rw [mapTo_at]; exact hpk0
        have hpl : σ.pend.length = n := by rw [← hσ]; show (mapTo _ k st4.pend).length = _; rw [mapTo_len]; exact HN.out
        have HPL := Lib.hid hpl
        obtain ⟨v9, hvk, hv⟩ := P5.out.pvals.get hpk
        obtain ⟨g, ga, hgc1, hgc2⟩ := pend_cells P5.out.prow hvk hpk (by rw [hpl]; exact hp)
        obtain ⟨b9, o9, n9, c9, rfl, hr9, hn9, hm9, hz9⟩ := hv
        have hpok := P5.out.ok.pend _ (List.mem_of_getElem? hpk)
        have hp1 : l9.length = σ.size := hpok.1
        have hp2 : 0 ≤ t ∧ t < σ.kept.length := hpok.2
        have hns := P5.out.ok.n
        obtain ⟨cg, hpv'⟩ := ga
        injection hpv' with q1 q2 q3
        subst q1 q3
        clear q2
        rw [show 2 * k = k * 2 by omega] at hgc1 hgc2
        have hgZ : Z5 g := P5.out.z g (.inr (.inr (.inr rfl)))
        have HNS : Hid ({ st4 with pend := mapTo (burF s bit p) (k + 1) st4.pend } = { σ with pend := σ.pend.set k (burF s bit p (t, l9)) }) := by
          show _ = _
          rw [mapTo_succ _ hpk0, ← hσ]
        have HS4 : Hid (σ.size ≤ 4096) := P5.out.ok.size.2
        have HPK := Lib.hid hpk
        have HP1 := Lib.hid hp1
        have HR9 := Lib.hid hr9
        have hn91 : n9 ≤ 1000000000 := by have := hr9.len; have := HS4.out; omega
        have HN9 := Lib.hid hn91
        have hXL : (pendC σ.pend pvs5).length = n * 2 := by rw [pendC_len P5.out.pvals.1, hpl]
        have HXL := Lib.hid hXL
        clear hpk0 hσ hpk hpl hvk hpok hp1 hr9 hn91 hXL
        have key : ∃ w2, wr.alloc (.cells #[.int .i64 t, .slice (some ⟨b9, o9, none⟩) n9 c9] 104) = w2 ∧ Hid (Below wr.heap.size wr w2) ∧ Hid (w2.heap[wr.heap.size]? = some (.cells #[.int .i64 t, .slice (some ⟨b9, o9, none⟩) n9 c9] 104 (0, 0))) ∧ Hid (DkP w2 Z5 d kb mb (.slice (some ⟨g, 0, none⟩) n pc) kv (vals.set s v3) pvs5 σ) ∧ Hid (∀ x, Z5 x → x < w2.heap.size) ∧ Hid (Tnd Z4 Z5 wA w2) := by
          obtain ⟨w2, hw2⟩ : ∃ w2, wr.alloc (.cells #[.int .i64 t, .slice (some ⟨b9, o9, none⟩) n9 c9] 104) = w2 := ⟨_, rfl⟩
          have hb2 : Below wr.heap.size wr w2 := by rw [← hw2]; exact (Below.refl _ _).alloc (Nat.le_refl _) _
          refine ⟨w2, hw2, hb2, by show _ = _; rw [← hw2]; exact heap_alloc_new _ _, P5.out.same (fun x hx => hb2.block x (HZ5.out x hx)), fun x hx => Nat.lt_of_lt_of_le (HZ5.out x hx) hb2.size, ⟨hb2.os.trans T5.out.os, hb2.tape.trans T5.out.tape, hb2.output.trans T5.out.output, Nat.le_trans T5.out.size hb2.size, fun x hx hzx => by rw [hb2.block x (Nat.lt_of_lt_of_le hx T5.out.size)]; exact T5.out.block x hx hzx, T5.out.sub⟩⟩
        obtain ⟨w2, hw2, HB2, HT5, P6, HZ6, T6⟩ := key
        have HW2 := Lib.hid hw2
        clear hw2
        by_cases hts : t = s
        · subst hts
          go_wp2_with fail
          rw [HW2.out]
          clear HW2
          have ht5 := HT5.out
          obtain ⟨t50, t51⟩ := cells2 ht5
          obtain ⟨tb, htb⟩ : ∃ tb, wr.heap.size = tb := ⟨_, rfl⟩
          rw [htb] at t50 t51 ht5
          rw [htb]
          clear hgc1 hgc2 htb HT5
          have hrow8 : w2.drew.heap[d]? = some (.cells #[.bool σ.off, .int .i64 σ.armed, kv, .int .i64 σ.size, .slice (some ⟨kb, 0, none⟩) σ.kept.length σ.kept.length, .slice (some ⟨g, 0, none⟩) n pc, .map (some mb), .int .i64 σ.writes, .int .i64 σ.reads] 51 (0, 0)) := P6.out.row
          have htb8 : w2.drew.heap[tb]? = some (.cells #[.int .i64 (s : Int), .slice (some ⟨b9, o9, none⟩) n9 c9] 104 (0, 0)) := ht5
          have hrd8 : RdAt .u8 w2.drew (some ⟨b9, o9, none⟩) n9 c9 l9 := (HR9.out.below HB2.out).at0 rfl
          have hown8 : w2.drew.ownsRow 0 104 2 (.slice (some ⟨g, 0, none⟩) n pc) σ.pend.length (pendC σ.pend pvs5) := P6.out.prow
          have hB8 : w2.grownBy w2.drew (some g) := ⟨rfl, rfl, rfl, Nat.le_refl _, fun _ _ _ => rfl⟩
          have hgB : ∀ x, some g = some x → x < w2.heap.size := fun x hx => by injection hx with hx; subst hx; exact HZ6.out _ hgZ
          have hg0 : k * 2 + 1 < n * 2 := by omega
          have e1 : g + 0 = g := rfl
          clear ht5 e1
          refine' reg_order [eqV _, eqV _, eqV _, eqV _, eqV _, eqV _, eqV _, eqV _, eqV _, (PF7 w2.heap.size (burstV l9 bit p)), eqV _, eqV _, (fun _ w => ∃ v, World.ownsRow w 0 104 2 (.slice (some ⟨g, 0, none⟩) n pc) σ.pend.length ((pendC σ.pend pvs5).set (k * 2 + 1) v) ∧ PF7 w2.heap.size (burstV l9 bit p) v w)] [(12, fun w w' => World.grownBy w w' (some g))] [(3, fun w => w.heap[d]? = some (.cells #[.bool σ.off, .int .i64 σ.armed, kv, .int .i64 σ.size, .slice (some ⟨kb, 0, none⟩) σ.kept.length σ.kept.length, .slice (some ⟨g, 0, none⟩) n pc, .map (some mb), .int .i64 σ.writes, .int .i64 σ.reads] 51 (0, 0))), (6, fun w => w.heap[tb]? = some (.cells #[.int .i64 (s : Int), .slice (some ⟨b9, o9, none⟩) n9 c9] 104 (0, 0))), (9, fun w => RdAt .u8 w (some ⟨b9, o9, none⟩) n9 c9 l9 ∧ w2.heap.size ≤ w.heap.size), (12, fun w => World.ownsRow w 0 104 2 (.slice (some ⟨g, 0, none⟩) n pc) σ.pend.length (pendC σ.pend pvs5)), (13, fun w => World.grownBy w2 w (some g))] [45, 46, 47, 48, 49, 50, 51, 52, 53, 54, 55, 56, 70] [[], [0], [1], [2], [], [], [5], [], [], [6, 7, 8], [3, 4], [10], [9, 11]] [0, 1, 2, 3, 4, 5, 6, 7, 8, 9, 10, 11, 12] 13 (by kernel_rfl) ⟨eqV_stays _, eqV_stays _, eqV_stays _, eqV_stays _, eqV_stays _, eqV_stays _, eqV_stays _, eqV_stays _, eqV_stays _, fun _ _ _ p b => PF7.below p b, eqV_stays _, eqV_stays _, fun _ _ _ ⟨y, p, z⟩ b => ⟨y, ownsRow_at p (fun g hg => b.block g (World.ownsRow.lt p g hg).2), z.below b⟩, trivial⟩ ⟨⟨.inl (eqV_stays _), .inl (eqV_stays _), .inl (eqV_stays _), .inl (eqV_stays _), .inl (eqV_stays _), .inl (eqV_stays _), .inl (eqV_stays _), .inl (eqV_stays _), .inl (eqV_stays _), .inl (fun _ _ _ p g => PF7.grown p g hgB), .inl (eqV_stays _), .inl (eqV_stays _), .inr (.inr rfl), trivial⟩, trivial⟩ ⟨fun _ _ p b => row_keep p b, fun _ _ p b => row_keep p b, fun _ _ p b => ⟨p.1.below b, Nat.le_trans p.2 b.size⟩, fun _ _ p b => ownsRow_at p (fun g hg => b.block g (World.ownsRow.lt p g hg).2), fun _ _ p b => grownB p b, trivial⟩ ⟨⟨.inr (.inl (by kernel_rfl)), .inr (.inl (by kernel_rfl)), .inr (.inl (by kernel_rfl)), .inr (.inr rfl), .inl (fun _ _ p g => World.grownBy.trans p g), trivial⟩, trivial⟩ ⟨hrow8, htb8, ⟨hrd8, Nat.le_refl _⟩, hown8, hB8, trivial⟩ 58 rfl (by kernel_rfl) (by kernel_rfl) rfl rfl 13 rfl ?q2obl ?q2fin
          case q2obl =>
            refine And.intro ?q2o0 (And.intro ?q2o1 (And.intro ?q2o2 (And.intro ?q2o3 (And.intro ?q2o4 (And.intro ?q2o5 (And.intro ?q2o6 (And.intro ?q2o7 (And.intro ?q2o8 (And.intro ?q2o9 (And.intro ?q2o10 (And.intro ?q2o11 (And.intro ?q2o12 (True.intro)))))))))))))
            case q2o0 =>
              intro w1 hI
              refine turn2_on (by rfl) ?_
              intro K hK
              go_simp
              refine hK _ _ ⟨rfl, Kept.refl _, ?_⟩
              show _ = _
              simp only [gv1]
              rfl
            case q2o1 =>
              intro w1 hI
              intro v0 h0
              change _ = _ at h0
              subst v0
              refine turn2_on (by rfl) ?_
              intro K hK
              simp only [gv2]
              go_simp
              refine hK _ _ ⟨rfl, Kept.refl _, ?_⟩
              show _ = _
              simp only [gv1]
              rfl
            case q2o2 =>
              intro w1 hI
              intro v1 h1
              change _ = _ at h1
              subst v1
              refine turn2_on (by rfl) ?_
              intro K hK
              simp only [gv2]
              go_simp
              refine hK _ _ ⟨rfl, Kept.refl _, ?_⟩
              show _ = _
              simp only [gv1]
              rfl
            case q2o3 =>
              intro w1 hI
              replace hI : (fun w => w.heap[d]? = some (.cells #[.bool σ.off, .int .i64 σ.armed, kv, .int .i64 σ.size, .slice (some ⟨kb, 0, none⟩) σ.kept.length σ.kept.length, .slice (some ⟨g, 0, none⟩) n pc, .map (some mb), .int .i64 σ.writes, .int .i64 σ.reads] 51 (0, 0))) w1 := hI
              intro v2 h2
              change _ = _ at h2
              subst v2
              refine turn2_on (by rfl) ?_
              intro K hK
              simp only [gv2]
              obtain ⟨c0, c1, c2, c3, c4, c5, c6, c7, c8, cf⟩ := cellsD hI
              go_simp
              refine hK _ _ ⟨rfl, Kept.refl _, ?_⟩
              show _ = _
              simp only [gv1]
              rfl
            case q2o4 =>
              intro w1 hI
              refine turn2_on (by rfl) ?_
              intro K hK
              go_simp
              refine hK _ _ ⟨rfl, Kept.refl _, ?_⟩
              show _ = _
              simp only [gv1]
              rfl
            case q2o5 =>
              intro w1 hI
              refine turn2_on (by rfl) ?_
              intro K hK
              go_simp
              refine hK _ _ ⟨rfl, Kept.refl _, ?_⟩
              show _ = _
              simp only [gv1]
              rfl
            case q2o6 =>
              intro w1 hI
              replace hI : (fun w => w.heap[tb]? = some (.cells #[.int .i64 (s : Int), .slice (some ⟨b9, o9, none⟩) n9 c9] 104 (0, 0))) w1 := hI
              intro v5 h5
              change _ = _ at h5
              subst v5
              refine turn2_on (by rfl) ?_
              intro K hK
              simp only [gv2]
              obtain ⟨t50, t51⟩ := cells2 hI
              go_simp
              refine hK _ _ ⟨rfl, Kept.refl _, ?_⟩
              show _ = _
              simp only [gv1]
              rfl
            case q2o7 =>
              intro w1 hI
              refine turn2_on (by rfl) ?_
              intro K hK
              go_simp
              refine hK _ _ ⟨rfl, Kept.refl _, ?_⟩
              show _ = _
              simp only [gv1]
              rfl
            case q2o8 =>
              intro w1 hI
              refine turn2_on (by rfl) ?_
              intro K hK
              go_simp
              refine hK _ _ ⟨rfl, Kept.refl _, ?_⟩
              show _ = _
              simp only [gv1]
              rfl
            case q2o9 =>
              intro w1 hI
              replace hI : (fun w => RdAt .u8 w (some ⟨b9, o9, none⟩) n9 c9 l9 ∧ w2.heap.size ≤ w.heap.size) w1 := hI
              intro v6 h6
              change _ = _ at h6
              subst v6
              intro v7 h7
              change _ = _ at h7
              subst v7
              intro v8 h8
              change _ = _ at h8
              subst v8
              refine turn2_on (by rfl) ?_
              intro K hK
              simp only [gv2]
              obtain ⟨hI, hwz⟩ := hI
              go_simp
              refine Calls.mono (burst_any (some ⟨b9, o9, none⟩) n9 c9 l9 bit p w1 hI HN9.out) ?_
              rintro e w9 ⟨v9, rfl, ho9, hb9⟩
              refine hK _ _ ⟨rfl, hb9, ?_⟩
              show PF7 _ _ _ _
              simp only [gv1]
              exact Owns.mono ho9 hwz
            case q2o10 =>
              intro w1 hI
              intro v3 h3
              change _ = _ at h3
              subst v3
              intro v4 h4
              change _ = _ at h4
              subst v4
              refine turn2_on (by rfl) ?_
              intro K hK
              simp only [gv2]
              go_simp
              refine hK _ _ ⟨rfl, Kept.refl _, ?_⟩
              show _ = _
              simp only [gv1]
              rfl
            case q2o11 =>
              intro w1 hI
              intro v10 h10
              change _ = _ at h10
              subst v10
              refine turn2_on (by rfl) ?_
              intro K hK
              simp only [gv2]
              go_simp
              refine hK _ _ ⟨rfl, Kept.refl _, ?_⟩
              show _ = _
              simp only [gv1]
              rfl
            case q2o12 =>
              intro w1 hI
              replace hI : (fun w => World.ownsRow w 0 104 2 (.slice (some ⟨g, 0, none⟩) n pc) σ.pend.length (pendC σ.pend pvs5)) w1 := hI
              intro v9 h9
              obtain ⟨a9, c9, rfl⟩ := Owns.shape h9
              intro v11 h11
              change _ = _ at h11
              subst v11
              refine turn2_on (by rfl) ?_
              intro K hK
              simp only [gv2]
              have hgc := own_cell hI (j := k * 2 + 1) (by rw [HXL.out]; omega)
              obtain ⟨⟨u9, hgc⟩, hgf⟩ := hgc
              go_simp
              refine hK _ _ ⟨rfl, put_grown _ _ _ _, ?_⟩
              exact ⟨_, own_set hI (v0 := .bool true) rfl (k * 2 + 1) _, PF7.grown h9 (put_grown _ _ _ _) hgB⟩
          intro w1 hI
          replace hI : (fun w => World.grownBy w2 w (some g)) w1 := hI
          intro v0 h0
          change _ = _ at h0
          subst v0
          intro v1 h1
          change _ = _ at h1
          subst v1
          intro v2 h2
          change _ = _ at h2
          subst v2
          intro v3 h3
          change _ = _ at h3
          subst v3
          intro v4 h4
          change _ = _ at h4
          subst v4
          intro v5 h5
          change _ = _ at h5
          subst v5
          intro v6 h6
          change _ = _ at h6
          subst v6
          intro v7 h7
          change _ = _ at h7
          subst v7
          intro v8 h8
          change _ = _ at h8
          subst v8
          intro v9 h9
          obtain ⟨a9, c9, rfl⟩ := Owns.shape h9
          intro v10 h10
          change _ = _ at h10
          subst v10
          intro v11 h11
          change _ = _ at h11
          subst v11
          intro v12 h12
          simp only [Given, gv2]
          obtain ⟨v8, hown9, hpf9⟩ := h12
          obtain ⟨Z7, hZ7⟩ : ∃ Z7 : Nat → Prop, (fun x => Z5 x ∨ (w2.heap.size ≤ x ∧ x < w1.heap.size)) = Z7 := ⟨_, rfl⟩
          have P7 : Hid (DkP w1 Z7 d kb mb (.slice (some ⟨g, 0, none⟩) n pc) kv (vals.set s v3) (pvs5.set k v8) { st4 with pend := mapTo (burF s bit p) (k + 1) st4.pend }) := by
            show DkP _ _ _ _ _ _ _ _ _ _
            rw [HNS.out, ← hZ7, show burF (s : Int) bit p ((s : Int), l9) = ((s : Int), burstV l9 bit p) from if_pos rfl]
            exact P6.out.layp HZ6.out k s l9 (burstV l9 bit p) HPK.out (by rw [burstV_len]; exact HP1.out) v8 hpf9 g rfl hI hown9
          have HZ8 : Hid (∀ x, Z7 x → x < w1.heap.size) := by
            show ∀ x, Z7 x → _
            rw [← hZ7]
            rintro x (hx | hx)
            · exact Nat.lt_of_lt_of_le (HZ6.out x hx) hI.size
            · exact hx.2
          have T8 : Hid (Tnd Z4 Z7 wA w1) := by
            show Tnd _ _ _ _
            rw [← hZ7]
            exact T6.out.trans ⟨hI.os, hI.tape, hI.output, hI.size, fun x hx hzx => hI.block x hx (fun e => hzx (by rw [Option.some.inj e]; exact hgZ)), fun x hx => hx.imp id (·.1)⟩
          clear hI hown9 hpf9 hrow8 htb8 hrd8 hown8 hB8 hgB hZ7 t50 t51
          go_wp2_with fail
          go_roundw
          case rel => exact ⟨k + 1, Z7, _, by omega, by go_num, P7, HZ8, T8⟩
          case measure => simp [intOf] <;> omega
        · have dts : (t == (s : Int)) = false := by simpa using hts
          have P7 : Hid (DkP w2 Z5 d kb mb (.slice (some ⟨g, 0, none⟩) n pc) kv (vals.set s v3) pvs5 { st4 with pend := mapTo (burF s bit p) (k + 1) st4.pend }) := by
            show DkP _ _ _ _ _ _ _ _ _ _
            rw [HNS.out, show burF (s : Int) bit p (t, l9) = (t, l9) from if_neg hts]
            have e : σ.pend.set k (t, l9) = σ.pend := by
              obtain ⟨hk1, hk2⟩ := List.getElem?_eq_some_iff.1 HPK.out
              rw [← hk2]
              exact List.set_getElem_self hk1
            rw [e]
            exact P6.out
          clear hts
          go_wp2_with fail
          rw [HW2.out]
          go_roundw
          case rel => exact ⟨k + 1, Z5, _, by omega, by go_num, P7, HZ6, T6⟩
          case measure => simp [intOf] <;> omega
      · obtain rfl : k = n := by omega
        go_wp2_with fail
        go_ret
        refine ⟨rfl, Z5, ?_, T4.out.trans T5.out⟩
        rw [HE4.out]
        have P9 := P5.out
        rw [← HN.out, mapTo_all] at P9
        exact ⟨HZ5.out, _, _, _, _, _, _, P9⟩
set_option maxRecDepth 100000 in
theorem dburst_any (Z : Nat → Prop) (d : Nat) (st : Dk) (s bit : Int) (p : BitVec 32) (w : World) (h : DkIn w Z d st) (hb1 : bit ≤ 9223372036854775807) :
    Calls Try.prog 30 #[.pointer (some ⟨d, 0, none⟩), .int .i64 s, .int .i64 bit, .int .u32 (rnum p)] w fun e w' => e = .returned (.bool (burB st s bit)) ∧ ∃ Z', DkIn w' Z' d (burS st s bit p) ∧ Tnd Z Z' w w' := by
  cases hb : burB st s bit with
  | false =>
    have e : burS st s bit p = st := by unfold burS; rw [hb, if_neg (by decide)]
    rw [e]
    exact (burst_no Z d st s bit p w h hb).mono fun e w' ⟨h1, h2⟩ => ⟨h1, Z, by rw [← h2]; exact h, by rw [← h2]; exact Tnd.refl _ _⟩
  | true =>
    have hb' := hb
    unfold burB inS at hb'
    simp only [Bool.and_eq_true, decide_eq_true_eq] at hb'
    obtain ⟨k, rfl⟩ := Int.eq_ofNat_of_zero_le hb'.1.1
    exact burst_yes Z d st k bit p w h (by omega) hb'.2 hb1
end Go.Proofs.Ytlhpdkapddnbcaa
