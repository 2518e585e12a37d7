/- ring: record: a record, out of its sectors. -/
import Derived.Test.YtlhpdkapddnbcaaJn0
import Derived.Test.YtlhpdkapddnbcaaJn9
namespace Go.Proofs.Ytlhpdkapddnbcaa
open Go.RowKit
theorem rd_take {kd : IntKind} {w : World} {a : Option Addr} {n c : Nat} {l : List Int} (h : RdAt kd w a n c l) (m : Nat) (hm : m ≤ n) : RdAt kd w a m c (l.take m) :=
  ⟨by rw [List.length_take, h.len]; omega, Nat.le_trans hm h.cap, h.max, fun i hi => by
    obtain ⟨b, o, e, hc⟩ := h.cell i (by omega)
    refine ⟨b, o, e, ?_⟩
    rw [hc]
    simp [nth, List.getD, hi], fun x hx => h.wf x (List.mem_of_mem_take hx), h.void⟩
theorem rec_gt {nn : Nat} {M : Int} (hM : M = 67108864) (q : ¬ (nn : Int) ≤ M) : decide (67108864 < (nn : Int)) = true := decide_eq_true (by omega)
theorem rec_le {nn : Nat} {M : Int} (hM : M = 67108864) (q : (nn : Int) ≤ M) : decide (67108864 < (nn : Int)) = false := decide_eq_false (by omega)
theorem rec_nat {nn : Nat} {M : Int} (hM : M = 67108864) (q : (nn : Int) ≤ M) : nn ≤ 67108864 := by omega
/-- A disk behind so many reads. -/
def Dk.rd (st : Dk) (R : Int) : Dk := { st with reads := R }
/-- A part of a record, out of what its sector holds. -/
def recK (b : List Int) (number : Int) (k len : Nat) : Bool := decide (getK b 8 = number) && decide (getK (b.drop 8) 2 = k) && decide (getK (b.drop 10) 4 ≤ 67108864) && (decide (k = 0) || decide (getK (b.drop 10) 4 = len))
def recP (size : Nat) (b out : List Int) : Nat × List Int := ((getK (b.drop 10) 4).toNat, out ++ (b.drop 14).take (min ((getK (b.drop 10) 4).toNat - out.length) (size - 18)))
def recS (size : Nat) (x : List Int) (number : Int) (k len : Nat) (out : List Int) : Option (Nat × List Int) := if openOk x = true then (if recK (openL x) number k len = true then some (recP size (openL x) out) else none) else none
def recGo (kx : Nat → List Int) (lo n size at0 : Nat) (number : Int) : Nat → Nat → Nat → List Int → Option (List Int)
  | 0, k, len, out => if k = 0 ∨ k < ndN size len then none else some out
  | f + 1, k, len, out => if k = 0 ∨ k < ndN size len then (recS size (kx (lo + 2 + (at0 + k) % (n - 2))) number k len out).bind fun p => recGo kx lo n size at0 number f (k + 1) p.1 p.2 else some out
def recF (kx : Nat → List Int) (lo n size at0 : Nat) (number : Int) (most : Nat) : Option (List Int) := recGo kx lo n size at0 number most 0 0 []
def RecE (hb : Nat) (o : Option (List Int)) (e : Ending) (w' : World) : Prop := match o with
  | none => e = .returned (.tuple #[.slice none 0 0, .int .i64 20])
  | some l => ∃ v, e = .returned (.tuple #[v, .int .i64 0]) ∧ Owns .u8 5 w' hb v l
/-- A call that reads a journal, under way since w0. -/
structure RdL (Q : Nat → Prop) (r d : Nat) (st : Dk) (J : Jr) (w0 w : World) : Prop where
  ri : RiIn w Q r d st J
  tnd : Tnd Q Q w0 w
  q : ∀ k, Q k → k < w0.heap.size
section
variable {Q : Nat → Prop} {r d : Nat} {st st' : Dk} {J : Jr} {w0 w w' : World}
theorem RdL.below (h : RdL Q r d st J w0 w) (b : Below w.heap.size w w') : RdL Q r d st J w0 w' := ⟨h.ri.below b, h.tnd.below_r b, h.q⟩
theorem RdL.drew (h : RdL Q r d st J w0 w) : RdL Q r d st J w0 w.drew := h.below ⟨rfl, rfl, rfl, Nat.le_refl _, fun _ _ => rfl⟩
theorem Tnd.low {Z : Nat → Prop} {w w1 w2 : World} (t : Tnd Z Z w w1) (b : Below w.heap.size w1 w2) : Tnd Z Z w w2 :=
  ⟨b.os.trans t.os, b.tape.trans t.tape, b.output.trans t.output, Nat.le_trans t.size b.size, fun k hk hz => (b.block k hk).trans (t.block k hk hz), t.sub⟩
theorem RdL.low (h : RdL Q r d st J w0 w) (b : Below w0.heap.size w w') : RdL Q r d st J w0 w' := ⟨h.ri.keep (fun k hk => b.block k (h.q k hk)) b.size, h.tnd.low b, h.q⟩
theorem RdL.turn (h : RdL Q r d st J w0 w) (hr : RiIn w' Q r d st' J) (t : Tnd Q Q w w') : RdL Q r d st' J w0 w' := ⟨hr, h.tnd.trans t, h.q⟩
theorem Owns.tnd_ {k : IntKind} {e : TypeId} {base : Nat} {v : Value} {l : List Int} (h : Owns k e w base v l) (t : Tnd Q Q w w') (hz : ∀ g, room v = some g → ¬ Q g) : Owns k e w' base v l := h.ats (fun g hg => t.block g (h.at_base g hg).2 (hz g hg))
end
set_option linter.unusedSimpArgs false in
set_option linter.unusedVariables false in
set_option maxRecDepth 100000 in
set_option maxHeartbeats 8000000 in
theorem record_any (Q : Nat → Prop) (r d : Nat) (st : Dk) (J : Jr) (at0 most : Nat) (num : Int) (w0 : World) (hR : RiIn w0 Q r d st J) (hoff : st.off = false) (hat : at0 ≤ 65536) (hmost : most ≤ 65536) (hnum : 0 ≤ num ∧ num ≤ 18446744073709551615) (hrd : st.reads + 65537 ≤ 4611686018427387904) :
    Calls Try.prog 48 #[.pointer (some ⟨r, 0, none⟩), .int .i64 (at0 : Int), .int .u64 num, .int .i64 (most : Int)] w0 fun e w' => RecE w0.heap.size (recF (secB st) J.lo J.n J.size at0 num most) e w' ∧ (∃ R, st.reads ≤ R ∧ R ≤ st.reads + most ∧ RiIn w' Q r d (st.rd R) J) ∧ Tnd Q Q w0 w' := by
  obtain ⟨RES, hRES⟩ : ∃ RES, recF (secB st) J.lo J.n J.size at0 num most = RES := ⟨_, rfl⟩
  rw [hRES]
  unfold recF at hRES
  obtain ⟨kx, hkx⟩ : ∃ kx, secB st = kx := ⟨_, rfl⟩
  rw [hkx] at hRES
  obtain ⟨S, hS⟩ : ∃ S, J.size = S := ⟨_, rfl⟩
  have hs0 := hR.ok.s0
  have hs1 := hR.ok.s1
  have hn4 := hR.ok.n4
  have hn1 := hR.ok.n1
  have hlo := hR.ok.lo
  rw [hS] at hs0 hs1
  rw [hS] at hRES
  obtain ⟨hb, hhb⟩ : ∃ hb, w0.heap.size = hb := ⟨_, rfl⟩
  have HXL : Hid (∀ s, s < J.lo + J.n → (kx s).length = S) := fun s hs => by
    obtain ⟨⟨Z, sv, hd, _⟩, _, dok, _⟩ := hR
    rw [← hkx, ← hS, ← dok.size]
    exact secB_len hd.okR (by have := dok.n; omega)
  have HRDL : Hid (∀ (R : Int) (s : Nat) (w1 : World), R + 1 ≤ 4611686018427387904 → s < J.lo + J.n → RdL Q r d (st.rd R) J w0 w1 → ∀ (v : Value) {out : List Int}, Owns .u8 5 w1 hb v out → Calls Try.prog 29 #[.pointer (some ⟨d, 0, none⟩), .int .i64 ((s : Nat) : Int)] w1 fun e w' => ∃ a c, e = .returned (.tuple #[.slice a S c, .int .i64 0]) ∧ Owns .u8 5 w' hb (.slice a S c) (kx s) ∧ RdL Q r d (st.rd (R + 1)) J w0 w' ∧ Owns .u8 5 w' hb v out) := by
    intro R s w1 h1 h2 h3 v out ho
    refine (h3.ri.read s h2 hoff h1).mono ?_
    rintro e w2 ⟨a, c, rfl, ho2, h4, ht⟩
    rw [hS] at ho2 ⊢
    have e1 : secB (st.rd R) s = kx s := by rw [← hkx]; rfl
    rw [e1] at ho2
    refine ⟨a, c, rfl, ho2.mono (by have := h3.tnd.size; omega), h3.turn h4 ht, ho.tnd_ ht (fun g hg hq => ?_)⟩
    have := (ho.at_base g hg).1
    have := h3.q g hq
    omega
  have HEND : Hid (∀ (R : Int) (w' : World), st.reads ≤ R → R ≤ st.reads + most → RdL Q r d (st.rd R) J w0 w' → (∃ R, st.reads ≤ R ∧ R ≤ st.reads + most ∧ RiIn w' Q r d (st.rd R) J) ∧ Tnd Q Q w0 w') := fun R w' h1 h2 h3 => ⟨⟨R, h1, h2, h3.ri⟩, h3.tnd⟩
  have G00 : RdL Q r d st J w0 w0 := ⟨hR, Tnd.refl _ _, hR.lt⟩
  have HRES := Lib.hid hRES
  have hrow : ∀ (SS : Dk) (w : World), RdL Q r d SS J w0 w → ∃ sv, w.heap[r]? = some (rowJ d sv J) ∧ JOk J := fun SS w h => by
    obtain ⟨⟨Z, sv, hd, hr, _⟩, ok, _, _⟩ := h.ri
    exact ⟨sv, hr, ok⟩
  have HROW := Lib.hid hrow
  have HNED : Hid (∀ (n : Nat) (sv : Value) (w : World), w.heap[r]? = some (rowJ d sv J) → JOk J → n ≤ 67108864 → Calls Try.prog 34 #[.pointer (some ⟨r, 0, none⟩), .int .i64 (n : Int)] w fun e w' => e = .returned (.int .i64 (ndN S n : Nat)) ∧ w = w') := fun n sv w h1 h2 h3 => by
    rw [← hS]
    exact needs_any r d sv J n w h1 h2 (by omega)
  obtain ⟨rd0, hrd0⟩ : ∃ x, st.reads = x := ⟨_, rfl⟩
  have G0 : Hid (RdL Q r d (st.rd rd0) J w0 w0) := by rw [← hrd0]; exact G00
  rw [hrd0] at hrd HEND
  rw [hhb, hrd0]
  clear hR hRES hoff hkx hrow hrd0 G00
  go_enter Try.func48, Try.ntmps48
  go_wp2_with fail
  go_loopw [10, 11, 12] (fun o ln i wr => ∃ (k len : Nat) (out : List Int) (R : Int), k ≤ most ∧ len ≤ 67108864 ∧ i = .int .i64 k ∧ ln = .int .i64 len ∧ Hid (Owns .u8 5 wr hb o out) ∧ Hid (RdL Q r d ((st.rd R)) J w0 wr) ∧ rd0 ≤ R ∧ R ≤ rd0 + k ∧ Hid (recGo kx J.lo J.n S at0 num (most - k) k len out = RES) ∧ out.length ≤ len ∧ (k = 0 → len = 0)) (fun _ _ i _ => most + 1 - (intOf i).toNat)
  case atStart => exact ⟨0, 0, [], rd0, by omega, by omega, rfl, rfl, Owns.nil _ _ _ _, G0, by omega, by omega, HRES, by simp, fun _ => rfl⟩
  case round =>
    obtain ⟨k, len, out, R, hk, hlen, rfl, rfl, OO, GR, hR1, hR2, HGO, hol, hk0⟩ := hrel
    clear G0 HRES
    obtain ⟨sv, ROW, ok⟩ := HROW.out _ _ GR.out
    have OK := Lib.hid ok
    clear ok
    obtain ⟨no, hno⟩ : ∃ no, out.length = no := ⟨_, rfl⟩
    have HNO := Lib.hid hno
    rw [hno] at hol
    obtain ⟨ao, co, rfl⟩ := OO.out.shapeN no hno
    clear hno
    have more : ∀ (u26 u27 u28 : Value), True := fun _ _ _ => trivial
    clear more
    by_cases hmore : k = 0 ∨ k < ndN S len
    rotate_left
    · have e0 : ¬ k = 0 := fun h => hmore (.inl h)
      have e1 : ¬ k < ndN S len := fun h => hmore (.inr h)
      have HE : Hid (RES = some out) := by
        show _ = _
        rw [← HGO.out]
        cases most - k with
        | zero => unfold recGo; rw [if_neg hmore]
        | succ f => unfold recGo; rw [if_neg hmore]
      obtain ⟨nd, hnd⟩ : ∃ nd, ndN S len = nd := ⟨_, rfl⟩
      rw [hnd] at e1
      have HND := HNED.out len sv
      rw [hnd] at HND
      have d1 : decide ((k : Int) = 0) = false := decide_eq_false (by omega)
      have d2 : ((k : Int) == 0) = false := by simpa using e0
      have d3 : decide ((k : Int) < (nd : Int)) = false := decide_eq_false (by omega)
      clear hmore hnd
      go_wp2_with (first | (go_at_call 34; refine (HND _ ROW OK.out hlen).mono ?_; rintro e w1 ⟨rfl, rfl⟩))
      go_ret2
      rw [HE.out]
      exact ⟨⟨_, rfl, OO.out⟩, HEND.out R _ hR1 (by omega) GR.out⟩
    by_cases hkm : k = most
    · have HE : Hid (RES = none) := by
        show _ = _
        rw [← HGO.out, show most - k = 0 by omega]
        unfold recGo
        rw [if_pos hmore]
      have d4 : ((k : Int) == (most : Int)) = true := by rw [beq_iff_eq]; omega
      by_cases hz : k = 0
      · have d2 : ((k : Int) == 0) = true := by simpa using hz
        clear hmore
        go_wp2_with fail
        go_ret2
        rw [HE.out]
        exact ⟨rfl, HEND.out R _ hR1 (by omega) GR.out⟩
      · obtain ⟨nd, hnd⟩ : ∃ nd, ndN S len = nd := ⟨_, rfl⟩
        have e1 : k < nd := by rw [← hnd]; exact hmore.resolve_left hz
        have HND := HNED.out len sv
        rw [hnd] at HND
        have d2 : ((k : Int) == 0) = false := by simpa using hz
        have d3 : decide ((k : Int) < (nd : Int)) = true := decide_eq_true (by omega)
        clear hnd
        clear hmore
        go_wp2_with (first | (go_at_call 34; refine (HND _ ROW OK.out hlen).mono ?_; rintro e w1 ⟨rfl, rfl⟩))
        go_ret2
        rw [HE.out]
        exact ⟨rfl, HEND.out R _ hR1 (by omega) GR.out⟩
    have d4 : ((k : Int) == (most : Int)) = false := by rw [beq_eq_false_iff_ne]; omega
    have hkl : k < most := by omega
    clear hkm
    obtain ⟨f, hf⟩ : ∃ f, most - k = f + 1 := ⟨most - k - 1, by omega⟩
    have hf2 : most - (k + 1) = f := by omega
    obtain ⟨si, hsi⟩ : ∃ si, J.lo + 2 + (at0 + k) % (J.n - 2) = si := ⟨_, rfl⟩
    have hsi2 : si < J.lo + J.n := by have := Nat.mod_lt (at0 + k) (show 0 < J.n - 2 by omega); omega
    obtain ⟨X, hX⟩ : ∃ X, kx si = X := ⟨_, rfl⟩
    have HGO2 : Hid (((recS S X num k len out).bind fun p => recGo kx J.lo J.n S at0 num f (k + 1) p.1 p.2) = RES) := by
      show _ = _
      rw [← HGO.out, hf, ← hX, ← hsi]
      conv => rhs; unfold recGo
      rw [if_pos hmore]
    have hXL : X.length = S := by rw [← hX]; exact HXL.out si hsi2
    have HXN := Lib.hid hXL
    have HRD : ∀ (w1 : World), RdL Q r d (st.rd R) J w0 w1 → ∀ (v : Value), Owns .u8 5 w1 hb v out → Calls Try.prog 29 #[.pointer (some ⟨d, 0, none⟩), .int .i64 ((si : Nat) : Int)] w1 fun e w' => ∃ a c, e = .returned (.tuple #[.slice a S c, .int .i64 0]) ∧ Owns .u8 5 w' hb (.slice a S c) X ∧ RdL Q r d (st.rd (R + 1)) J w0 w' ∧ Owns .u8 5 w' hb v out := fun w1 h1 v h2 => by
      have := HRDL.out R si w1 (by omega) hsi2 h1 v h2
      rw [hX] at this
      exact this
    replace HRD := Lib.hid HRD
    have hmd := Nat.mod_lt (at0 + k) (show 0 < J.n - 2 by omega)
    have HM : ((at0 : Int) + (k : Int)).tmod ((J.n : Int) - 2) = (((at0 + k) % (J.n - 2) : Nat) : Int) := by
      rw [Int.tmod_eq_emod_of_nonneg (by omega), Int.natCast_emod, Int.natCast_add, Int.natCast_sub (by omega)]
      rfl
    have HS1p : IntKind.i64.wrap (IntKind.i64.wrap ((J.lo : Int) + 2) + (IntKind.i64.wrap ((at0 : Int) + (k : Int))).tmod ((J.n : Int) - 2)) = ((si : Nat) : Int) := by
      rw [i64_small (x := (at0 : Int) + (k : Int)) (by omega) (by omega), i64_small (x := (J.lo : Int) + 2) (by omega) (by omega), HM, i64_small (by omega) (by omega)]
      omega
    have HS1z : k = 0 → IntKind.i64.wrap (IntKind.i64.wrap ((J.lo : Int) + 2) + (IntKind.i64.wrap (at0 : Int)).tmod ((J.n : Int) - 2)) = ((si : Nat) : Int) := fun h => by
      rw [← HS1p, h, Int.natCast_zero, Int.add_zero]
    replace HS1p := Lib.hid HS1p
    replace HS1z := Lib.hid HS1z
    have dn : (((J.n : Int) - 2) == 0) = false := by rw [beq_eq_false_iff_ne]; omega
    have dn2 : ((J.n : Int) - 2) ≠ 0 := by omega
    have dn3 : ((J.n : Int) - 2) ≠ -1 := by omega
    clear HGO hX hXL hf hsi HM hmd
    by_cases hz : k = 0
    · have d2 : ((k : Int) == 0) = true := by simpa using hz
      clear hmore
      have HS1 := Lib.hid (HS1z.out hz)
      go_wp2_with fail
      refine' reg_order [eqV _, eqV _, eqV _, eqV _, eqV _, eqV _, eqV _, eqV _, eqV _, eqV _, eqV _, eqV _, eqV _, eqV _, eqV _, eqV _, fun v w => (∃ a c, v = Value.tuple #[Value.slice a S c, Value.int .i64 0] ∧ Owns .u8 5 w hb (Value.slice a S c) X) ∧ RdL Q r d (st.rd (R + 1)) J w0 w ∧ Owns .u8 5 w hb (Value.slice ao no co) out, fun v w => ∃ a c, v = Value.tuple #[Value.slice a S c, Value.int .i64 0] ∧ Owns .u8 5 w hb (Value.slice a S c) X, fun v w => ∃ a c, v = Value.slice a S c ∧ Owns .u8 5 w hb (Value.slice a S c) X, eqV _, fun v w => ∃ a c, v = Value.slice a S c ∧ Owns .u8 5 w hb (Value.slice a S c) X, eqV _] [(16, fun w w' => True)] [(3, fun w => w.heap[r]? = some (rowJ d sv J)), (7, fun w => w.heap[r]? = some (rowJ d sv J)), (13, fun w => w.heap[r]? = some (rowJ d sv J)), (16, fun w => RdL Q r d (st.rd R) J w0 w ∧ Owns .u8 5 w hb (Value.slice ao no co) out)] [38, 39, 40, 41, 42, 43, 44, 45, 46, 47, 48, 49, 50, 51, 52, 53, 54, 37, 55, 56, 13, 14] [[], [0], [1], [2], [], [4], [5], [6], [7], [], [], [9, 10], [], [12], [11, 13], [8, 14], [3, 15], [16], [17], [17], [18], [19]] [0, 1, 2, 3, 4, 5, 6, 7, 8, 9, 10, 11, 12, 13, 14, 15, 16, 17, 18, 19, 20, 21] 22 (by kernel_rfl) ⟨eqV_stays _, eqV_stays _, eqV_stays _, eqV_stays _, eqV_stays _, eqV_stays _, eqV_stays _, eqV_stays _, eqV_stays _, eqV_stays _, eqV_stays _, eqV_stays _, eqV_stays _, eqV_stays _, eqV_stays _, eqV_stays _, fun _ _ _ p b => ⟨p.1.elim fun a q => q.elim fun c q => ⟨a, c, q.1, q.2.below b⟩, p.2.1.below b, p.2.2.below b⟩, fun _ _ _ p b => p.elim fun a q => q.elim fun c q => ⟨a, c, q.1, q.2.below b⟩, fun _ _ _ p b => p.elim fun a q => q.elim fun c q => ⟨a, c, q.1, q.2.below b⟩, eqV_stays _, fun _ _ _ p b => p.elim fun a q => q.elim fun c q => ⟨a, c, q.1, q.2.below b⟩, eqV_stays _, trivial⟩ ⟨⟨.inl (eqV_stays _), .inl (eqV_stays _), .inl (eqV_stays _), .inl (eqV_stays _), .inl (eqV_stays _), .inl (eqV_stays _), .inl (eqV_stays _), .inl (eqV_stays _), .inl (eqV_stays _), .inl (eqV_stays _), .inl (eqV_stays _), .inl (eqV_stays _), .inl (eqV_stays _), .inl (eqV_stays _), .inl (eqV_stays _), .inl (eqV_stays _), .inr (.inr rfl), .inr (.inl (by kernel_rfl)), .inr (.inl (by kernel_rfl)), .inl (eqV_stays _), .inr (.inl (by kernel_rfl)), .inl (eqV_stays _), trivial⟩, trivial⟩ ⟨fun _ _ p b => row_keep p b, fun _ _ p b => row_keep p b, fun _ _ p b => row_keep p b, fun _ _ p b => ⟨p.1.below b, p.2.below b⟩, trivial⟩ ⟨⟨.inr (.inl (by kernel_rfl)), .inr (.inl (by kernel_rfl)), .inr (.inl (by kernel_rfl)), .inr (.inr rfl), trivial⟩, trivial⟩ ⟨ROW, ROW, ROW, ⟨GR.out.drew, OO.out.drew⟩, trivial⟩ 123 rfl (by kernel_rfl) (by kernel_rfl) rfl rfl 22 rfl ?q1obl ?q1fin
      case q1obl =>
        refine And.intro ?q1o0 (And.intro ?q1o1 (And.intro ?q1o2 (And.intro ?q1o3 (And.intro ?q1o4 (And.intro ?q1o5 (And.intro ?q1o6 (And.intro ?q1o7 (And.intro ?q1o8 (And.intro ?q1o9 (And.intro ?q1o10 (And.intro ?q1o11 (And.intro ?q1o12 (And.intro ?q1o13 (And.intro ?q1o14 (And.intro ?q1o15 (And.intro ?q1o16 (And.intro ?q1o17 (And.intro ?q1o18 (And.intro ?q1o19 (And.intro ?q1o20 (And.intro ?q1o21 (True.intro))))))))))))))))))))))
        case q1o0 =>
          intro w1 hI
          refine turn2_on (by rfl) ?_
          intro K hK
          go_simp
          refine hK _ _ ⟨rfl, Kept.refl _, ?_⟩
          show _ = _
          simp only [gv1]
          rfl
        case q1o1 =>
          intro w1 hI
          intro v0 h0
          change _ = _ at h0
          subst v0
          refine turn2_on (by rfl) ?_
          intro K hK
          simp only [gv2]
          go_simp
          refine hK _ _ ⟨rfl, Kept.refl _, ?_⟩
          show _ = _
          simp only [gv1]
          rfl
        case q1o2 =>
          intro w1 hI
          intro v1 h1
          change _ = _ at h1
          subst v1
          refine turn2_on (by rfl) ?_
          intro K hK
          simp only [gv2]
          go_simp
          refine hK _ _ ⟨rfl, Kept.refl _, ?_⟩
          show _ = _
          simp only [gv1]
          rfl
        case q1o3 =>
          intro w1 hI
          replace hI : (fun w => w.heap[r]? = some (rowJ d sv J)) w1 := hI
          intro v2 h2
          change _ = _ at h2
          subst v2
          refine turn2_on (by rfl) ?_
          intro K hK
          simp only [gv2]
          obtain ⟨y0, y1, y2, y3, y4, y5, y6, y7, y8, yf⟩ := cellsJ hI
          clear hI
          go_simp
          refine hK _ _ ⟨rfl, Kept.refl _, ?_⟩
          show _ = _
          simp only [gv1]
          rfl
        case q1o4 =>
          intro w1 hI
          refine turn2_on (by rfl) ?_
          intro K hK
          go_simp
          refine hK _ _ ⟨rfl, Kept.refl _, ?_⟩
          show _ = _
          simp only [gv1]
          rfl
        case q1o5 =>
          intro w1 hI
          intro v4 h4
          change _ = _ at h4
          subst v4
          refine turn2_on (by rfl) ?_
          intro K hK
          simp only [gv2]
          go_simp
          refine hK _ _ ⟨rfl, Kept.refl _, ?_⟩
          show _ = _
          simp only [gv1]
          rfl
        case q1o6 =>
          intro w1 hI
          intro v5 h5
          change _ = _ at h5
          subst v5
          refine turn2_on (by rfl) ?_
          intro K hK
          simp only [gv2]
          go_simp
          refine hK _ _ ⟨rfl, Kept.refl _, ?_⟩
          show _ = _
          simp only [gv1]
          rfl
        case q1o7 =>
          intro w1 hI
          replace hI : (fun w => w.heap[r]? = some (rowJ d sv J)) w1 := hI
          intro v6 h6
          change _ = _ at h6
          subst v6
          refine turn2_on (by rfl) ?_
          intro K hK
          simp only [gv2]
          obtain ⟨y0, y1, y2, y3, y4, y5, y6, y7, y8, yf⟩ := cellsJ hI
          clear hI
          go_simp
          refine hK _ _ ⟨rfl, Kept.refl _, ?_⟩
          show _ = _
          simp only [gv1]
          rfl
        case q1o8 =>
          intro w1 hI
          intro v7 h7
          change _ = _ at h7
          subst v7
          refine turn2_on (by rfl) ?_
          intro K hK
          simp only [gv2]
          go_simp
          refine hK _ _ ⟨rfl, Kept.refl _, ?_⟩
          show _ = _
          simp only [gv1]
          rfl
        case q1o9 =>
          intro w1 hI
          refine turn2_on (by rfl) ?_
          intro K hK
          go_simp
          refine hK _ _ ⟨rfl, Kept.refl _, ?_⟩
          show _ = _
          simp only [gv1]
          rfl
        case q1o10 =>
          intro w1 hI
          refine turn2_on (by rfl) ?_
          intro K hK
          go_simp
          refine hK _ _ ⟨rfl, Kept.refl _, ?_⟩
          show _ = _
          simp only [gv1]
          rfl
        case q1o11 =>
          intro w1 hI
          intro v9 h9
          change _ = _ at h9
          subst v9
          intro v10 h10
          change _ = _ at h10
          subst v10
          refine turn2_on (by rfl) ?_
          intro K hK
          simp only [gv2]
          go_simp
          refine hK _ _ ⟨rfl, Kept.refl _, ?_⟩
          show _ = _
          simp only [gv1]
          rfl
        case q1o12 =>
          intro w1 hI
          refine turn2_on (by rfl) ?_
          intro K hK
          go_simp
          refine hK _ _ ⟨rfl, Kept.refl _, ?_⟩
          show _ = _
          simp only [gv1]
          rfl
        case q1o13 =>
          intro w1 hI
          replace hI : (fun w => w.heap[r]? = some (rowJ d sv J)) w1 := hI
          intro v12 h12
          change _ = _ at h12
          subst v12
          refine turn2_on (by rfl) ?_
          intro K hK
          simp only [gv2]
          go_simp
          refine Calls.mono (area_any r d sv J w1 hI OK.out) ?_
          rintro e w2 ⟨rfl, rfl⟩
          refine hK _ _ ⟨rfl, Kept.refl _, ?_⟩
          show _ = _
          simp only [gv1]
          rfl
        case q1o14 =>
          intro w1 hI
          intro v11 h11
          change _ = _ at h11
          subst v11
          intro v13 h13
          change _ = _ at h13
          subst v13
          refine turn2_on (by rfl) ?_
          intro K hK
          simp only [gv2]
          go_simp
          refine hK _ _ ⟨rfl, Kept.refl _, ?_⟩
          show _ = _
          simp only [gv1]
          rfl
        case q1o15 =>
          intro w1 hI
          intro v8 h8
          change _ = _ at h8
          subst v8
          intro v14 h14
          change _ = _ at h14
          subst v14
          refine turn2_on (by rfl) ?_
          intro K hK
          simp only [gv2]
          go_simp
          refine hK _ _ ⟨rfl, Kept.refl _, ?_⟩
          show _ = _
          simp only [gv1]
          rfl
        case q1o16 =>
          intro w1 hI
          replace hI : (fun w => RdL Q r d (st.rd R) J w0 w ∧ Owns .u8 5 w hb (Value.slice ao no co) out) w1 := hI
          intro v3 h3
          change _ = _ at h3
          subst v3
          intro v15 h15
          change _ = _ at h15
          subst v15
          refine turn2_on (by rfl) ?_
          intro K hK
          simp only [gv2]
          go_simp
          rw [HS1.out]
          refine Calls.mono (HRD.out w1 hI.1 _ hI.2) ?_
          rintro e w2 ⟨a2, c2, rfl, ho2, h2, hoo⟩
          refine hK _ _ ⟨rfl, trivial, ?_⟩
          show (∃ a c, _ = Value.tuple #[Value.slice a S c, Value.int .i64 0] ∧ Owns .u8 5 w2 hb (Value.slice a S c) X) ∧ RdL Q r d (st.rd (R + 1)) J w0 w2 ∧ Owns .u8 5 w2 hb (Value.slice ao no co) out
          simp only [gv1]
          exact ⟨⟨a2, c2, rfl, ho2⟩, h2, hoo⟩
        case q1o17 =>
          intro w1 hI
          intro v16 h16
          obtain ⟨⟨a16, c16, rfl, h16⟩, g16, oo16⟩ := h16
          refine turn2_on (by rfl) ?_
          intro K hK
          simp only [gv2]
          go_simp
          refine hK _ _ ⟨rfl, Kept.refl _, ?_⟩
          show ∃ a c, _ = Value.tuple #[Value.slice a S c, Value.int .i64 0] ∧ Owns .u8 5 w1 hb (Value.slice a S c) X
          simp only [gv1]
          exact ⟨a16, c16, rfl, h16⟩
        case q1o18 =>
          intro w1 hI
          intro v17 h17
          obtain ⟨a17, c17, rfl, h17⟩ := h17
          refine turn2_on (by rfl) ?_
          intro K hK
          simp only [gv2]
          go_simp
          refine hK _ _ ⟨rfl, Kept.refl _, ?_⟩
          show ∃ a c, _ = Value.slice a S c ∧ Owns .u8 5 w1 hb (Value.slice a S c) X
          simp only [gv1]
          exact ⟨a17, c17, rfl, h17⟩
        case q1o19 =>
          intro w1 hI
          intro v17 h17
          obtain ⟨a17, c17, rfl, h17⟩ := h17
          refine turn2_on (by rfl) ?_
          intro K hK
          simp only [gv2]
          go_simp
          refine hK _ _ ⟨rfl, Kept.refl _, ?_⟩
          show _ = _
          simp only [gv1]
          rfl
        case q1o20 =>
          intro w1 hI
          intro v18 h18
          obtain ⟨a18, c18, rfl, h18⟩ := h18
          refine turn2_on (by rfl) ?_
          intro K hK
          simp only [gv2]
          go_simp
          refine hK _ _ ⟨rfl, Kept.refl _, ?_⟩
          show ∃ a c, _ = Value.slice a S c ∧ Owns .u8 5 w1 hb (Value.slice a S c) X
          simp only [gv1]
          exact ⟨a18, c18, rfl, h18⟩
        case q1o21 =>
          intro w1 hI
          intro v19 h19
          change _ = _ at h19
          subst v19
          refine turn2_on (by rfl) ?_
          intro K hK
          simp only [gv2]
          go_simp
          refine hK _ _ ⟨rfl, Kept.refl _, ?_⟩
          show _ = _
          simp only [gv1]
          rfl
      intro w9 hI
      intro v0 h0
      change _ = _ at h0
      subst v0
      intro v1 h1
      change _ = _ at h1
      subst v1
      intro v2 h2
      change _ = _ at h2
      subst v2
      intro v3 h3
      change _ = _ at h3
      subst v3
      intro v4 h4
      change _ = _ at h4
      subst v4
      intro v5 h5
      change _ = _ at h5
      subst v5
      intro v6 h6
      change _ = _ at h6
      subst v6
      intro v7 h7
      change _ = _ at h7
      subst v7
      intro v8 h8
      change _ = _ at h8
      subst v8
      intro v9 h9
      change _ = _ at h9
      subst v9
      intro v10 h10
      change _ = _ at h10
      subst v10
      intro v11 h11
      change _ = _ at h11
      subst v11
      intro v12 h12
      change _ = _ at h12
      subst v12
      intro v13 h13
      change _ = _ at h13
      subst v13
      intro v14 h14
      change _ = _ at h14
      subst v14
      intro v15 h15
      change _ = _ at h15
      subst v15
      intro v16 h16
      obtain ⟨⟨a16, c16, rfl, h16⟩, g16, oo16⟩ := h16
      intro v17 h17
      obtain ⟨a17, c17, rfl, h17⟩ := h17
      intro v18 h18
      obtain ⟨a18, c18, rfl, h18⟩ := h18
      intro v19 h19
      change _ = _ at h19
      subst v19
      intro v20 h20
      obtain ⟨a20, c20, rfl, h20⟩ := h20
      intro v21 h21
      change _ = _ at h21
      subst v21
      simp only [Given, gv2]
      have X20 := Lib.hid h20
      have G9 := Lib.hid g16
      have O9 := Lib.hid oo16
      clear h20 g16 oo16 h16 h17 h18 ROW HRD
      go_wp2_with fail
      refine (open_any a20 S c20 X w9 X20.out.rd (by omega)).mono ?_
      rintro e w1 ⟨v1, rfl, ho1, hb1⟩
      have G1 := Lib.hid (G9.out.below hb1)
      have O1 := Lib.hid (O9.out.below hb1)
      cases hop : openOk X with
      | false =>
        have hE : openE X = 23 := by unfold openE; rw [if_neg (by rw [HXN.out]; omega), hop]; rfl
        have HN : Hid (RES = none) := by show _ = _; rw [← HGO2.out]; unfold recS; rw [hop]; rfl
        rw [hE]
        clear ho1 hb1 hop hE X20 G9 O9
        go_wp2_with fail
        go_ret2
        rw [HN.out]
        exact ⟨rfl, HEND.out (R + 1) _ (by omega) (by omega) G1.out⟩
      | true =>
        have hE : openE X = 0 := by unfold openE; rw [if_neg (by rw [HXN.out]; omega), hop]; rfl
        obtain ⟨B, hB⟩ : ∃ B, openL X = B := ⟨_, rfl⟩
        have hBL : B.length = S - 4 := by rw [← hB]; unfold openL; rw [if_pos hop, List.length_take, HXN.out]; omega
        rw [hE]
        rw [hB] at ho1
        obtain ⟨a1, c1, rfl⟩ := ho1.shapeN (S - 4) hBL
        obtain ⟨g1, rfl⟩ : ∃ g, a1 = some ⟨g, 0, none⟩ := by
          obtain ⟨g, e, _⟩ := ho1.cellAt 0 (by omega)
          exact ⟨g, e⟩
        have HO : Hid (RdAt .u8 w1 (some ⟨g1, 0, none⟩) (S - 4) c1 B) := ho1.rd
        have hcap := ho1.rd.cap
        have HSx : Hid (recS S X num k len out = if recK B num k len = true then some (recP S B out) else none) := by show _ = _; unfold recS; rw [if_pos hop, hB]
        have HBL := Lib.hid hBL
        obtain ⟨sq, hsq⟩ : ∃ x, getK B 8 = x := ⟨_, rfl⟩
        obtain ⟨pt, hpt⟩ : ∃ x, getK (B.drop 8) 2 = x := ⟨_, rfl⟩
        have hnn0 := getK_bd (B.drop 10) 4 (fun j hj => (RdAt.drop HO.out 10 (by omega)).byte j (by omega))
        obtain ⟨nn, hnn⟩ : ∃ nn : Nat, getK (B.drop 10) 4 = (nn : Int) := Int.eq_ofNat_of_zero_le hnn0.1
        have hnn2 : nn < 4294967296 := by
          have h := hnn0.2
          rw [hnn, show (2 : Int) ^ (8 * 4) = 4294967296 by decide] at h
          omega
        obtain ⟨M, hM⟩ : ∃ M : Int, M = 67108864 := ⟨_, rfl⟩
        have HRK : Hid (recK B num k len = (decide (sq = num) && decide (pt = k) && decide ((nn : Int) ≤ M) && (decide (k = 0) || decide ((nn : Int) = len)))) := by show _ = _; unfold recK; rw [hsq, hpt, hnn, hM]
        have HRP : Hid (recP S B out = (nn, out ++ (B.drop 14).take (min (nn - no) (S - 18)))) := by show _ = _; unfold recP; rw [hnn, HNO.out, Int.toNat_natCast]
        have HG8 : Hid (Calls Try.prog 62 #[.slice (some ⟨g1, 0, none⟩) (S - 4) (c1), .int .i64 8] w1 fun e w' => e = .returned (.tuple #[.int .u64 sq, .bool true]) ∧ w1 = w') := by
          have h := get_any _ _ _ _ 8 w1 (HO.out)
          have hok : getOk (S - 4) 8 = true := by unfold getOk; simp; omega
          rw [hok, show (8 : Int) = ((8 : Nat) : Int) from rfl, getV_yes (m := 8) hok, hsq] at h
          exact h
        have HG2 : Hid (Calls Try.prog 62 #[.slice (some ⟨g1, 8, none⟩) (S - 4 - 8) (c1 - 8), .int .i64 2] w1 fun e w' => e = .returned (.tuple #[.int .u64 pt, .bool true]) ∧ w1 = w') := by
          have h := get_any _ _ _ _ 2 w1 (RdAt.drop HO.out 8 (by omega))
          have hok : getOk (S - 4 - 8) 2 = true := by unfold getOk; simp; omega
          rw [hok, show (2 : Int) = ((2 : Nat) : Int) from rfl, getV_yes (m := 2) hok, hpt] at h
          rw [Nat.zero_add] at h
          exact h
        have HG4 : Hid (Calls Try.prog 62 #[.slice (some ⟨g1, 10, none⟩) (S - 4 - 10) (c1 - 10), .int .i64 4] w1 fun e w' => e = .returned (.tuple #[.int .u64 (nn : Int), .bool true]) ∧ w1 = w') := by
          have h := get_any _ _ _ _ 4 w1 (RdAt.drop HO.out 10 (by omega))
          have hok : getOk (S - 4 - 10) 4 = true := by unfold getOk; simp; omega
          rw [hok, show (4 : Int) = ((4 : Nat) : Int) from rfl, getV_yes (m := 4) hok, hnn] at h
          rw [Nat.zero_add] at h
          exact h
        clear ho1 hb1 hop hE X20 G9 O9 hB hBL hsq hpt hnn hnn0
        go_wp2_with fail
        refine HG8.out.mono ?_
        rintro e w2 ⟨rfl, rfl⟩
        go_wp2_with fail
        refine HG2.out.mono ?_
        rintro e w2 ⟨rfl, rfl⟩
        go_wp2_with fail
        refine HG4.out.mono ?_
        rintro e w2 ⟨rfl, rfl⟩
        have hwk : IntKind.u64.wrap (k : Int) = k := by rw [IntKind.wrap_u64]; omega
        have hwn : wrap64 (nn : Int) = nn := by unfold wrap64; omega
        have HNO2 : Hid (recK B num k len = false → RES = none) := fun h => by rw [← HGO2.out, HSx.out, h]; rfl
        by_cases q1 : sq = num
        rotate_left
        · have HN := Lib.hid (HNO2.out (by rw [HRK.out, decide_eq_false (show ¬ sq = num from q1)]; simp))
          have d144 : (sq != num) = true := by simpa using q1
          clear HRK HG8 HG2 HG4 HNO2 HSx hM hnn2
          go_wp2_with fail
          go_ret2
          rw [HN.out]
          exact ⟨rfl, HEND.out (R + 1) _ (by omega) (by omega) G1.out⟩
        have d150 : (sq != num) = false := by simpa using q1
        by_cases q2 : pt = (k : Int)
        rotate_left
        · have HN := Lib.hid (HNO2.out (by rw [HRK.out, decide_eq_false (show ¬ pt = (k : Int) from q2)]; simp))
          have d154 : (pt != (k : Int)) = true := by simpa using q2
          have d155 : (pt != 0) = true := by rw [bne_iff_ne]; omega
          clear HRK HG8 HG2 HG4 HNO2 HSx hM hnn2
          go_wp2_with fail
          go_ret2
          rw [HN.out]
          exact ⟨rfl, HEND.out (R + 1) _ (by omega) (by omega) G1.out⟩
        have d161 : (pt != (k : Int)) = false := by simpa using q2
        have d162 : (pt != 0) = false := by rw [bne_eq_false_iff_eq]; omega
        by_cases q3 : (nn : Int) ≤ M
        rotate_left
        · have HN := Lib.hid (HNO2.out (by rw [HRK.out, decide_eq_false (show ¬ (nn : Int) ≤ M from q3)]; simp))
          have d166 : decide (67108864 < (nn : Int)) = true := rec_gt hM q3
          clear HRK HG8 HG2 HG4 HNO2 HSx hM hnn2
          go_wp2_with fail
          go_ret2
          rw [HN.out]
          exact ⟨rfl, HEND.out (R + 1) _ (by omega) (by omega) G1.out⟩
        have d172 : decide (67108864 < (nn : Int)) = false := rec_le hM q3
        have dk : decide (0 < (k : Int)) = false := decide_eq_false (by omega)
        have HKY : Hid (recGo kx J.lo J.n S at0 num f (k + 1) nn (out ++ (B.drop 14).take (min (nn - no) (S - 18))) = RES) := by
          have h : recK B num k len = true := by rw [HRK.out, decide_eq_true q1, decide_eq_true q2, decide_eq_true q3, decide_eq_true hz]; simp
          have h2 := HGO2.out
          rw [HSx.out, if_pos h, HRP.out] at h2
          simp only [Option.bind_some] at h2
          exact h2
        have HQ5 := Lib.hid (rec_nat hM q3)
        have hq5 := HQ5.out
        clear hM q3 hnn2
        have hno2 : no ≤ nn := by have := hk0 hz; omega
        obtain ⟨mN, hmN⟩ : ∃ mN : Nat, nn - no = mN := ⟨_, rfl⟩
        have hmN2 : (nn : Int) - (no : Int) = (mN : Int) := by omega
        obtain ⟨sR, hsR⟩ : ∃ sR : Nat, S - 18 = sR := ⟨_, rfl⟩
        have hsR2 : (S : Int) - 18 = (sR : Int) := by omega
        have HRM : Hid (∀ wx, RdL Q r d (st.rd (R + 1)) J w0 wx → Calls Try.prog 35 #[.pointer (some ⟨r, 0, none⟩)] wx fun e w' => e = .returned (.int .i64 (sR : Int)) ∧ wx = w') := fun wx h => by
          obtain ⟨sv', ROW', ok'⟩ := HROW.out _ _ h
          have := room_any r d sv' J wx ROW' ok'
          rw [hS, hsR2] at this
          exact this
        rw [hmN, hsR] at HKY
        clear HRK HG8 HG2 HG4 HNO2 HSx HRP HGO2
        have hbw := G1.out.tnd.size
        rw [hhb] at hbw
        clear hwn hwk
        by_cases hmin : mN ≤ sR
        · have hlt : (mN : Int) ≤ (sR : Int) := by omega
          have HSL : Hid (RdAt .u8 w1 (some ⟨g1, 14, none⟩) (14 + mN - 14) (c1 - 14) ((B.drop 14).take mN)) := by
            have h := rd_take (RdAt.drop HO.out 14 (by omega)) mN (by omega)
            rw [Nat.zero_add] at h
            rw [Nat.add_sub_cancel_left]
            exact h
          have HOL : Hid ((out ++ (B.drop 14).take mN).length = no + mN) := by
            show _ = _
            rw [List.length_append, HNO.out, HSL.out.len, Nat.add_sub_cancel_left]
          rw [show min mN sR = mN by omega] at HKY
          go_wp2_with (first | (go_at_call 35; refine (HRM.out _ G1.out).mono ?_; rintro e w2 ⟨rfl, rfl⟩) | (at_builtin; go_loud (refine app_all u8TR u8IR (by decide) rfl (.tmp 116) (.tmp 120) rfl _ hb _ out rfl O1.out _ _ _ ((B.drop 14).take mN) rfl HSL.out (by rw [HNO.out]; omega) hbw ?_); intro v2 w2 ho2 hg2; have B2 := Lib.hid (hg2.below hbw (fun g hg => (O1.out.at_base g hg).1)); have O2 := Lib.hid ho2; clear ho2 hg2))
          go_roundw
          case rel =>
            rw [← hhb] at B2
            exact ⟨k + 1, nn, out ++ (B.drop 14).take mN, R + 1, by omega, HQ5.out, by go_num, rfl, O2, G1.out.low B2.out, by omega, by omega, (by rw [hf2]; exact HKY), by rw [HOL.out]; omega, fun h => by omega⟩
          case measure => simp [intOf] <;> omega
        · have hlt : (sR : Int) < (mN : Int) := by omega
          have HSL : Hid (RdAt .u8 w1 (some ⟨g1, 14, none⟩) (14 + sR - 14) (c1 - 14) ((B.drop 14).take sR)) := by
            have h := rd_take (RdAt.drop HO.out 14 (by omega)) sR (by omega)
            rw [Nat.zero_add] at h
            rw [Nat.add_sub_cancel_left]
            exact h
          have HOL : Hid ((out ++ (B.drop 14).take sR).length = no + sR) := by
            show _ = _
            rw [List.length_append, HNO.out, HSL.out.len, Nat.add_sub_cancel_left]
          rw [show min mN sR = sR by omega] at HKY
          go_wp2_with (first | (go_at_call 35; refine (HRM.out _ G1.out).mono ?_; rintro e w2 ⟨rfl, rfl⟩) | (at_builtin; go_loud (refine app_all u8TR u8IR (by decide) rfl (.tmp 116) (.tmp 120) rfl _ hb _ out rfl O1.out _ _ _ ((B.drop 14).take sR) rfl HSL.out (by rw [HNO.out]; omega) hbw ?_); intro v2 w2 ho2 hg2; have B2 := Lib.hid (hg2.below hbw (fun g hg => (O1.out.at_base g hg).1)); have O2 := Lib.hid ho2; clear ho2 hg2))
          go_roundw
          case rel =>
            rw [← hhb] at B2
            exact ⟨k + 1, nn, out ++ (B.drop 14).take sR, R + 1, by omega, HQ5.out, by go_num, rfl, O2, G1.out.low B2.out, by omega, by omega, (by rw [hf2]; exact HKY), by rw [HOL.out]; omega, fun h => by omega⟩
          case measure => simp [intOf] <;> omega
    · obtain ⟨nd, hnd⟩ : ∃ nd, ndN S len = nd := ⟨_, rfl⟩
      have e1 : k < nd := by rw [← hnd]; exact hmore.resolve_left hz
      have HND := HNED.out len sv
      rw [hnd] at HND
      have d2 : ((k : Int) == 0) = false := by simpa using hz
      have d3 : decide ((k : Int) < (nd : Int)) = true := decide_eq_true (by omega)
      clear hnd
      clear hmore
      have HS1 := HS1p
      go_wp2_with (first | (go_at_call 34; refine (HND _ ROW OK.out hlen).mono ?_; rintro e w1 ⟨rfl, rfl⟩))
      refine' reg_order [eqV _, eqV _, eqV _, eqV _, eqV _, eqV _, eqV _, eqV _, eqV _, eqV _, eqV _, eqV _, eqV _, eqV _, eqV _, eqV _, fun v w => (∃ a c, v = Value.tuple #[Value.slice a S c, Value.int .i64 0] ∧ Owns .u8 5 w hb (Value.slice a S c) X) ∧ RdL Q r d (st.rd (R + 1)) J w0 w ∧ Owns .u8 5 w hb (Value.slice ao no co) out, fun v w => ∃ a c, v = Value.tuple #[Value.slice a S c, Value.int .i64 0] ∧ Owns .u8 5 w hb (Value.slice a S c) X, fun v w => ∃ a c, v = Value.slice a S c ∧ Owns .u8 5 w hb (Value.slice a S c) X, eqV _, fun v w => ∃ a c, v = Value.slice a S c ∧ Owns .u8 5 w hb (Value.slice a S c) X, eqV _] [(16, fun w w' => True)] [(3, fun w => w.heap[r]? = some (rowJ d sv J)), (7, fun w => w.heap[r]? = some (rowJ d sv J)), (13, fun w => w.heap[r]? = some (rowJ d sv J)), (16, fun w => RdL Q r d (st.rd R) J w0 w ∧ Owns .u8 5 w hb (Value.slice ao no co) out)] [38, 39, 40, 41, 42, 43, 44, 45, 46, 47, 48, 49, 50, 51, 52, 53, 54, 37, 55, 56, 13, 14] [[], [0], [1], [2], [], [4], [5], [6], [7], [], [], [9, 10], [], [12], [11, 13], [8, 14], [3, 15], [16], [17], [17], [18], [19]] [0, 1, 2, 3, 4, 5, 6, 7, 8, 9, 10, 11, 12, 13, 14, 15, 16, 17, 18, 19, 20, 21] 22 (by kernel_rfl) ⟨eqV_stays _, eqV_stays _, eqV_stays _, eqV_stays _, eqV_stays _, eqV_stays _, eqV_stays _, eqV_stays _, eqV_stays _, eqV_stays _, eqV_stays _, eqV_stays _, eqV_stays _, eqV_stays _, eqV_stays _, eqV_stays _, fun _ _ _ p b => ⟨p.1.elim fun a q => q.elim fun c q => ⟨a, c, q.1, q.2.below b⟩, p.2.1.below b, p.2.2.below b⟩, fun _ _ _ p b => p.elim fun a q => q.elim fun c q => ⟨a, c, q.1, q.2.below b⟩, fun _ _ _ p b => p.elim fun a q => q.elim fun c q => ⟨a, c, q.1, q.2.below b⟩, eqV_stays _, fun _ _ _ p b => p.elim fun a q => q.elim fun c q => ⟨a, c, q.1, q.2.below b⟩, eqV_stays _, trivial⟩ ⟨⟨.inl (eqV_stays _), .inl (eqV_stays _), .inl (eqV_stays _), .inl (eqV_stays _), .inl (eqV_stays _), .inl (eqV_stays _), .inl (eqV_stays _), .inl (eqV_stays _), .inl (eqV_stays _), .inl (eqV_stays _), .inl (eqV_stays _), .inl (eqV_stays _), .inl (eqV_stays _), .inl (eqV_stays _), .inl (eqV_stays _), .inl (eqV_stays _), .inr (.inr rfl), .inr (.inl (by kernel_rfl)), .inr (.inl (by kernel_rfl)), .inl (eqV_stays _), .inr (.inl (by kernel_rfl)), .inl (eqV_stays _), trivial⟩, trivial⟩ ⟨fun _ _ p b => row_keep p b, fun _ _ p b => row_keep p b, fun _ _ p b => row_keep p b, fun _ _ p b => ⟨p.1.below b, p.2.below b⟩, trivial⟩ ⟨⟨.inr (.inl (by kernel_rfl)), .inr (.inl (by kernel_rfl)), .inr (.inl (by kernel_rfl)), .inr (.inr rfl), trivial⟩, trivial⟩ ⟨ROW, ROW, ROW, ⟨GR.out.drew, OO.out.drew⟩, trivial⟩ 123 rfl (by kernel_rfl) (by kernel_rfl) rfl rfl 22 rfl ?q2obl ?q2fin
      case q2obl =>
        refine And.intro ?q2o0 (And.intro ?q2o1 (And.intro ?q2o2 (And.intro ?q2o3 (And.intro ?q2o4 (And.intro ?q2o5 (And.intro ?q2o6 (And.intro ?q2o7 (And.intro ?q2o8 (And.intro ?q2o9 (And.intro ?q2o10 (And.intro ?q2o11 (And.intro ?q2o12 (And.intro ?q2o13 (And.intro ?q2o14 (And.intro ?q2o15 (And.intro ?q2o16 (And.intro ?q2o17 (And.intro ?q2o18 (And.intro ?q2o19 (And.intro ?q2o20 (And.intro ?q2o21 (True.intro))))))))))))))))))))))
        case q2o0 =>
          intro w1 hI
          refine turn2_on (by rfl) ?_
          intro K hK
          go_simp
          refine hK _ _ ⟨rfl, Kept.refl _, ?_⟩
          show _ = _
          simp only [gv1]
          rfl
        case q2o1 =>
          intro w1 hI
          intro v0 h0
          change _ = _ at h0
          subst v0
          refine turn2_on (by rfl) ?_
          intro K hK
          simp only [gv2]
          go_simp
          refine hK _ _ ⟨rfl, Kept.refl _, ?_⟩
          show _ = _
          simp only [gv1]
          rfl
        case q2o2 =>
          intro w1 hI
          intro v1 h1
          change _ = _ at h1
          subst v1
          refine turn2_on (by rfl) ?_
          intro K hK
          simp only [gv2]
          go_simp
          refine hK _ _ ⟨rfl, Kept.refl _, ?_⟩
          show _ = _
          simp only [gv1]
          rfl
        case q2o3 =>
          intro w1 hI
          replace hI : (fun w => w.heap[r]? = some (rowJ d sv J)) w1 := hI
          intro v2 h2
          change _ = _ at h2
          subst v2
          refine turn2_on (by rfl) ?_
          intro K hK
          simp only [gv2]
          obtain ⟨y0, y1, y2, y3, y4, y5, y6, y7, y8, yf⟩ := cellsJ hI
          clear hI
          go_simp
          refine hK _ _ ⟨rfl, Kept.refl _, ?_⟩
          show _ = _
          simp only [gv1]
          rfl
        case q2o4 =>
          intro w1 hI
          refine turn2_on (by rfl) ?_
          intro K hK
          go_simp
          refine hK _ _ ⟨rfl, Kept.refl _, ?_⟩
          show _ = _
          simp only [gv1]
          rfl
        case q2o5 =>
          intro w1 hI
          intro v4 h4
          change _ = _ at h4
          subst v4
          refine turn2_on (by rfl) ?_
          intro K hK
          simp only [gv2]
          go_simp
          refine hK _ _ ⟨rfl, Kept.refl _, ?_⟩
          show _ = _
          simp only [gv1]
          rfl
        case q2o6 =>
          intro w1 hI
          intro v5 h5
          change _ = _ at h5
          subst v5
          refine turn2_on (by rfl) ?_
          intro K hK
          simp only [gv2]
          go_simp
          refine hK _ _ ⟨rfl, Kept.refl _, ?_⟩
          show _ = _
          simp only [gv1]
          rfl
        case q2o7 =>
          intro w1 hI
          replace hI : (fun w => w.heap[r]? = some (rowJ d sv J)) w1 := hI
          intro v6 h6
          change _ = _ at h6
          subst v6
          refine turn2_on (by rfl) ?_
          intro K hK
          simp only [gv2]
          obtain ⟨y0, y1, y2, y3, y4, y5, y6, y7, y8, yf⟩ := cellsJ hI
          clear hI
          go_simp
          refine hK _ _ ⟨rfl, Kept.refl _, ?_⟩
          show _ = _
          simp only [gv1]
          rfl
        case q2o8 =>
          intro w1 hI
          intro v7 h7
          change _ = _ at h7
          subst v7
          refine turn2_on (by rfl) ?_
          intro K hK
          simp only [gv2]
          go_simp
          refine hK _ _ ⟨rfl, Kept.refl _, ?_⟩
          show _ = _
          simp only [gv1]
          rfl
        case q2o9 =>
          intro w1 hI
          refine turn2_on (by rfl) ?_
          intro K hK
          go_simp
          refine hK _ _ ⟨rfl, Kept.refl _, ?_⟩
          show _ = _
          simp only [gv1]
          rfl
        case q2o10 =>
          intro w1 hI
          refine turn2_on (by rfl) ?_
          intro K hK
          go_simp
          refine hK _ _ ⟨rfl, Kept.refl _, ?_⟩
          show _ = _
          simp only [gv1]
          rfl
        case q2o11 =>
          intro w1 hI
          intro v9 h9
          change _ = _ at h9
          subst v9
          intro v10 h10
          change _ = _ at h10
          subst v10
          refine turn2_on (by rfl) ?_
          intro K hK
          simp only [gv2]
          go_simp
          refine hK _ _ ⟨rfl, Kept.refl _, ?_⟩
          show _ = _
          simp only [gv1]
          rfl
        case q2o12 =>
          intro w1 hI
          refine turn2_on (by rfl) ?_
          intro K hK
          go_simp
          refine hK _ _ ⟨rfl, Kept.refl _, ?_⟩
          show _ = _
          simp only [gv1]
          rfl
        case q2o13 =>
          intro w1 hI
          replace hI : (fun w => w.heap[r]? = some (rowJ d sv J)) w1 := hI
          intro v12 h12
          change _ = _ at h12
          subst v12
          refine turn2_on (by rfl) ?_
          intro K hK
          simp only [gv2]
          go_simp
          refine Calls.mono (area_any r d sv J w1 hI OK.out) ?_
          rintro e w2 ⟨rfl, rfl⟩
          refine hK _ _ ⟨rfl, Kept.refl _, ?_⟩
          show _ = _
          simp only [gv1]
          rfl
        case q2o14 =>
          intro w1 hI
          intro v11 h11
          change _ = _ at h11
          subst v11
          intro v13 h13
          change _ = _ at h13
          subst v13
          refine turn2_on (by rfl) ?_
          intro K hK
          simp only [gv2]
          go_simp
          refine hK _ _ ⟨rfl, Kept.refl _, ?_⟩
          show _ = _
          simp only [gv1]
          rfl
        case q2o15 =>
          intro w1 hI
          intro v8 h8
          change _ = _ at h8
          subst v8
          intro v14 h14
          change _ = _ at h14
          subst v14
          refine turn2_on (by rfl) ?_
          intro K hK
          simp only [gv2]
          go_simp
          refine hK _ _ ⟨rfl, Kept.refl _, ?_⟩
          show _ = _
          simp only [gv1]
          rfl
        case q2o16 =>
          intro w1 hI
          replace hI : (fun w => RdL Q r d (st.rd R) J w0 w ∧ Owns .u8 5 w hb (Value.slice ao no co) out) w1 := hI
          intro v3 h3
          change _ = _ at h3
          subst v3
          intro v15 h15
          change _ = _ at h15
          subst v15
          refine turn2_on (by rfl) ?_
          intro K hK
          simp only [gv2]
          go_simp
          rw [HS1.out]
          refine Calls.mono (HRD.out w1 hI.1 _ hI.2) ?_
          rintro e w2 ⟨a2, c2, rfl, ho2, h2, hoo⟩
          refine hK _ _ ⟨rfl, trivial, ?_⟩
          show (∃ a c, _ = Value.tuple #[Value.slice a S c, Value.int .i64 0] ∧ Owns .u8 5 w2 hb (Value.slice a S c) X) ∧ RdL Q r d (st.rd (R + 1)) J w0 w2 ∧ Owns .u8 5 w2 hb (Value.slice ao no co) out
          simp only [gv1]
          exact ⟨⟨a2, c2, rfl, ho2⟩, h2, hoo⟩
        case q2o17 =>
          intro w1 hI
          intro v16 h16
          obtain ⟨⟨a16, c16, rfl, h16⟩, g16, oo16⟩ := h16
          refine turn2_on (by rfl) ?_
          intro K hK
          simp only [gv2]
          go_simp
          refine hK _ _ ⟨rfl, Kept.refl _, ?_⟩
          show ∃ a c, _ = Value.tuple #[Value.slice a S c, Value.int .i64 0] ∧ Owns .u8 5 w1 hb (Value.slice a S c) X
          simp only [gv1]
          exact ⟨a16, c16, rfl, h16⟩
        case q2o18 =>
          intro w1 hI
          intro v17 h17
          obtain ⟨a17, c17, rfl, h17⟩ := h17
          refine turn2_on (by rfl) ?_
          intro K hK
          simp only [gv2]
          go_simp
          refine hK _ _ ⟨rfl, Kept.refl _, ?_⟩
          show ∃ a c, _ = Value.slice a S c ∧ Owns .u8 5 w1 hb (Value.slice a S c) X
          simp only [gv1]
          exact ⟨a17, c17, rfl, h17⟩
        case q2o19 =>
          intro w1 hI
          intro v17 h17
          obtain ⟨a17, c17, rfl, h17⟩ := h17
          refine turn2_on (by rfl) ?_
          intro K hK
          simp only [gv2]
          go_simp
          refine hK _ _ ⟨rfl, Kept.refl _, ?_⟩
          show _ = _
          simp only [gv1]
          rfl
        case q2o20 =>
          intro w1 hI
          intro v18 h18
          obtain ⟨a18, c18, rfl, h18⟩ := h18
          refine turn2_on (by rfl) ?_
          intro K hK
          simp only [gv2]
          go_simp
          refine hK _ _ ⟨rfl, Kept.refl _, ?_⟩
          show ∃ a c, _ = Value.slice a S c ∧ Owns .u8 5 w1 hb (Value.slice a S c) X
          simp only [gv1]
          exact ⟨a18, c18, rfl, h18⟩
        case q2o21 =>
          intro w1 hI
          intro v19 h19
          change _ = _ at h19
          subst v19
          refine turn2_on (by rfl) ?_
          intro K hK
          simp only [gv2]
          go_simp
          refine hK _ _ ⟨rfl, Kept.refl _, ?_⟩
          show _ = _
          simp only [gv1]
          rfl
      intro w9 hI
      intro v0 h0
      change _ = _ at h0
      subst v0
      intro v1 h1
      change _ = _ at h1
      subst v1
      intro v2 h2
      change _ = _ at h2
      subst v2
      intro v3 h3
      change _ = _ at h3
      subst v3
      intro v4 h4
      change _ = _ at h4
      subst v4
      intro v5 h5
      change _ = _ at h5
      subst v5
      intro v6 h6
      change _ = _ at h6
      subst v6
      intro v7 h7
      change _ = _ at h7
      subst v7
      intro v8 h8
      change _ = _ at h8
      subst v8
      intro v9 h9
      change _ = _ at h9
      subst v9
      intro v10 h10
      change _ = _ at h10
      subst v10
      intro v11 h11
      change _ = _ at h11
      subst v11
      intro v12 h12
      change _ = _ at h12
      subst v12
      intro v13 h13
      change _ = _ at h13
      subst v13
      intro v14 h14
      change _ = _ at h14
      subst v14
      intro v15 h15
      change _ = _ at h15
      subst v15
      intro v16 h16
      obtain ⟨⟨a16, c16, rfl, h16⟩, g16, oo16⟩ := h16
      intro v17 h17
      obtain ⟨a17, c17, rfl, h17⟩ := h17
      intro v18 h18
      obtain ⟨a18, c18, rfl, h18⟩ := h18
      intro v19 h19
      change _ = _ at h19
      subst v19
      intro v20 h20
      obtain ⟨a20, c20, rfl, h20⟩ := h20
      intro v21 h21
      change _ = _ at h21
      subst v21
      simp only [Given, gv2]
      have X20 := Lib.hid h20
      have G9 := Lib.hid g16
      have O9 := Lib.hid oo16
      clear h20 g16 oo16 h16 h17 h18 ROW HRD
      go_wp2_with fail
      refine (open_any a20 S c20 X w9 X20.out.rd (by omega)).mono ?_
      rintro e w1 ⟨v1, rfl, ho1, hb1⟩
      have G1 := Lib.hid (G9.out.below hb1)
      have O1 := Lib.hid (O9.out.below hb1)
      cases hop : openOk X with
      | false =>
        have hE : openE X = 23 := by unfold openE; rw [if_neg (by rw [HXN.out]; omega), hop]; rfl
        have HN : Hid (RES = none) := by show _ = _; rw [← HGO2.out]; unfold recS; rw [hop]; rfl
        rw [hE]
        clear ho1 hb1 hop hE X20 G9 O9
        go_wp2_with fail
        go_ret2
        rw [HN.out]
        exact ⟨rfl, HEND.out (R + 1) _ (by omega) (by omega) G1.out⟩
      | true =>
        have hE : openE X = 0 := by unfold openE; rw [if_neg (by rw [HXN.out]; omega), hop]; rfl
        obtain ⟨B, hB⟩ : ∃ B, openL X = B := ⟨_, rfl⟩
        have hBL : B.length = S - 4 := by rw [← hB]; unfold openL; rw [if_pos hop, List.length_take, HXN.out]; omega
        rw [hE]
        rw [hB] at ho1
        obtain ⟨a1, c1, rfl⟩ := ho1.shapeN (S - 4) hBL
        obtain ⟨g1, rfl⟩ : ∃ g, a1 = some ⟨g, 0, none⟩ := by
          obtain ⟨g, e, _⟩ := ho1.cellAt 0 (by omega)
          exact ⟨g, e⟩
        have HO : Hid (RdAt .u8 w1 (some ⟨g1, 0, none⟩) (S - 4) c1 B) := ho1.rd
        have hcap := ho1.rd.cap
        have HSx : Hid (recS S X num k len out = if recK B num k len = true then some (recP S B out) else none) := by show _ = _; unfold recS; rw [if_pos hop, hB]
        have HBL := Lib.hid hBL
        obtain ⟨sq, hsq⟩ : ∃ x, getK B 8 = x := ⟨_, rfl⟩
        obtain ⟨pt, hpt⟩ : ∃ x, getK (B.drop 8) 2 = x := ⟨_, rfl⟩
        have hnn0 := getK_bd (B.drop 10) 4 (fun j hj => (RdAt.drop HO.out 10 (by omega)).byte j (by omega))
        obtain ⟨nn, hnn⟩ : ∃ nn : Nat, getK (B.drop 10) 4 = (nn : Int) := Int.eq_ofNat_of_zero_le hnn0.1
        have hnn2 : nn < 4294967296 := by
          have h := hnn0.2
          rw [hnn, show (2 : Int) ^ (8 * 4) = 4294967296 by decide] at h
          omega
        obtain ⟨M, hM⟩ : ∃ M : Int, M = 67108864 := ⟨_, rfl⟩
        have HRK : Hid (recK B num k len = (decide (sq = num) && decide (pt = k) && decide ((nn : Int) ≤ M) && (decide (k = 0) || decide ((nn : Int) = len)))) := by show _ = _; unfold recK; rw [hsq, hpt, hnn, hM]
        have HRP : Hid (recP S B out = (nn, out ++ (B.drop 14).take (min (nn - no) (S - 18)))) := by show _ = _; unfold recP; rw [hnn, HNO.out, Int.toNat_natCast]
        have HG8 : Hid (Calls Try.prog 62 #[.slice (some ⟨g1, 0, none⟩) (S - 4) (c1), .int .i64 8] w1 fun e w' => e = .returned (.tuple #[.int .u64 sq, .bool true]) ∧ w1 = w') := by
          have h := get_any _ _ _ _ 8 w1 (HO.out)
          have hok : getOk (S - 4) 8 = true := by unfold getOk; simp; omega
          rw [hok, show (8 : Int) = ((8 : Nat) : Int) from rfl, getV_yes (m := 8) hok, hsq] at h
          exact h
        have HG2 : Hid (Calls Try.prog 62 #[.slice (some ⟨g1, 8, none⟩) (S - 4 - 8) (c1 - 8), .int .i64 2] w1 fun e w' => e = .returned (.tuple #[.int .u64 pt, .bool true]) ∧ w1 = w') := by
          have h := get_any _ _ _ _ 2 w1 (RdAt.drop HO.out 8 (by omega))
          have hok : getOk (S - 4 - 8) 2 = true := by unfold getOk; simp; omega
          rw [hok, show (2 : Int) = ((2 : Nat) : Int) from rfl, getV_yes (m := 2) hok, hpt] at h
          rw [Nat.zero_add] at h
          exact h
        have HG4 : Hid (Calls Try.prog 62 #[.slice (some ⟨g1, 10, none⟩) (S - 4 - 10) (c1 - 10), .int .i64 4] w1 fun e w' => e = .returned (.tuple #[.int .u64 (nn : Int), .bool true]) ∧ w1 = w') := by
          have h := get_any _ _ _ _ 4 w1 (RdAt.drop HO.out 10 (by omega))
          have hok : getOk (S - 4 - 10) 4 = true := by unfold getOk; simp; omega
          rw [hok, show (4 : Int) = ((4 : Nat) : Int) from rfl, getV_yes (m := 4) hok, hnn] at h
          rw [Nat.zero_add] at h
          exact h
        clear ho1 hb1 hop hE X20 G9 O9 hB hBL hsq hpt hnn hnn0
        go_wp2_with fail
        refine HG8.out.mono ?_
        rintro e w2 ⟨rfl, rfl⟩
        go_wp2_with fail
        refine HG2.out.mono ?_
        rintro e w2 ⟨rfl, rfl⟩
        go_wp2_with fail
        refine HG4.out.mono ?_
        rintro e w2 ⟨rfl, rfl⟩
        have hwk : IntKind.u64.wrap (k : Int) = k := by rw [IntKind.wrap_u64]; omega
        have hwn : wrap64 (nn : Int) = nn := by unfold wrap64; omega
        have HNO2 : Hid (recK B num k len = false → RES = none) := fun h => by rw [← HGO2.out, HSx.out, h]; rfl
        by_cases q1 : sq = num
        rotate_left
        · have HN := Lib.hid (HNO2.out (by rw [HRK.out, decide_eq_false (show ¬ sq = num from q1)]; simp))
          have d319 : (sq != num) = true := by simpa using q1
          clear HRK HG8 HG2 HG4 HNO2 HSx hM hnn2
          go_wp2_with fail
          go_ret2
          rw [HN.out]
          exact ⟨rfl, HEND.out (R + 1) _ (by omega) (by omega) G1.out⟩
        have d325 : (sq != num) = false := by simpa using q1
        by_cases q2 : pt = (k : Int)
        rotate_left
        · have HN := Lib.hid (HNO2.out (by rw [HRK.out, decide_eq_false (show ¬ pt = (k : Int) from q2)]; simp))
          have d329 : (pt != (k : Int)) = true := by simpa using q2
          clear HRK HG8 HG2 HG4 HNO2 HSx hM hnn2
          go_wp2_with fail
          go_ret2
          rw [HN.out]
          exact ⟨rfl, HEND.out (R + 1) _ (by omega) (by omega) G1.out⟩
        have d335 : (pt != (k : Int)) = false := by simpa using q2
        by_cases q3 : (nn : Int) ≤ M
        rotate_left
        · have HN := Lib.hid (HNO2.out (by rw [HRK.out, decide_eq_false (show ¬ (nn : Int) ≤ M from q3)]; simp))
          have d339 : decide (67108864 < (nn : Int)) = true := rec_gt hM q3
          clear HRK HG8 HG2 HG4 HNO2 HSx hM hnn2
          go_wp2_with fail
          go_ret2
          rw [HN.out]
          exact ⟨rfl, HEND.out (R + 1) _ (by omega) (by omega) G1.out⟩
        have d345 : decide (67108864 < (nn : Int)) = false := rec_le hM q3
        have dk : decide (0 < (k : Int)) = true := decide_eq_true (by omega)
        by_cases q4 : (nn : Int) = (len : Int)
        rotate_left
        · have HN := Lib.hid (HNO2.out (by rw [HRK.out, decide_eq_false (show ¬ (nn : Int) = (len : Int) from q4), decide_eq_false hz]; simp))
          have d9 : ((nn : Int) != (len : Int)) = true := by simpa using q4
          clear HRK HG8 HG2 HG4 HNO2 HSx
          go_wp2_with fail
          go_ret2
          rw [HN.out]
          exact ⟨rfl, HEND.out (R + 1) _ (by omega) (by omega) G1.out⟩
        obtain rfl : nn = len := Int.ofNat.inj q4
        have d9 : ((nn : Int) != (nn : Int)) = false := by simp
        have q5 : ((nn : Int) = (nn : Int)) := rfl
        clear q4
        have q4 := Lib.hid q5
        clear q5
        have HKY : Hid (recGo kx J.lo J.n S at0 num f (k + 1) nn (out ++ (B.drop 14).take (min (nn - no) (S - 18))) = RES) := by
          have h : recK B num k nn = true := by rw [HRK.out, decide_eq_true q1, decide_eq_true q2, decide_eq_true q3, decide_eq_true q4.out]; simp
          have h2 := HGO2.out
          rw [HSx.out, if_pos h, HRP.out] at h2
          simp only [Option.bind_some] at h2
          exact h2
        have HQ5 := Lib.hid (rec_nat hM q3)
        have hq5 := HQ5.out
        clear hM q3 hnn2
        have hno2 : no ≤ nn := by omega
        obtain ⟨mN, hmN⟩ : ∃ mN : Nat, nn - no = mN := ⟨_, rfl⟩
        have hmN2 : (nn : Int) - (no : Int) = (mN : Int) := by omega
        obtain ⟨sR, hsR⟩ : ∃ sR : Nat, S - 18 = sR := ⟨_, rfl⟩
        have hsR2 : (S : Int) - 18 = (sR : Int) := by omega
        have HRM : Hid (∀ wx, RdL Q r d (st.rd (R + 1)) J w0 wx → Calls Try.prog 35 #[.pointer (some ⟨r, 0, none⟩)] wx fun e w' => e = .returned (.int .i64 (sR : Int)) ∧ wx = w') := fun wx h => by
          obtain ⟨sv', ROW', ok'⟩ := HROW.out _ _ h
          have := room_any r d sv' J wx ROW' ok'
          rw [hS, hsR2] at this
          exact this
        rw [hmN, hsR] at HKY
        clear HRK HG8 HG2 HG4 HNO2 HSx HRP HGO2
        have hbw := G1.out.tnd.size
        rw [hhb] at hbw
        clear hwn hwk
        by_cases hmin : mN ≤ sR
        · have hlt : (mN : Int) ≤ (sR : Int) := by omega
          have HSL : Hid (RdAt .u8 w1 (some ⟨g1, 14, none⟩) (14 + mN - 14) (c1 - 14) ((B.drop 14).take mN)) := by
            have h := rd_take (RdAt.drop HO.out 14 (by omega)) mN (by omega)
            rw [Nat.zero_add] at h
            rw [Nat.add_sub_cancel_left]
            exact h
          have HOL : Hid ((out ++ (B.drop 14).take mN).length = no + mN) := by
            show _ = _
            rw [List.length_append, HNO.out, HSL.out.len, Nat.add_sub_cancel_left]
          rw [show min mN sR = mN by omega] at HKY
          go_wp2_with (first | (go_at_call 35; refine (HRM.out _ G1.out).mono ?_; rintro e w2 ⟨rfl, rfl⟩) | (at_builtin; go_loud (refine app_all u8TR u8IR (by decide) rfl (.tmp 116) (.tmp 120) rfl _ hb _ out rfl O1.out _ _ _ ((B.drop 14).take mN) rfl HSL.out (by rw [HNO.out]; omega) hbw ?_); intro v2 w2 ho2 hg2; have B2 := Lib.hid (hg2.below hbw (fun g hg => (O1.out.at_base g hg).1)); have O2 := Lib.hid ho2; clear ho2 hg2))
          go_roundw
          case rel =>
            rw [← hhb] at B2
            exact ⟨k + 1, nn, out ++ (B.drop 14).take mN, R + 1, by omega, HQ5.out, by go_num, rfl, O2, G1.out.low B2.out, by omega, by omega, (by rw [hf2]; exact HKY), by rw [HOL.out]; omega, fun h => by omega⟩
          case measure => simp [intOf] <;> omega
        · have hlt : (sR : Int) < (mN : Int) := by omega
          have HSL : Hid (RdAt .u8 w1 (some ⟨g1, 14, none⟩) (14 + sR - 14) (c1 - 14) ((B.drop 14).take sR)) := by
            have h := rd_take (RdAt.drop HO.out 14 (by omega)) sR (by omega)
            rw [Nat.zero_add] at h
            rw [Nat.add_sub_cancel_left]
            exact h
          have HOL : Hid ((out ++ (B.drop 14).take sR).length = no + sR) := by
            show _ = _
            rw [List.length_append, HNO.out, HSL.out.len, Nat.add_sub_cancel_left]
          rw [show min mN sR = sR by omega] at HKY
          go_wp2_with (first | (go_at_call 35; refine (HRM.out _ G1.out).mono ?_; rintro e w2 ⟨rfl, rfl⟩) | (at_builtin; go_loud (refine app_all u8TR u8IR (by decide) rfl (.tmp 116) (.tmp 120) rfl _ hb _ out rfl O1.out _ _ _ ((B.drop 14).take sR) rfl HSL.out (by rw [HNO.out]; omega) hbw ?_); intro v2 w2 ho2 hg2; have B2 := Lib.hid (hg2.below hbw (fun g hg => (O1.out.at_base g hg).1)); have O2 := Lib.hid ho2; clear ho2 hg2))
          go_roundw
          case rel =>
            rw [← hhb] at B2
            exact ⟨k + 1, nn, out ++ (B.drop 14).take sR, R + 1, by omega, HQ5.out, by go_num, rfl, O2, G1.out.low B2.out, by omega, by omega, (by rw [hf2]; exact HKY), by rw [HOL.out]; omega, fun h => by omega⟩
          case measure => simp [intOf] <;> omega
end Go.Proofs.Ytlhpdkapddnbcaa
