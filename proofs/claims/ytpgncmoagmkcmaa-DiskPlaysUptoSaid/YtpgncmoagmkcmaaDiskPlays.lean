/- disk: any shape, any acts. -/
import Derived.Test.YtpgncmoagmkcmaaRkTwo
import Derived.Test.YtpgncmoagmkcmaaDkData
namespace Go.Proofs.Ytpgncmoagmkcmaa
open Go.RowKit
theorem rdLt {kd : IntKind} {w : World} {a : Option Addr} {n c : Nat} {l : List Int} (h : RdAt kd w a n c l) : ∀ q, a = some q → 0 < n → q.block < w.heap.size := fun q hq hn => by
  obtain ⟨b, o, e, hc⟩ := h.cell 0 hn
  rw [hq] at e
  injection e with e
  subst e
  exact block_lt_of_cell hc
theorem cells7 {w : World} {b T : Nat} {x0 x1 x2 x3 x4 x5 x6 : Value} (h : w.heap[b]? = some (.cells #[x0, x1, x2, x3, x4, x5, x6] T (0, 0))) : w.cell? ⟨b, 0, none⟩ = some x0 ∧ w.cell? ⟨b, 1, none⟩ = some x1 ∧ w.cell? ⟨b, 2, none⟩ = some x2 ∧ w.cell? ⟨b, 3, none⟩ = some x3 ∧ w.cell? ⟨b, 4, none⟩ = some x4 ∧ w.cell? ⟨b, 5, none⟩ = some x5 ∧ w.cell? ⟨b, 6, none⟩ = some x6 :=
  ⟨by rw [cell_of_row w _ _ _ _ _ h]; rfl, by rw [cell_of_row w _ _ _ _ _ h]; rfl, by rw [cell_of_row w _ _ _ _ _ h]; rfl, by rw [cell_of_row w _ _ _ _ _ h]; rfl, by rw [cell_of_row w _ _ _ _ _ h]; rfl, by rw [cell_of_row w _ _ _ _ _ h]; rfl, by rw [cell_of_row w _ _ _ _ _ h]; rfl⟩
theorem Below.tnd {w w' : World} (b : Below w.heap.size w w') (Z : Nat → Prop) : Tnd Z Z w w' := ⟨b.os, b.tape, b.output, b.size, fun k hk _ => b.block k hk, fun _ h => .inl h⟩
structure CnOk (N S k : Nat) (st st1 : Dk) : Prop where
  n : st1.kept.length = N
  size : st1.size = S
  few : st1.pend.length ≤ k + 1
  writes : 0 ≤ st1.writes ∧ st1.writes ≤ k + 1
  reads : st1.reads = st.reads
theorem lt_of_actL {L : List ActP} {i : Nat} {A : ActP} (h : L[i]? = some A) : A.bytes.length + A.keep.length ≤ sumA L := by
  induction L generalizing i with
  | nil => simp at h
  | cons x r ih =>
    cases i with
    | zero => simp at h; subst h; simp only [sumA]; omega
    | succ i => simp at h; have := ih h; simp only [sumA]; omega
set_option linter.unusedSimpArgs false in
set_option linter.unusedVariables false in
set_option maxRecDepth 100000 in
set_option maxHeartbeats 40000000 in
theorem plays_try (N S : Nat) (a : Option Addr) (n c : Nat) (L : List ActP) (w0 : World) (h : ActsAt w0 a n L) (hb : sumA L + n ≤ 1048576) (f1 : fewB L = true) (hr : rightB N S = true) (hN : N ≤ 100) (hS : S ≤ 512) :
    Calls Try.prog 7 #[.int .i64 N, .int .i64 S, .slice a n c] w0 fun e w' => e = .returned (.bool true) ∧ Below w0.heap.size w0 w' := by
  have H := Lib.hid h
  have F1 := Lib.hid f1
  have HR := Lib.hid hr
  have hn : n ≤ 200 := by
    have := f1
    unfold fewB at this
    rw [h.len] at this
    simp only [Bool.and_eq_true, decide_eq_true_eq] at this
    omega
  have HNS : Hid (N * S ≤ 1000000) := Nat.le_trans (Nat.mul_le_mul hN hS) (by omega)
  have d0 : decide ((100 : Int) < N) = false := decide_eq_false (by omega)
  have d1 : decide ((512 : Int) < S) = false := decide_eq_false (by omega)
  clear h f1 hr
  go_enter Try.func7, Try.ntmps7
  go_wp2_with fail
  refine (known_any _).mono ?_
  rintro e w4 ⟨rfl, hb1⟩
  have B1 := Lib.hid hb1
  clear hb1
  go_wp2_with fail
  refine (few_any a n c L w4 (H.out.below B1.out) hb).mono ?_
  rintro e w5 ⟨rfl, hb2⟩
  rw [F1.out]
  have B2 := Lib.hid (Below.call B1.out hb2)
  clear hb2
  go_wp2_with fail
  refine (new_any N S w5 HR.out).mono ?_
  rintro e w6 ⟨d, Z, rfl, hd6, hz6, hb6⟩
  have D6 := Lib.hid hd6
  have Z6 := Lib.hid hz6
  have B6 := Lib.hid hb6
  clear hd6 hz6 hb6
  go_wp2_with fail
  refine (rnew_any N S w6 HR.out HNS.out).mono ?_
  rintro e w7 ⟨r, Zr, rfl, hr7, hz7, hb7⟩
  have T7 : Hid (Two w0 w7 d r Z Zr (dk0 N S)) := ⟨D6.out.below hb7, hr7, fun k h1 h2 => by have := D6.out.1 k h1; have := hz7 k h2; omega, fun k hk => Nat.le_trans B2.out.size (Z6.out k hk), fun k hk => Nat.le_trans B2.out.size (Nat.le_trans B6.out.size (hz7 k hk)), Below.call (Below.call B2.out B6.out) hb7⟩
  clear hr7 hz7 hb7
  go_wp2_with fail
  go_loopw [11] (fun i wr => ∃ (k : Nat) (Z Zr : Nat → Prop) (st : Dk), k ≤ n ∧ i = .int .i64 k ∧ Hid (Two w0 wr d r Z Zr st) ∧ Hid (PlI N S k st)) (fun i _ => n - (intOf i).toNat)
  case atStart => exact ⟨0, Z, Zr, _, by omega, rfl, T7, ⟨by show (List.replicate N _).length = N; rw [List.length_replicate], rfl, Nat.zero_le _, by show (0 : Int) ≤ 0 ∧ (0 : Int) ≤ _; omega, by show (0 : Int) ≤ 0 ∧ (0 : Int) ≤ _; omega⟩⟩
  case round =>
    clear T7 D6 Z6 B6 Z Zr
    obtain ⟨k, Z, Zr, st, hk, rfl, TW, HPL⟩ := hrel
    by_cases hkm : k < n
    · obtain ⟨A, hA⟩ : ∃ A, L[k]? = some A := ⟨_, List.getElem?_eq_getElem (by rw [H.out.len]; exact hkm)⟩
      obtain ⟨b, o, rfl, hat⟩ := H.out.at_ k A hA
      obtain ⟨⟨ba, bn, bc, ka, kn, kc, e0, e1, e2, e3, e4, e5, e6, hra, hka⟩, hwf⟩ := hat
      obtain ⟨p, hp⟩ : ∃ p : BitVec 32, A.pat = rnum p := ⟨BitVec.ofInt 32 A.pat, by have := wf_u32_bd hwf.2.2.2.2; rw [u32_ofInt _ this.1 this.2]⟩
      have hlt : ∀ (i : Nat) (v : Value), w0.cell? ⟨b, i, none⟩ = some v → wr.cell? ⟨b, i, none⟩ = some v := fun i v hv => by
        rw [← hv]; exact World.cell?_of_block (a := ⟨b, i, none⟩) (TW.out.below.block b (block_lt_of_cell hv))
      replace e0 := hlt _ _ e0
      replace e1 := hlt _ _ e1
      replace e2 := hlt _ _ e2
      replace e3 := hlt _ _ e3
      replace e4 := hlt _ _ e4
      replace e5 := hlt _ _ e5
      replace e6 := hlt _ _ e6
      rw [hp] at e6
      have hsec := wf_i64_bd hwf.2.1
      have hnn := wf_i64_bd hwf.2.2.2.1
      have hab := lt_of_actL hA
      have hfew : st.pend.length + 1 ≤ 1000000 ∧ st.writes + 1 ≤ 4611686018427387904 := by
        have h1 := HPL.out.few
        have h2 := HPL.out.writes.2
        omega
      have HKN : Hid (kn ≤ 1000000000) := by show _ ≤ _; have := hka.len; omega
      have HDT : Hid (∀ w1, RdAt .u8 w1 ba bn bc A.bytes → Calls Try.prog 20 #[.agg #[.int .i64 A.op, .int .i64 A.sec, .int .u8 A.fill, .slice ba bn bc, .int .i64 A.n, .slice ka kn kc, .int .u32 (rnum p)], .int .i64 S] w1 fun e w' => ∃ a n c, e = .returned (.slice a n c) ∧ RdAt .u8 w' a n c (dataL A S) ∧ Below w1.heap.size w1 w' ∧ (∀ x, a = some x → (a = ba ∧ n = bn ∧ 0 < bn) ∨ w1.heap.size ≤ x.block)) := by
        intro w1 h1
        rw [← hp]
        exact data_any A ba bn bc ka kn kc S w1 h1 (by omega) hwf.2.2.1
      have HBA : Hid ((∀ y, ba = some y → 0 < bn → ¬ Z y.block) ∧ (∀ y, ba = some y → 0 < bn → ¬ Zr y.block)) :=
        ⟨fun y h1 h2 h3 => by have h8 := TW.out.base _ h3; have h9 := rdLt hra y h1 h2; omega, fun y h1 h2 h3 => by have h8 := TW.out.rbase _ h3; have h9 := rdLt hra y h1 h2; omega⟩
      have HKA : Hid ((∀ y, ka = some y → 0 < kn → ¬ Z y.block) ∧ (∀ y, ka = some y → 0 < kn → ¬ Zr y.block)) :=
        ⟨fun y h1 h2 h3 => by have h8 := TW.out.base _ h3; have h9 := hka.lt y h1 h2; omega, fun y h1 h2 h3 => by have h8 := TW.out.rbase _ h3; have h9 := hka.lt y h1 h2; omega⟩
      obtain ⟨wA, hwA⟩ : ∃ wA, wr.alloc (.cells #[.int .i64 A.op, .int .i64 A.sec, .int .u8 A.fill, .slice ba bn bc, .int .i64 A.n, .slice ka kn kc, .int .u32 (rnum p)] 49) = wA := ⟨_, rfl⟩
      have hbA : Below wr.heap.size wr wA := by rw [← hwA]; exact (Below.refl _ _).alloc (Nat.le_refl _) _
      have htb : wA.heap[wr.heap.size]? = some (.cells #[.int .i64 A.op, .int .i64 A.sec, .int .u8 A.fill, .slice ba bn bc, .int .i64 A.n, .slice ka kn kc, .int .u32 (rnum p)] 49 (0, 0)) := by rw [← hwA]; exact heap_alloc_new _ _
      have TWA := Lib.hid (TW.out.more hbA)
      have HRA : Hid (RdAt .u8 wA ba bn bc A.bytes) := hra.below (Below.call TW.out.below hbA)
      have HKB : Hid (RdB wA ka kn kc A.keep) := hka.kept (fun x hx h0 => (Below.call TW.out.below hbA).block _ (hka.lt x hx h0))
      have HWA := Lib.hid hwA
      obtain ⟨tb, htbe⟩ : ∃ tb, wr.heap.size = tb := ⟨_, rfl⟩
      have HTBE := Lib.hid htbe
      have HTZ : Hid (¬ Z tb ∧ ¬ Zr tb) := ⟨fun h => by have := TW.out.din.1 _ h; omega, fun h => by have := TW.out.rin.1 _ h; omega⟩
      rw [htbe] at htb
      have HTB0 := Lib.hid htb
      have HTB : Hid (wA.drew.heap[tb]? = some (.cells #[.int .i64 A.op, .int .i64 A.sec, .int .u8 A.fill, .slice ba bn bc, .int .i64 A.n, .slice ka kn kc, .int .u32 (rnum p)] 49 (0, 0))) := htb
      have DIS := Lib.hid TWA.out.dis
      have HBZ := Lib.hid (And.intro TWA.out.base TWA.out.rbase)
      have HZB := Lib.hid (And.intro TWA.out.din.1 TWA.out.rin.1)
      have HBA0 := Lib.hid TWA.out.below.size
      have HI5 : Hid (RdAt .u8 wA.drew ba bn bc A.bytes ∧ ∀ z, Z z ∨ Zr z → z < wA.drew.heap.size) := ⟨HRA.out.at0 rfl, fun z hz => hz.elim (HZB.out.1 z) (HZB.out.2 z)⟩
      have HI6 : Hid (DkIn wA.drew Z d st ∧ wA.heap.size ≤ wA.drew.heap.size ∧ ∃ Zr1 str, RkIn wA.drew Zr1 r str ∧ (∀ z, Zr1 z → Zr z ∨ wA.heap.size ≤ z)) := ⟨TWA.out.din.same (fun _ _ => rfl) (Nat.le_refl _), Nat.le_refl _, Zr, st, TWA.out.rin.same (fun _ _ => rfl) (Nat.le_refl _), fun z hz => .inl hz⟩
      have HI13 : Hid (RkIn wA.drew Zr r st ∧ wA.heap.size ≤ wA.drew.heap.size) := ⟨TWA.out.rin.same (fun _ _ => rfl) (Nat.le_refl _), Nat.le_refl _⟩
      have HI15 : Hid (wA.drew.heap[tb]? = some (.cells #[.int .i64 A.op, .int .i64 A.sec, .int .u8 A.fill, .slice ba bn bc, .int .i64 A.n, .slice ka kn kc, .int .u32 (rnum p)] 49 (0, 0)) ∧ Below w0.heap.size w0 wA.drew) := ⟨htb, ⟨TWA.out.below.os, TWA.out.below.tape, TWA.out.below.output, TWA.out.below.size, TWA.out.below.block⟩⟩
      have HI7 : Hid (DkIn wA.drew Z d st ∧ RdB wA.drew ka kn kc A.keep ∧ Below wA.heap.size wA wA.drew) := ⟨HI6.out.1, HKB.out.kept (fun _ _ _ => rfl), ⟨rfl, rfl, rfl, Nat.le_refl _, fun _ _ => rfl⟩⟩
      obtain ⟨z0, z1, z2, z3, z4, z5, z6⟩ := cells7 htb
      clear hA hwf hp hlt hra hka hwA hbA htb htbe TW hab
      by_cases o1 : A.op = 1
      · have O1 := Lib.hid o1
        have q1 : (A.op == (1 : Int)) = true := by simpa using o1
        clear o1
        obtain ⟨st1, hst1⟩ : ∃ st1, wrS st A.sec (dataL A S) = st1 := ⟨_, rfl⟩
        have CN : CnOk N S k st st1 := by
          have := HPL.out.wr A.sec (dataL A S)
          rw [hst1] at this
          exact ⟨this.1, this.2.1, this.2.2.1, this.2.2.2.1, this.2.2.2.2⟩
        have HST := Lib.hid hst1
        go_wp2_with fail
        rw [HWA.out, HTBE.out]
        clear hst1
        · skip
          refine' reg_order [eqV _, eqV _, eqV _, eqV _, eqV _, (fun v w => ∃ a5 n5 c5, v = Value.slice a5 n5 c5 ∧ RdAt .u8 w a5 n5 c5 (dataL A S) ∧ ∀ y, a5 = some y → ¬ Z y.block ∧ ¬ Zr y.block), (fun v w => v = .int .i64 (wrE st A.sec (dataL A S)) ∧ ∃ Z1 Zr1 str, DkIn w Z1 d st1 ∧ RkIn w Zr1 r str ∧ (∀ k, Z1 k → Zr1 k → False) ∧ (∀ z, Z1 z → Z z ∨ wA.heap.size ≤ z) ∧ (∀ z, Zr1 z → Zr z ∨ wA.heap.size ≤ z) ∧ wA.heap.size ≤ w.heap.size), eqV _, eqV _, eqV _, eqV _, eqV _, (fun v w => ∃ a5 n5 c5, v = Value.slice a5 n5 c5 ∧ RdAt .u8 w a5 n5 c5 (dataL A S) ∧ ∀ y, a5 = some y → ¬ Z y.block ∧ ¬ Zr y.block), (fun v w => v = .int .i64 (wrE st A.sec (dataL A S)) ∧ ∃ Zr2, RkIn w Zr2 r st1 ∧ (∀ z, Zr2 z → Zr z ∨ wA.heap.size ≤ z)), eqV _] [(6, fun w5 w6 => ∃ Z', Tnd Z Z' w5 w6), (13, fun w5 w6 => ∃ Zr', Tnd Zr Zr' w5 w6 ∧ RkIn w6 Zr' r st1)] [(2, fun w => w.heap[tb]? = some (.cells #[.int .i64 A.op, .int .i64 A.sec, .int .u8 A.fill, .slice ba bn bc, .int .i64 A.n, .slice ka kn kc, .int .u32 (rnum p)] 49 (0, 0))), (3, fun w => w.heap[tb]? = some (.cells #[.int .i64 A.op, .int .i64 A.sec, .int .u8 A.fill, .slice ba bn bc, .int .i64 A.n, .slice ka kn kc, .int .u32 (rnum p)] 49 (0, 0))), (5, fun w => RdAt .u8 w ba bn bc A.bytes ∧ ∀ z, Z z ∨ Zr z → z < w.heap.size), (6, fun w => DkIn w Z d st ∧ wA.heap.size ≤ w.heap.size ∧ ∃ Zr1 str, RkIn w Zr1 r str ∧ (∀ z, Zr1 z → Zr z ∨ wA.heap.size ≤ z)), (9, fun w => w.heap[tb]? = some (.cells #[.int .i64 A.op, .int .i64 A.sec, .int .u8 A.fill, .slice ba bn bc, .int .i64 A.n, .slice ka kn kc, .int .u32 (rnum p)] 49 (0, 0))), (10, fun w => w.heap[tb]? = some (.cells #[.int .i64 A.op, .int .i64 A.sec, .int .u8 A.fill, .slice ba bn bc, .int .i64 A.n, .slice ka kn kc, .int .u32 (rnum p)] 49 (0, 0))), (12, fun w => RdAt .u8 w ba bn bc A.bytes ∧ ∀ z, Z z ∨ Zr z → z < w.heap.size), (13, fun w => RkIn w Zr r st ∧ wA.heap.size ≤ w.heap.size), (15, fun w => w.heap[tb]? = some (.cells #[.int .i64 A.op, .int .i64 A.sec, .int .u8 A.fill, .slice ba bn bc, .int .i64 A.n, .slice ka kn kc, .int .u32 (rnum p)] 49 (0, 0)) ∧ Below w0.heap.size w0 w)] [74, 75, 76, 77, 78, 79, 80, 81, 82, 83, 84, 85, 86, 87, 88] [[], [], [1], [], [], [3, 4], [0, 2, 5], [], [], [8], [], [], [10, 11], [7, 9, 12], [6, 13]] [0, 1, 2, 3, 4, 5, 6, 7, 8, 9, 10, 11, 12, 13, 14] 15 (by kernel_rfl) ⟨eqV_stays _, eqV_stays _, eqV_stays _, eqV_stays _, eqV_stays _, fun _ _ _ ⟨a5, n5, c5, e, p, q⟩ b => ⟨a5, n5, c5, e, p.below b, q⟩, fun _ _ _ ⟨e, Z1, Zr1, str, p, q, x, y, z, s⟩ b => ⟨e, Z1, Zr1, str, p.below b, q.below b, x, y, z, Nat.le_trans s b.size⟩, eqV_stays _, eqV_stays _, eqV_stays _, eqV_stays _, eqV_stays _, fun _ _ _ ⟨a5, n5, c5, e, p, q⟩ b => ⟨a5, n5, c5, e, p.below b, q⟩, fun _ _ _ ⟨e, Zr2, p, q⟩ b => ⟨e, Zr2, p.below b, q⟩, eqV_stays _, trivial⟩ ⟨⟨.inl (eqV_stays _), .inl (eqV_stays _), .inl (eqV_stays _), .inl (eqV_stays _), .inl (eqV_stays _), .inl (fun _ _ _ ⟨a5, n5, c5, e, p, q⟩ ⟨_, t⟩ => ⟨a5, n5, c5, e, p.tnd t (fun x hx => (q x hx).1), q⟩), .inr (.inr rfl), .inl (eqV_stays _), .inl (eqV_stays _), .inl (eqV_stays _), .inl (eqV_stays _), .inl (eqV_stays _), .inr (.inl (by kernel_rfl)), .inr (.inl (by kernel_rfl)), .inl (eqV_stays _), trivial⟩, ⟨.inl (eqV_stays _), .inl (eqV_stays _), .inl (eqV_stays _), .inl (eqV_stays _), .inl (eqV_stays _), .inl (fun _ _ _ ⟨a5, n5, c5, e, p, q⟩ ⟨_, t, _⟩ => ⟨a5, n5, c5, e, p.tnd t (fun x hx => (q x hx).2), q⟩), .inl (fun _ _ _ ⟨e, Z1, Zr1, str, pp, q, x, y, z, s⟩ ⟨Zr', t, hr⟩ => ⟨e, Z1, Zr', st1, pp.tnd t (fun k h1 h2 => (y k h2).elim (fun h3 => DIS.out k h3 h1) (fun h3 => by have := HZB.out.2 k h1; omega)), hr, (fun k h1 h2 => (t.sub k h2).elim (fun h3 => (y k h1).elim (fun h4 => DIS.out k h4 h3) (fun h4 => by have := HZB.out.2 k h3; omega)) (fun h3 => by have := pp.1 k h1; omega)), y, (fun k hk => (t.sub k hk).imp id (fun h => Nat.le_trans s h)), Nat.le_trans s t.size⟩), .inl (eqV_stays _), .inl (eqV_stays _), .inl (eqV_stays _), .inl (eqV_stays _), .inl (eqV_stays _), .inl (fun _ _ _ ⟨a5, n5, c5, e, p, q⟩ ⟨_, t, _⟩ => ⟨a5, n5, c5, e, p.tnd t (fun x hx => (q x hx).2), q⟩), .inr (.inr rfl), .inl (eqV_stays _), trivial⟩, trivial⟩ ⟨fun _ _ p b => row_keep p b, fun _ _ p b => row_keep p b, fun _ _ p b => ⟨p.1.below b, fun z hz => Nat.lt_of_lt_of_le (p.2 z hz) b.size⟩, fun _ _ ⟨p, s, Zr1, str, q, t⟩ b => ⟨p.below b, Nat.le_trans s b.size, Zr1, str, q.below b, t⟩, fun _ _ p b => row_keep p b, fun _ _ p b => row_keep p b, fun _ _ p b => ⟨p.1.below b, fun z hz => Nat.lt_of_lt_of_le (p.2 z hz) b.size⟩, fun _ _ p b => ⟨p.1.below b, Nat.le_trans p.2 b.size⟩, fun _ _ p b => ⟨row_keep p.1 b, Below.call p.2 b⟩, trivial⟩ ⟨⟨.inr (.inl (by kernel_rfl)), .inr (.inl (by kernel_rfl)), .inr (.inl (by kernel_rfl)), .inr (.inr rfl), .inl (fun _ _ p ⟨_, t⟩ => row_tnd p t HTZ.out.1), .inl (fun _ _ p ⟨_, t⟩ => row_tnd p t HTZ.out.1), .inl (fun _ _ p ⟨_, t⟩ => ⟨p.1.tndN t HBA.out.1, fun z hz => Nat.lt_of_lt_of_le (p.2 z hz) t.size⟩), .inl (fun _ _ p ⟨_, t⟩ => ⟨p.1.tnd t DIS.out, Nat.le_trans p.2 t.size⟩), .inl (fun _ _ p ⟨_, t⟩ => ⟨row_tnd p.1 t HTZ.out.1, p.2.trans (t.below HBZ.out.1 p.2.size)⟩), trivial⟩, ⟨.inr (.inl (by kernel_rfl)), .inr (.inl (by kernel_rfl)), .inr (.inl (by kernel_rfl)), .inr (.inl (by kernel_rfl)), .inr (.inl (by kernel_rfl)), .inr (.inl (by kernel_rfl)), .inr (.inl (by kernel_rfl)), .inr (.inr rfl), .inl (fun _ _ p ⟨_, t, _⟩ => ⟨row_tnd p.1 t HTZ.out.2, p.2.trans (t.below HBZ.out.2 p.2.size)⟩), trivial⟩, trivial⟩ ⟨HTB.out, HTB.out, HI5.out, HI6.out, HTB.out, HTB.out, HI5.out, HI13.out, HI15.out, trivial⟩ 169 rfl (by kernel_rfl) (by kernel_rfl) rfl rfl 15 rfl ?q1obl ?q1fin
          case q1obl =>
            refine And.intro ?q1o0 (And.intro ?q1o1 (And.intro ?q1o2 (And.intro ?q1o3 (And.intro ?q1o4 (And.intro ?q1o5 (And.intro ?q1o6 (And.intro ?q1o7 (And.intro ?q1o8 (And.intro ?q1o9 (And.intro ?q1o10 (And.intro ?q1o11 (And.intro ?q1o12 (And.intro ?q1o13 (And.intro ?q1o14 (True.intro)))))))))))))))
            case q1o0 =>
              intro w1 hI
              refine turn2_on (by rfl) ?_
              intro K hK
              go_simp
              refine hK _ _ ⟨rfl, Kept.refl _, ?_⟩
              show _ = _
              simp only [List.getD_cons_zero, List.getD_cons_succ, Array.getD_eq_getD_getElem?, List.getElem?_toArray, List.getElem?_cons_zero, List.getElem?_cons_succ, Option.getD_some]
              rfl
            case q1o1 =>
              intro w1 hI
              refine turn2_on (by rfl) ?_
              intro K hK
              go_simp
              refine hK _ _ ⟨rfl, Kept.refl _, ?_⟩
              show _ = _
              simp only [List.getD_cons_zero, List.getD_cons_succ, Array.getD_eq_getD_getElem?, List.getElem?_toArray, List.getElem?_cons_zero, List.getElem?_cons_succ, Option.getD_some]
              rfl
            case q1o2 =>
              intro w1 hI
              replace hI : (fun w => w.heap[tb]? = some (.cells #[.int .i64 A.op, .int .i64 A.sec, .int .u8 A.fill, .slice ba bn bc, .int .i64 A.n, .slice ka kn kc, .int .u32 (rnum p)] 49 (0, 0))) w1 := hI
              intro v1 h1
              change _ = _ at h1
              subst v1
              refine turn2_on (by rfl) ?_
              intro K hK
              simp only [List.getD_cons_zero, List.getD_cons_succ, List.setIfInBounds_toArray, List.set_cons_zero, List.set_cons_succ]
              obtain ⟨t0, t1, t2, t3, t4, t5, t6⟩ := cells7 hI
              go_simp
              refine hK _ _ ⟨rfl, Kept.refl _, ?_⟩
              show _ = _
              simp only [List.getD_cons_zero, List.getD_cons_succ, Array.getD_eq_getD_getElem?, List.getElem?_toArray, List.getElem?_cons_zero, List.getElem?_cons_succ, Option.getD_some]
              rfl
            case q1o3 =>
              intro w1 hI
              replace hI : (fun w => w.heap[tb]? = some (.cells #[.int .i64 A.op, .int .i64 A.sec, .int .u8 A.fill, .slice ba bn bc, .int .i64 A.n, .slice ka kn kc, .int .u32 (rnum p)] 49 (0, 0))) w1 := hI
              refine turn2_on (by rfl) ?_
              intro K hK
              obtain ⟨t0, t1, t2, t3, t4, t5, t6⟩ := cells7 hI
              go_simp
              refine hK _ _ ⟨rfl, Kept.refl _, ?_⟩
              show _ = _
              simp only [List.getD_cons_zero, List.getD_cons_succ, Array.getD_eq_getD_getElem?, List.getElem?_toArray, List.getElem?_cons_zero, List.getElem?_cons_succ, Option.getD_some]
              rfl
            case q1o4 =>
              intro w1 hI
              refine turn2_on (by rfl) ?_
              intro K hK
              go_simp
              refine hK _ _ ⟨rfl, Kept.refl _, ?_⟩
              show _ = _
              simp only [List.getD_cons_zero, List.getD_cons_succ, Array.getD_eq_getD_getElem?, List.getElem?_toArray, List.getElem?_cons_zero, List.getElem?_cons_succ, Option.getD_some]
              rfl
            case q1o5 =>
              intro w1 hI
              replace hI : (fun w => RdAt .u8 w ba bn bc A.bytes ∧ ∀ z, Z z ∨ Zr z → z < w.heap.size) w1 := hI
              intro v3 h3
              change _ = _ at h3
              subst v3
              intro v4 h4
              change _ = _ at h4
              subst v4
              refine turn2_on (by rfl) ?_
              intro K hK
              simp only [List.getD_cons_zero, List.getD_cons_succ, List.setIfInBounds_toArray, List.set_cons_zero, List.set_cons_succ]
              obtain ⟨hI, hIz⟩ := hI
              go_simp
              refine Calls.mono (HDT.out w1 hI) ?_
              rintro e w9 ⟨a9, n9, c9, rfl, h9, hb9, hz9⟩
              refine hK _ _ ⟨rfl, hb9, ?_⟩
              show ∃ a5 n5 c5, _ = Value.slice a5 n5 c5 ∧ RdAt .u8 _ a5 n5 c5 _ ∧ _
              simp only [List.getD_cons_zero, List.getD_cons_succ, Array.getD_eq_getD_getElem?, List.getElem?_toArray, List.getElem?_cons_zero, List.getElem?_cons_succ, Option.getD_some]
              exact ⟨a9, n9, c9, rfl, h9, fun y hy => ⟨fun hz => (hz9 y hy).elim (fun e => HBA.out.1 y (by rw [← e.1]; exact hy) e.2.2 hz) (fun h => by have := hIz _ (.inl hz); omega), fun hz => (hz9 y hy).elim (fun e => HBA.out.2 y (by rw [← e.1]; exact hy) e.2.2 hz) (fun h => by have := hIz _ (.inr hz); omega)⟩⟩
            case q1o6 =>
              intro w1 hI
              replace hI : (fun w => DkIn w Z d st ∧ wA.heap.size ≤ w.heap.size ∧ ∃ Zr1 str, RkIn w Zr1 r str ∧ (∀ z, Zr1 z → Zr z ∨ wA.heap.size ≤ z)) w1 := hI
              intro v0 h0
              change _ = _ at h0
              subst v0
              intro v2 h2
              change _ = _ at h2
              subst v2
              intro v5 h5
              obtain ⟨a5, n5, c5, rfl, h5, h5z⟩ := h5
              refine turn2_on (by rfl) ?_
              intro K hK
              simp only [List.getD_cons_zero, List.getD_cons_succ, List.setIfInBounds_toArray, List.set_cons_zero, List.set_cons_succ]
              obtain ⟨hD, hBs, Zr1, str, hR, hS⟩ := hI
              go_simp
              refine Calls.mono (write_any Z d st A.sec a5 n5 c5 (dataL A S) w1 hD h5 (fun x hx => (h5z x hx).1) hsec.1 hsec.2 hfew.1 hfew.2) ?_
              rintro e w9 ⟨rfl, Z', hd9, ht9⟩
              rw [HST.out] at hd9
              refine hK _ _ ⟨rfl, ⟨Z', ht9⟩, ?_⟩
              show _ = _ ∧ _
              simp only [List.getD_cons_zero, List.getD_cons_succ, Array.getD_eq_getD_getElem?, List.getElem?_toArray, List.getElem?_cons_zero, List.getElem?_cons_succ, Option.getD_some]
              refine ⟨(by first | trivial | rfl), Z', Zr1, str, hd9, hR.tnd ht9 (fun k hz hr => (hS k hr).elim (DIS.out k hz) (fun hb => by have := HZB.out.1 k hz; omega)), (fun k h1 h2 => (ht9.sub k h1).elim (fun hz => (hS k h2).elim (fun hr => DIS.out k hz hr) (fun hb => by have := HZB.out.1 k hz; omega)) (fun h => by have := hR.1 k h2; omega)), (fun z hz => (ht9.sub z hz).imp id (fun h => Nat.le_trans hBs h)), hS, Nat.le_trans hBs ht9.size⟩
            case q1o7 =>
              intro w1 hI
              refine turn2_on (by rfl) ?_
              intro K hK
              go_simp
              refine hK _ _ ⟨rfl, Kept.refl _, ?_⟩
              show _ = _
              simp only [List.getD_cons_zero, List.getD_cons_succ, Array.getD_eq_getD_getElem?, List.getElem?_toArray, List.getElem?_cons_zero, List.getElem?_cons_succ, Option.getD_some]
              rfl
            case q1o8 =>
              intro w1 hI
              refine turn2_on (by rfl) ?_
              intro K hK
              go_simp
              refine hK _ _ ⟨rfl, Kept.refl _, ?_⟩
              show _ = _
              simp only [List.getD_cons_zero, List.getD_cons_succ, Array.getD_eq_getD_getElem?, List.getElem?_toArray, List.getElem?_cons_zero, List.getElem?_cons_succ, Option.getD_some]
              rfl
            case q1o9 =>
              intro w1 hI
              replace hI : (fun w => w.heap[tb]? = some (.cells #[.int .i64 A.op, .int .i64 A.sec, .int .u8 A.fill, .slice ba bn bc, .int .i64 A.n, .slice ka kn kc, .int .u32 (rnum p)] 49 (0, 0))) w1 := hI
              intro v8 h8
              change _ = _ at h8
              subst v8
              refine turn2_on (by rfl) ?_
              intro K hK
              simp only [List.getD_cons_zero, List.getD_cons_succ, List.setIfInBounds_toArray, List.set_cons_zero, List.set_cons_succ]
              obtain ⟨t0, t1, t2, t3, t4, t5, t6⟩ := cells7 hI
              go_simp
              refine hK _ _ ⟨rfl, Kept.refl _, ?_⟩
              show _ = _
              simp only [List.getD_cons_zero, List.getD_cons_succ, Array.getD_eq_getD_getElem?, List.getElem?_toArray, List.getElem?_cons_zero, List.getElem?_cons_succ, Option.getD_some]
              rfl
            case q1o10 =>
              intro w1 hI
              replace hI : (fun w => w.heap[tb]? = some (.cells #[.int .i64 A.op, .int .i64 A.sec, .int .u8 A.fill, .slice ba bn bc, .int .i64 A.n, .slice ka kn kc, .int .u32 (rnum p)] 49 (0, 0))) w1 := hI
              refine turn2_on (by rfl) ?_
              intro K hK
              obtain ⟨t0, t1, t2, t3, t4, t5, t6⟩ := cells7 hI
              go_simp
              refine hK _ _ ⟨rfl, Kept.refl _, ?_⟩
              show _ = _
              simp only [List.getD_cons_zero, List.getD_cons_succ, Array.getD_eq_getD_getElem?, List.getElem?_toArray, List.getElem?_cons_zero, List.getElem?_cons_succ, Option.getD_some]
              rfl
            case q1o11 =>
              intro w1 hI
              refine turn2_on (by rfl) ?_
              intro K hK
              go_simp
              refine hK _ _ ⟨rfl, Kept.refl _, ?_⟩
              show _ = _
              simp only [List.getD_cons_zero, List.getD_cons_succ, Array.getD_eq_getD_getElem?, List.getElem?_toArray, List.getElem?_cons_zero, List.getElem?_cons_succ, Option.getD_some]
              rfl
            case q1o12 =>
              intro w1 hI
              replace hI : (fun w => RdAt .u8 w ba bn bc A.bytes ∧ ∀ z, Z z ∨ Zr z → z < w.heap.size) w1 := hI
              intro v10 h10
              change _ = _ at h10
              subst v10
              intro v11 h11
              change _ = _ at h11
              subst v11
              refine turn2_on (by rfl) ?_
              intro K hK
              simp only [List.getD_cons_zero, List.getD_cons_succ, List.setIfInBounds_toArray, List.set_cons_zero, List.set_cons_succ]
              obtain ⟨hI, hIz⟩ := hI
              go_simp
              refine Calls.mono (HDT.out w1 hI) ?_
              rintro e w9 ⟨a9, n9, c9, rfl, h9, hb9, hz9⟩
              refine hK _ _ ⟨rfl, hb9, ?_⟩
              show ∃ a5 n5 c5, _ = Value.slice a5 n5 c5 ∧ RdAt .u8 _ a5 n5 c5 _ ∧ _
              simp only [List.getD_cons_zero, List.getD_cons_succ, Array.getD_eq_getD_getElem?, List.getElem?_toArray, List.getElem?_cons_zero, List.getElem?_cons_succ, Option.getD_some]
              exact ⟨a9, n9, c9, rfl, h9, fun y hy => ⟨fun hz => (hz9 y hy).elim (fun e => HBA.out.1 y (by rw [← e.1]; exact hy) e.2.2 hz) (fun h => by have := hIz _ (.inl hz); omega), fun hz => (hz9 y hy).elim (fun e => HBA.out.2 y (by rw [← e.1]; exact hy) e.2.2 hz) (fun h => by have := hIz _ (.inr hz); omega)⟩⟩
            case q1o13 =>
              intro w1 hI
              replace hI : (fun w => RkIn w Zr r st ∧ wA.heap.size ≤ w.heap.size) w1 := hI
              intro v7 h7
              change _ = _ at h7
              subst v7
              intro v9 h9
              change _ = _ at h9
              subst v9
              intro v12 h12
              obtain ⟨a12, n12, c12, rfl, h12, h12z⟩ := h12
              refine turn2_on (by rfl) ?_
              intro K hK
              simp only [List.getD_cons_zero, List.getD_cons_succ, List.setIfInBounds_toArray, List.set_cons_zero, List.set_cons_succ]
              obtain ⟨hR, hBs⟩ := hI
              go_simp
              refine Calls.mono (rwrite_any Zr r st A.sec a12 n12 c12 (dataL A S) w1 hR h12 (fun x hx => (h12z x hx).2) hsec.1 hsec.2 hfew.1 hfew.2) ?_
              rintro e w9 ⟨rfl, Zr', hr9, ht9⟩
              rw [HST.out] at hr9
              refine hK _ _ ⟨rfl, ⟨Zr', ht9, hr9⟩, ?_⟩
              show _ = _ ∧ _
              simp only [List.getD_cons_zero, List.getD_cons_succ, Array.getD_eq_getD_getElem?, List.getElem?_toArray, List.getElem?_cons_zero, List.getElem?_cons_succ, Option.getD_some]
              exact ⟨(by first | trivial | rfl), Zr', hr9, fun z hz => (ht9.sub z hz).imp id (fun h => Nat.le_trans hBs h)⟩
            case q1o14 =>
              intro w1 hI
              intro v6 h6
              obtain ⟨rfl, h6⟩ := h6
              intro v13 h13
              obtain ⟨rfl, h13⟩ := h13
              refine turn2_on (by rfl) ?_
              intro K hK
              simp only [List.getD_cons_zero, List.getD_cons_succ, List.setIfInBounds_toArray, List.set_cons_zero, List.set_cons_succ]
              go_simp
              refine hK _ _ ⟨rfl, Kept.refl _, ?_⟩
              show _ = _
              simp only [List.getD_cons_zero, List.getD_cons_succ, Array.getD_eq_getD_getElem?, List.getElem?_toArray, List.getElem?_cons_zero, List.getElem?_cons_succ, Option.getD_some]
              rfl
          intro w1 hI
          replace hI : (fun w => w.heap[tb]? = some (.cells #[.int .i64 A.op, .int .i64 A.sec, .int .u8 A.fill, .slice ba bn bc, .int .i64 A.n, .slice ka kn kc, .int .u32 (rnum p)] 49 (0, 0)) ∧ Below w0.heap.size w0 w) w1 := hI
          intro v0 h0
          change _ = _ at h0
          subst v0
          intro v1 h1
          change _ = _ at h1
          subst v1
          intro v2 h2
          change _ = _ at h2
          subst v2
          intro v3 h3
          change _ = _ at h3
          subst v3
          intro v4 h4
          change _ = _ at h4
          subst v4
          intro v5 h5
          obtain ⟨a5, n5, c5, rfl, h5, h5z⟩ := h5
          intro v6 h6
          obtain ⟨rfl, h6⟩ := h6
          intro v7 h7
          change _ = _ at h7
          subst v7
          intro v8 h8
          change _ = _ at h8
          subst v8
          intro v9 h9
          change _ = _ at h9
          subst v9
          intro v10 h10
          change _ = _ at h10
          subst v10
          intro v11 h11
          change _ = _ at h11
          subst v11
          intro v12 h12
          obtain ⟨a12, n12, c12, rfl, h12, h12z⟩ := h12
          intro v13 h13
          obtain ⟨rfl, h13⟩ := h13
          intro v14 h14
          change _ = _ at h14
          subst v14
          simp only [Given, List.getD_cons_zero, List.getD_cons_succ, List.setIfInBounds_toArray, List.set_cons_zero, List.set_cons_succ]
          obtain ⟨Z1, Zr1, str, hd1, hr1, hdis1, hs1, hs2, _⟩ := h6
          obtain ⟨Zr2, hr2, _⟩ := h13
          have hstr := hr1.inj hr2
          subst hstr
          have TB1 := Lib.hid hI.1
          have TW1 : Hid (Two w0 w1 d r Z1 Zr1 str) := ⟨hd1, hr1, hdis1, fun z hz => (hs1 z hz).elim (HBZ.out.1 z) (fun h => Nat.le_trans HBA0.out h), fun z hz => (hs2 z hz).elim (HBZ.out.2 z) (fun h => Nat.le_trans HBA0.out h), hI.2⟩
          clear hd1 hr1 hdis1 hs1 hs2 hr2 hI
          obtain ⟨t0, t1, t2, t3, t4, t5, t6⟩ := cells7 TB1.out
          go_wp2_with fail
          refine (same2_any Z1 Zr1 d r _ A.sec w1 TW1.out.din TW1.out.rin TW1.out.dis hsec.1 hsec.2 (by have h5 := CN.reads; have h6 := HPL.out.reads.2; exact Int.le_trans (Int.add_le_add_right (Int.le_trans (Int.le_of_eq h5) h6) 1) (by omega)) w0.heap.size TW1.out.base TW1.out.rbase TW1.out.below.size).mono ?_
          rintro e w9 ⟨rfl, hd9, hr9, hb9⟩
          have TW9 := Lib.hid (Two.mk hd9 hr9 TW1.out.dis TW1.out.base TW1.out.rbase (TW1.out.below.trans hb9))
          have PL9 := Lib.hid (HPL.out.next CN.n CN.size CN.few CN.writes CN.reads A.sec)
          clear hd9 hr9 hb9 TW1 CN t0 t1 t2 t3 t4 t5 t6 TB1
          go_wp2_with fail
          go_roundw
          case rel => exact ⟨k + 1, Z1, Zr1, _, by omega, by go_num, TW9, PL9⟩
          case measure => simp [intOf] <;> omega
      have q1 : (A.op == (1 : Int)) = false := by simpa using o1
      have p1 : decide (A.op = 1) = false := decide_eq_false o1
      by_cases o2 : A.op = 2
      · have O2 := Lib.hid o2
        have q2 : (A.op == (2 : Int)) = true := by simpa using o2
        clear o1 o2
        go_wp2_with fail
        rw [HWA.out, HTBE.out]
        refine (flush_any Z d st wA TWA.out.din).mono ?_
        rintro e w1 ⟨rfl, hd1, ht1⟩
        obtain ⟨st1, hst1⟩ : ∃ st1, (if st.off = true then st else flushS st) = st1 := ⟨_, rfl⟩
        obtain ⟨E, hE⟩ : ∃ E : Int, (if st.off = true then 8 else 0) = E := ⟨_, rfl⟩
        rw [hst1] at hd1
        rw [hE]
        have D1 := Lib.hid hd1
        have T1 := Lib.hid ht1
        have RR1 := Lib.hid (TWA.out.rin.tnd ht1 DIS.out)
        have CN : CnOk N S k st st1 := by
          rw [← hst1]
          by_cases ho : st.off = true
          · rw [if_pos ho]
            exact ⟨HPL.out.n, HPL.out.size, Nat.le_trans HPL.out.few (Nat.le_succ k), ⟨HPL.out.writes.1, Int.le_trans HPL.out.writes.2 (by omega)⟩, rfl⟩
          · rw [if_neg ho]
            refine ⟨?_, HPL.out.size, Nat.zero_le _, by have := HPL.out.writes; exact ⟨this.1, by show st.writes ≤ _; omega⟩, rfl⟩
            show (settleK _ 0 st.pend st.kept).length = N
            rw [settleK_len]; exact HPL.out.n
        have HST := Lib.hid hst1
        have HE := Lib.hid hE
        clear hd1 ht1 hst1 hE z0 z1 z2 z3 z4 z5 z6
        go_wp2_with fail
        refine (rflush_any Zr r st w1 RR1.out).mono ?_
        rintro e w2 ⟨rfl, hr2, ht2⟩
        rw [HE.out]
        rw [HST.out] at hr2
        have TW1 := Lib.hid (TWA.out.turn D1.out T1.out hr2 ht2)
        have TB1 := Lib.hid (row_tnd (row_tnd HTB0.out T1.out HTZ.out.1) ht2 HTZ.out.2)
        clear hr2 ht2
        obtain ⟨t0, t1, t2, t3, t4, t5, t6⟩ := cells7 TB1.out
        go_wp2_with fail
        refine (same2_any Z Zr d r _ A.sec w2 TW1.out.din TW1.out.rin TW1.out.dis hsec.1 hsec.2 (by have h5 := CN.reads; have h6 := HPL.out.reads.2; exact Int.le_trans (Int.add_le_add_right (Int.le_trans (Int.le_of_eq h5) h6) 1) (by omega)) w0.heap.size TW1.out.base TW1.out.rbase TW1.out.below.size).mono ?_
        rintro e w9 ⟨rfl, hd9, hr9, hb9⟩
        have TW9 := Lib.hid (Two.mk hd9 hr9 TW1.out.dis TW1.out.base TW1.out.rbase (TW1.out.below.trans hb9))
        have PL9 := Lib.hid (HPL.out.next CN.n CN.size CN.few CN.writes CN.reads A.sec)
        clear hd9 hr9 hb9 TW1 CN t0 t1 t2 t3 t4 t5 t6 TB1
        go_wp2_with fail
        go_roundw
        case rel => exact ⟨k + 1, Z, Zr, _, by omega, by go_num, TW9, PL9⟩
        case measure => simp [intOf] <;> omega
      have q2 : (A.op == (2 : Int)) = false := by simpa using o2
      have p2 : decide (A.op = 2) = false := decide_eq_false o2
      by_cases o3 : A.op = 3
      · have O3 := Lib.hid o3
        have q3 : (A.op == (3 : Int)) = true := by simpa using o3
        clear o1 o2 o3
        go_wp2_with fail
        rw [HWA.out, HTBE.out]
        · skip
          refine' reg_order [eqV _, eqV _, eqV _, eqV _, eqV _, eqV _, eqV _, (fun _ w => ∃ Z', DkIn w Z' d (armS st A.n A.keep) ∧ Tnd Z Z' wA w)] [(7, fun w5 w6 => ∃ Z', Tnd Z Z' w5 w6)] [(4, fun w => w.heap[tb]? = some (.cells #[.int .i64 A.op, .int .i64 A.sec, .int .u8 A.fill, .slice ba bn bc, .int .i64 A.n, .slice ka kn kc, .int .u32 (rnum p)] 49 (0, 0))), (6, fun w => w.heap[tb]? = some (.cells #[.int .i64 A.op, .int .i64 A.sec, .int .u8 A.fill, .slice ba bn bc, .int .i64 A.n, .slice ka kn kc, .int .u32 (rnum p)] 49 (0, 0))), (7, fun w => DkIn w Z d st ∧ RdB w ka kn kc A.keep ∧ Below wA.heap.size wA w), (8, fun w => w.heap[tb]? = some (.cells #[.int .i64 A.op, .int .i64 A.sec, .int .u8 A.fill, .slice ba bn bc, .int .i64 A.n, .slice ka kn kc, .int .u32 (rnum p)] 49 (0, 0)))] [98, 99, 100, 101, 102, 103, 104, 105] [[], [0], [1], [], [3], [], [5], [2, 4, 6]] [0, 1, 2, 3, 4, 5, 6, 7] 8 (by kernel_rfl) ⟨eqV_stays _, eqV_stays _, eqV_stays _, eqV_stays _, eqV_stays _, eqV_stays _, eqV_stays _, fun _ _ _ ⟨Z', p, q⟩ b => ⟨Z', p.below b, q.trans (Below.tnd b Z')⟩, trivial⟩ ⟨⟨.inl (eqV_stays _), .inl (eqV_stays _), .inl (eqV_stays _), .inl (eqV_stays _), .inl (eqV_stays _), .inl (eqV_stays _), .inl (eqV_stays _), .inr (.inr rfl), trivial⟩, trivial⟩ ⟨fun _ _ p b => row_keep p b, fun _ _ p b => row_keep p b, fun _ _ p b => ⟨p.1.below b, p.2.1.kept (fun x hx h0 => b.block _ (p.2.1.lt x hx h0)), Below.call p.2.2 b⟩, fun _ _ p b => row_keep p b, trivial⟩ ⟨⟨.inr (.inl (by kernel_rfl)), .inr (.inl (by kernel_rfl)), .inr (.inr rfl), .inl (fun _ _ p ⟨_, t⟩ => row_tnd p t HTZ.out.1), trivial⟩, trivial⟩ ⟨HTB.out, HTB.out, HI7.out, HTB.out, trivial⟩ 169 rfl (by kernel_rfl) (by kernel_rfl) rfl rfl 8 rfl ?q3obl ?q3fin
          case q3obl =>
            refine And.intro ?q3o0 (And.intro ?q3o1 (And.intro ?q3o2 (And.intro ?q3o3 (And.intro ?q3o4 (And.intro ?q3o5 (And.intro ?q3o6 (And.intro ?q3o7 (True.intro))))))))
            case q3o0 =>
              intro w1 hI
              refine turn2_on (by rfl) ?_
              intro K hK
              go_simp
              refine hK _ _ ⟨rfl, Kept.refl _, ?_⟩
              show _ = _
              simp only [List.getD_cons_zero, List.getD_cons_succ, Array.getD_eq_getD_getElem?, List.getElem?_toArray, List.getElem?_cons_zero, List.getElem?_cons_succ, Option.getD_some]
              rfl
            case q3o1 =>
              intro w1 hI
              intro v0 h0
              change _ = _ at h0
              subst v0
              refine turn2_on (by rfl) ?_
              intro K hK
              simp only [List.getD_cons_zero, List.getD_cons_succ, List.setIfInBounds_toArray, List.set_cons_zero, List.set_cons_succ]
              go_simp
              refine hK _ _ ⟨rfl, Kept.refl _, ?_⟩
              show _ = _
              simp only [List.getD_cons_zero, List.getD_cons_succ, Array.getD_eq_getD_getElem?, List.getElem?_toArray, List.getElem?_cons_zero, List.getElem?_cons_succ, Option.getD_some]
              rfl
            case q3o2 =>
              intro w1 hI
              intro v1 h1
              change _ = _ at h1
              subst v1
              refine turn2_on (by rfl) ?_
              intro K hK
              simp only [List.getD_cons_zero, List.getD_cons_succ, List.setIfInBounds_toArray, List.set_cons_zero, List.set_cons_succ]
              go_simp
              refine hK _ _ ⟨rfl, Kept.refl _, ?_⟩
              show _ = _
              simp only [List.getD_cons_zero, List.getD_cons_succ, Array.getD_eq_getD_getElem?, List.getElem?_toArray, List.getElem?_cons_zero, List.getElem?_cons_succ, Option.getD_some]
              rfl
            case q3o3 =>
              intro w1 hI
              refine turn2_on (by rfl) ?_
              intro K hK
              go_simp
              refine hK _ _ ⟨rfl, Kept.refl _, ?_⟩
              show _ = _
              simp only [List.getD_cons_zero, List.getD_cons_succ, Array.getD_eq_getD_getElem?, List.getElem?_toArray, List.getElem?_cons_zero, List.getElem?_cons_succ, Option.getD_some]
              rfl
            case q3o4 =>
              intro w1 hI
              replace hI : (fun w => w.heap[tb]? = some (.cells #[.int .i64 A.op, .int .i64 A.sec, .int .u8 A.fill, .slice ba bn bc, .int .i64 A.n, .slice ka kn kc, .int .u32 (rnum p)] 49 (0, 0))) w1 := hI
              intro v3 h3
              change _ = _ at h3
              subst v3
              refine turn2_on (by rfl) ?_
              intro K hK
              simp only [List.getD_cons_zero, List.getD_cons_succ, List.setIfInBounds_toArray, List.set_cons_zero, List.set_cons_succ]
              obtain ⟨t0, t1, t2, t3, t4, t5, t6⟩ := cells7 hI
              go_simp
              refine hK _ _ ⟨rfl, Kept.refl _, ?_⟩
              show _ = _
              simp only [List.getD_cons_zero, List.getD_cons_succ, Array.getD_eq_getD_getElem?, List.getElem?_toArray, List.getElem?_cons_zero, List.getElem?_cons_succ, Option.getD_some]
              rfl
            case q3o5 =>
              intro w1 hI
              refine turn2_on (by rfl) ?_
              intro K hK
              go_simp
              refine hK _ _ ⟨rfl, Kept.refl _, ?_⟩
              show _ = _
              simp only [List.getD_cons_zero, List.getD_cons_succ, Array.getD_eq_getD_getElem?, List.getElem?_toArray, List.getElem?_cons_zero, List.getElem?_cons_succ, Option.getD_some]
              rfl
            case q3o6 =>
              intro w1 hI
              replace hI : (fun w => w.heap[tb]? = some (.cells #[.int .i64 A.op, .int .i64 A.sec, .int .u8 A.fill, .slice ba bn bc, .int .i64 A.n, .slice ka kn kc, .int .u32 (rnum p)] 49 (0, 0))) w1 := hI
              intro v5 h5
              change _ = _ at h5
              subst v5
              refine turn2_on (by rfl) ?_
              intro K hK
              simp only [List.getD_cons_zero, List.getD_cons_succ, List.setIfInBounds_toArray, List.set_cons_zero, List.set_cons_succ]
              obtain ⟨t0, t1, t2, t3, t4, t5, t6⟩ := cells7 hI
              go_simp
              refine hK _ _ ⟨rfl, Kept.refl _, ?_⟩
              show _ = _
              simp only [List.getD_cons_zero, List.getD_cons_succ, Array.getD_eq_getD_getElem?, List.getElem?_toArray, List.getElem?_cons_zero, List.getElem?_cons_succ, Option.getD_some]
              rfl
            case q3o7 =>
              intro w1 hI
              replace hI : (fun w => DkIn w Z d st ∧ RdB w ka kn kc A.keep ∧ Below wA.heap.size wA w) w1 := hI
              intro v2 h2
              change _ = _ at h2
              subst v2
              intro v4 h4
              change _ = _ at h4
              subst v4
              intro v6 h6
              change _ = _ at h6
              subst v6
              refine turn2_on (by rfl) ?_
              intro K hK
              simp only [List.getD_cons_zero, List.getD_cons_succ, List.setIfInBounds_toArray, List.set_cons_zero, List.set_cons_succ]
              obtain ⟨hD, hKb, hBl⟩ := hI
              go_simp
              refine Calls.mono (arm_any Z d st A.n ka kn kc A.keep w1 hD hKb HKN.out hnn.1 hnn.2) ?_
              rintro e w9 ⟨rfl, Z', hd9, ht9⟩
              refine hK _ _ ⟨rfl, ⟨Z', ht9⟩, ?_⟩
              exact ⟨Z', hd9, (Below.tnd hBl Z).trans ht9⟩
          intro w1 hI
          replace hI : (fun w => w.heap[tb]? = some (.cells #[.int .i64 A.op, .int .i64 A.sec, .int .u8 A.fill, .slice ba bn bc, .int .i64 A.n, .slice ka kn kc, .int .u32 (rnum p)] 49 (0, 0))) w1 := hI
          intro v0 h0
          change _ = _ at h0
          subst v0
          intro v1 h1
          change _ = _ at h1
          subst v1
          intro v2 h2
          change _ = _ at h2
          subst v2
          intro v3 h3
          change _ = _ at h3
          subst v3
          intro v4 h4
          change _ = _ at h4
          subst v4
          intro v5 h5
          change _ = _ at h5
          subst v5
          intro v6 h6
          change _ = _ at h6
          subst v6
          intro v7 h7
          simp only [Given, List.getD_cons_zero, List.getD_cons_succ, List.setIfInBounds_toArray, List.set_cons_zero, List.set_cons_succ]
          obtain ⟨Z1, hd1, ht1⟩ := h7
          have D1 := Lib.hid hd1
          have T1 := Lib.hid ht1
          have TBX := Lib.hid hI
          have RR1 := Lib.hid (TWA.out.rin.tnd ht1 DIS.out)
          have HKB1 := Lib.hid (HKB.out.kept (w' := w1) (fun x hx h0 => ht1.block _ (HKB.out.lt x hx h0) (HKA.out.1 x hx h0)))
          have CN : CnOk N S k st (armS st A.n A.keep) := ⟨HPL.out.n, HPL.out.size, Nat.le_trans HPL.out.few (Nat.le_succ k), ⟨HPL.out.writes.1, Int.le_trans HPL.out.writes.2 (by omega)⟩, rfl⟩
          clear hd1 ht1 hI z0 z1 z2 z3 z4 z5 z6
          obtain ⟨z0, z1, z2, z3, z4, z5, z6⟩ := cells7 TBX.out
          go_wp2_with fail
          refine (rarm_any Zr r st A.n ka kn kc A.keep w1 RR1.out HKB1.out HKN.out HKA.out.2 hnn.1 hnn.2).mono ?_
          rintro e w2 ⟨rfl, Zr1, hr2, ht2⟩
          have TW1 := Lib.hid (TWA.out.turn D1.out T1.out hr2 ht2)
          have TB1 := Lib.hid (row_tnd TBX.out ht2 HTZ.out.2)
          clear hr2 ht2 z0 z1 z2 z3 z4 z5 z6
          obtain ⟨t0, t1, t2, t3, t4, t5, t6⟩ := cells7 TB1.out
          go_wp2_with fail
          refine (same2_any Z1 Zr1 d r _ A.sec w2 TW1.out.din TW1.out.rin TW1.out.dis hsec.1 hsec.2 (by have h5 := CN.reads; have h6 := HPL.out.reads.2; exact Int.le_trans (Int.add_le_add_right (Int.le_trans (Int.le_of_eq h5) h6) 1) (by omega)) w0.heap.size TW1.out.base TW1.out.rbase TW1.out.below.size).mono ?_
          rintro e w9 ⟨rfl, hd9, hr9, hb9⟩
          have TW9 := Lib.hid (Two.mk hd9 hr9 TW1.out.dis TW1.out.base TW1.out.rbase (TW1.out.below.trans hb9))
          have PL9 := Lib.hid (HPL.out.next CN.n CN.size CN.few CN.writes CN.reads A.sec)
          clear hd9 hr9 hb9 TW1 CN t0 t1 t2 t3 t4 t5 t6 TB1
          go_wp2_with fail
          go_roundw
          case rel => exact ⟨k + 1, Z1, Zr1, _, by omega, by go_num, TW9, PL9⟩
          case measure => simp [intOf] <;> omega
      have q3 : (A.op == (3 : Int)) = false := by simpa using o3
      have p3 : decide (A.op = 3) = false := decide_eq_false o3
      by_cases o4 : A.op = 4
      · have O4 := Lib.hid o4
        have q4 : (A.op == (4 : Int)) = true := by simpa using o4
        clear o1 o2 o3 o4
        go_wp2_with fail
        rw [HWA.out, HTBE.out]
        refine (cut_any Z d st wA TWA.out.din ka kn kc A.keep HKB.out (fun x h1 h2 => ⟨HKB.out.lt x h1 h2, HKA.out.1 x h1 h2⟩)).mono ?_
        rintro e w1 ⟨rfl, hd1, ht1⟩
        have D1 := Lib.hid hd1
        have T1 := Lib.hid ht1
        have TBX := Lib.hid (row_tnd HTB0.out ht1 HTZ.out.1)
        have RR1 := Lib.hid (TWA.out.rin.tnd ht1 DIS.out)
        have HKB1 := Lib.hid (HKB.out.kept (w' := w1) (fun x hx h0 => ht1.block _ (HKB.out.lt x hx h0) (HKA.out.1 x hx h0)))
        have CN : CnOk N S k st (cutS st A.keep) := by
          refine ⟨?_, HPL.out.size, Nat.zero_le _, by have := HPL.out.writes; exact ⟨this.1, by show st.writes ≤ _; omega⟩, rfl⟩
          show (settleK _ 0 st.pend st.kept).length = N
          rw [settleK_len]; exact HPL.out.n
        clear hd1 ht1 z0 z1 z2 z3 z4 z5 z6
        obtain ⟨z0, z1, z2, z3, z4, z5, z6⟩ := cells7 TBX.out
        go_wp2_with fail
        refine (rcut_any Zr r st w1 RR1.out ka kn kc A.keep HKB1.out HKA.out.2).mono ?_
        rintro e w2 ⟨rfl, hr2, ht2⟩
        have TW1 := Lib.hid (TWA.out.turn D1.out T1.out hr2 ht2)
        have TB1 := Lib.hid (row_tnd TBX.out ht2 HTZ.out.2)
        clear hr2 ht2 z0 z1 z2 z3 z4 z5 z6
        obtain ⟨t0, t1, t2, t3, t4, t5, t6⟩ := cells7 TB1.out
        go_wp2_with fail
        refine (same2_any Z Zr d r _ A.sec w2 TW1.out.din TW1.out.rin TW1.out.dis hsec.1 hsec.2 (by have h5 := CN.reads; have h6 := HPL.out.reads.2; exact Int.le_trans (Int.add_le_add_right (Int.le_trans (Int.le_of_eq h5) h6) 1) (by omega)) w0.heap.size TW1.out.base TW1.out.rbase TW1.out.below.size).mono ?_
        rintro e w9 ⟨rfl, hd9, hr9, hb9⟩
        have TW9 := Lib.hid (Two.mk hd9 hr9 TW1.out.dis TW1.out.base TW1.out.rbase (TW1.out.below.trans hb9))
        have PL9 := Lib.hid (HPL.out.next CN.n CN.size CN.few CN.writes CN.reads A.sec)
        clear hd9 hr9 hb9 TW1 CN t0 t1 t2 t3 t4 t5 t6 TB1
        go_wp2_with fail
        go_roundw
        case rel => exact ⟨k + 1, Z, Zr, _, by omega, by go_num, TW9, PL9⟩
        case measure => simp [intOf] <;> omega
      have q4 : (A.op == (4 : Int)) = false := by simpa using o4
      have p4 : decide (A.op = 4) = false := decide_eq_false o4
      by_cases o5 : A.op = 5
      · have O5 := Lib.hid o5
        have q5 : (A.op == (5 : Int)) = true := by simpa using o5
        clear o1 o2 o3 o4 o5
        go_wp2_with fail
        rw [HWA.out, HTBE.out]
        refine (on_any Z d st wA TWA.out.din).mono ?_
        rintro e w1 ⟨rfl, hd1, ht1⟩
        have D1 := Lib.hid hd1
        have T1 := Lib.hid ht1
        have TBX := Lib.hid (row_tnd HTB0.out ht1 HTZ.out.1)
        obtain ⟨hzr, bb, lv, kv, pvs, P⟩ := TWA.out.rin.tnd ht1 DIS.out
        obtain ⟨y0, y1, y2, y3, y4, y5, y6, y7, y8, yf⟩ := cellsD P.row
        have hr2 : RkIn (w1.setCell ⟨r, 4, none⟩ (.bool false)) Zr r { st with off := false } :=
          ⟨fun x hx => by simpa using hzr x hx, bb, lv, kv, pvs, P.re (fun x _ hne => heap_setCell_other w1 ⟨r, 4, none⟩ x _ hne) (by rw [heap_setCell_same w1 r 4 _ _ _ P.row]; simp) rfl rfl rfl rfl ⟨P.ok.size, P.ok.n, P.ok.kept, P.ok.pend, P.ok.armed, P.ok.few, P.ok.writes, P.ok.reads⟩⟩
        have ht2 : Tnd Zr Zr w1 (w1.setCell ⟨r, 4, none⟩ (.bool false)) := ⟨rfl, rfl, rfl, by simp, fun x hx hzx => heap_setCell_other w1 ⟨r, 4, none⟩ x _ (fun e => hzx (by rw [e]; exact P.z r (.inl rfl))), fun x h => .inl h⟩
        have CN : CnOk N S k st ({ st with off := false } : Dk) := ⟨HPL.out.n, HPL.out.size, Nat.le_trans HPL.out.few (Nat.le_succ k), ⟨HPL.out.writes.1, Int.le_trans HPL.out.writes.2 (by omega)⟩, rfl⟩
        have TW1 := Lib.hid (TWA.out.turn D1.out T1.out hr2 ht2)
        have TB1 := Lib.hid (row_tnd TBX.out ht2 HTZ.out.2)
        clear hd1 ht1 z0 z1 z2 z3 z4 z5 z6 hr2 ht2 P y0 y1 y2 y3 y5 y6 y7 y8 hzr
        obtain ⟨t0, t1, t2, t3, t4, t5, t6⟩ := cells7 TB1.out
        go_wp2_with fail
        refine (same2_any Z Zr d r _ A.sec _ TW1.out.din TW1.out.rin TW1.out.dis hsec.1 hsec.2 (by have h5 := CN.reads; have h6 := HPL.out.reads.2; exact Int.le_trans (Int.add_le_add_right (Int.le_trans (Int.le_of_eq h5) h6) 1) (by omega)) w0.heap.size TW1.out.base TW1.out.rbase TW1.out.below.size).mono ?_
        rintro e w9 ⟨rfl, hd9, hr9, hb9⟩
        have TW9 := Lib.hid (Two.mk hd9 hr9 TW1.out.dis TW1.out.base TW1.out.rbase (TW1.out.below.trans hb9))
        have PL9 := Lib.hid (HPL.out.next CN.n CN.size CN.few CN.writes CN.reads A.sec)
        clear hd9 hr9 hb9 TW1 CN t0 t1 t2 t3 t4 t5 t6 TB1
        go_wp2_with fail
        go_roundw
        case rel => exact ⟨k + 1, Z, Zr, _, by omega, by go_num, TW9, PL9⟩
        case measure => simp [intOf] <;> omega
      have q5 : (A.op == (5 : Int)) = false := by simpa using o5
      have p5 : decide (A.op = 5) = false := decide_eq_false o5
      by_cases o6 : A.op = 6
      · have O6 := Lib.hid o6
        have q6 : (A.op == (6 : Int)) = true := by simpa using o6
        clear o1 o2 o3 o4 o5 o6
        obtain ⟨st1, hst1⟩ : ∃ st1, burS st A.sec A.n p = st1 := ⟨_, rfl⟩
        have CN : CnOk N S k st st1 := by
          rw [← hst1]
          unfold burS
          split
          · refine ⟨?_, HPL.out.size, ?_, by have := HPL.out.writes; exact ⟨this.1, by show st.writes ≤ _; omega⟩, rfl⟩
            · show (st.kept.set _ _).length = N
              rw [List.length_set]; exact HPL.out.n
            · show (st.pend.map _).length ≤ _
              rw [List.length_map]; have := HPL.out.few; omega
          · exact ⟨HPL.out.n, HPL.out.size, Nat.le_trans HPL.out.few (Nat.le_succ k), ⟨HPL.out.writes.1, Int.le_trans HPL.out.writes.2 (by omega)⟩, rfl⟩
        have HST := Lib.hid hst1
        clear hst1
        go_wp2_with fail
        rw [HWA.out, HTBE.out]
        · skip
          refine' reg_order [eqV _, eqV _, eqV _, eqV _, eqV _, eqV _, eqV _, (fun v w => v = .bool (burB st A.sec A.n) ∧ ∃ Z1 Zr1 str, DkIn w Z1 d st1 ∧ RkIn w Zr1 r str ∧ (∀ k, Z1 k → Zr1 k → False) ∧ (∀ z, Z1 z → Z z ∨ wA.heap.size ≤ z) ∧ (∀ z, Zr1 z → Zr z ∨ wA.heap.size ≤ z) ∧ wA.heap.size ≤ w.heap.size), eqV _, eqV _, eqV _, eqV _, eqV _, eqV _, eqV _, (fun v w => v = .bool (burB st A.sec A.n) ∧ ∃ Zr2, RkIn w Zr2 r st1 ∧ (∀ z, Zr2 z → Zr z ∨ wA.heap.size ≤ z)), eqV _] [(7, fun w5 w6 => ∃ Z', Tnd Z Z' w5 w6), (15, fun w5 w6 => ∃ Zr', Tnd Zr Zr' w5 w6 ∧ RkIn w6 Zr' r st1)] [(2, fun w => w.heap[tb]? = some (.cells #[.int .i64 A.op, .int .i64 A.sec, .int .u8 A.fill, .slice ba bn bc, .int .i64 A.n, .slice ka kn kc, .int .u32 (rnum p)] 49 (0, 0))), (4, fun w => w.heap[tb]? = some (.cells #[.int .i64 A.op, .int .i64 A.sec, .int .u8 A.fill, .slice ba bn bc, .int .i64 A.n, .slice ka kn kc, .int .u32 (rnum p)] 49 (0, 0))), (6, fun w => w.heap[tb]? = some (.cells #[.int .i64 A.op, .int .i64 A.sec, .int .u8 A.fill, .slice ba bn bc, .int .i64 A.n, .slice ka kn kc, .int .u32 (rnum p)] 49 (0, 0))), (7, fun w => DkIn w Z d st ∧ wA.heap.size ≤ w.heap.size ∧ ∃ Zr1 str, RkIn w Zr1 r str ∧ (∀ z, Zr1 z → Zr z ∨ wA.heap.size ≤ z)), (10, fun w => w.heap[tb]? = some (.cells #[.int .i64 A.op, .int .i64 A.sec, .int .u8 A.fill, .slice ba bn bc, .int .i64 A.n, .slice ka kn kc, .int .u32 (rnum p)] 49 (0, 0))), (12, fun w => w.heap[tb]? = some (.cells #[.int .i64 A.op, .int .i64 A.sec, .int .u8 A.fill, .slice ba bn bc, .int .i64 A.n, .slice ka kn kc, .int .u32 (rnum p)] 49 (0, 0))), (14, fun w => w.heap[tb]? = some (.cells #[.int .i64 A.op, .int .i64 A.sec, .int .u8 A.fill, .slice ba bn bc, .int .i64 A.n, .slice ka kn kc, .int .u32 (rnum p)] 49 (0, 0))), (15, fun w => RkIn w Zr r st ∧ wA.heap.size ≤ w.heap.size), (17, fun w => w.heap[tb]? = some (.cells #[.int .i64 A.op, .int .i64 A.sec, .int .u8 A.fill, .slice ba bn bc, .int .i64 A.n, .slice ka kn kc, .int .u32 (rnum p)] 49 (0, 0)) ∧ Below w0.heap.size w0 w)] [133, 134, 135, 136, 137, 138, 139, 140, 141, 142, 143, 144, 145, 146, 147, 148, 149] [[], [], [1], [], [3], [], [5], [0, 2, 4, 6], [], [], [9], [], [11], [], [13], [8, 10, 12, 14], [7, 15]] [0, 1, 2, 3, 4, 5, 6, 7, 8, 9, 10, 11, 12, 13, 14, 15, 16] 17 (by kernel_rfl) ⟨eqV_stays _, eqV_stays _, eqV_stays _, eqV_stays _, eqV_stays _, eqV_stays _, eqV_stays _, fun _ _ _ ⟨e, Z1, Zr1, str, p, q, x, y, z, s⟩ b => ⟨e, Z1, Zr1, str, p.below b, q.below b, x, y, z, Nat.le_trans s b.size⟩, eqV_stays _, eqV_stays _, eqV_stays _, eqV_stays _, eqV_stays _, eqV_stays _, eqV_stays _, fun _ _ _ ⟨e, Zr2, p, q⟩ b => ⟨e, Zr2, p.below b, q⟩, eqV_stays _, trivial⟩ ⟨⟨.inl (eqV_stays _), .inl (eqV_stays _), .inl (eqV_stays _), .inl (eqV_stays _), .inl (eqV_stays _), .inl (eqV_stays _), .inl (eqV_stays _), .inr (.inr rfl), .inl (eqV_stays _), .inl (eqV_stays _), .inl (eqV_stays _), .inl (eqV_stays _), .inl (eqV_stays _), .inl (eqV_stays _), .inl (eqV_stays _), .inr (.inl (by kernel_rfl)), .inl (eqV_stays _), trivial⟩, ⟨.inl (eqV_stays _), .inl (eqV_stays _), .inl (eqV_stays _), .inl (eqV_stays _), .inl (eqV_stays _), .inl (eqV_stays _), .inl (eqV_stays _), .inl (fun _ _ _ ⟨e, Z1, Zr1, str, pp, q, x, y, z, s⟩ ⟨Zr', t, hr⟩ => ⟨e, Z1, Zr', st1, pp.tnd t (fun k h1 h2 => (y k h2).elim (fun h3 => DIS.out k h3 h1) (fun h3 => by have := HZB.out.2 k h1; omega)), hr, (fun k h1 h2 => (t.sub k h2).elim (fun h3 => (y k h1).elim (fun h4 => DIS.out k h4 h3) (fun h4 => by have := HZB.out.2 k h3; omega)) (fun h3 => by have := pp.1 k h1; omega)), y, (fun k hk => (t.sub k hk).imp id (fun h => Nat.le_trans s h)), Nat.le_trans s t.size⟩), .inl (eqV_stays _), .inl (eqV_stays _), .inl (eqV_stays _), .inl (eqV_stays _), .inl (eqV_stays _), .inl (eqV_stays _), .inl (eqV_stays _), .inr (.inr rfl), .inl (eqV_stays _), trivial⟩, trivial⟩ ⟨fun _ _ p b => row_keep p b, fun _ _ p b => row_keep p b, fun _ _ p b => row_keep p b, fun _ _ ⟨p, s, Zr1, str, q, t⟩ b => ⟨p.below b, Nat.le_trans s b.size, Zr1, str, q.below b, t⟩, fun _ _ p b => row_keep p b, fun _ _ p b => row_keep p b, fun _ _ p b => row_keep p b, fun _ _ p b => ⟨p.1.below b, Nat.le_trans p.2 b.size⟩, fun _ _ p b => ⟨row_keep p.1 b, Below.call p.2 b⟩, trivial⟩ ⟨⟨.inr (.inl (by kernel_rfl)), .inr (.inl (by kernel_rfl)), .inr (.inl (by kernel_rfl)), .inr (.inr rfl), .inl (fun _ _ p ⟨_, t⟩ => row_tnd p t HTZ.out.1), .inl (fun _ _ p ⟨_, t⟩ => row_tnd p t HTZ.out.1), .inl (fun _ _ p ⟨_, t⟩ => row_tnd p t HTZ.out.1), .inl (fun _ _ p ⟨_, t⟩ => ⟨p.1.tnd t DIS.out, Nat.le_trans p.2 t.size⟩), .inl (fun _ _ p ⟨_, t⟩ => ⟨row_tnd p.1 t HTZ.out.1, p.2.trans (t.below HBZ.out.1 p.2.size)⟩), trivial⟩, ⟨.inr (.inl (by kernel_rfl)), .inr (.inl (by kernel_rfl)), .inr (.inl (by kernel_rfl)), .inr (.inl (by kernel_rfl)), .inr (.inl (by kernel_rfl)), .inr (.inl (by kernel_rfl)), .inr (.inl (by kernel_rfl)), .inr (.inr rfl), .inl (fun _ _ p ⟨_, t, _⟩ => ⟨row_tnd p.1 t HTZ.out.2, p.2.trans (t.below HBZ.out.2 p.2.size)⟩), trivial⟩, trivial⟩ ⟨HTB.out, HTB.out, HTB.out, HI6.out, HTB.out, HTB.out, HTB.out, HI13.out, HI15.out, trivial⟩ 169 rfl (by kernel_rfl) (by kernel_rfl) rfl rfl 17 rfl ?q2obl ?q2fin
          case q2obl =>
            refine And.intro ?q2o0 (And.intro ?q2o1 (And.intro ?q2o2 (And.intro ?q2o3 (And.intro ?q2o4 (And.intro ?q2o5 (And.intro ?q2o6 (And.intro ?q2o7 (And.intro ?q2o8 (And.intro ?q2o9 (And.intro ?q2o10 (And.intro ?q2o11 (And.intro ?q2o12 (And.intro ?q2o13 (And.intro ?q2o14 (And.intro ?q2o15 (And.intro ?q2o16 (True.intro)))))))))))))))))
            case q2o0 =>
              intro w1 hI
              refine turn2_on (by rfl) ?_
              intro K hK
              go_simp
              refine hK _ _ ⟨rfl, Kept.refl _, ?_⟩
              show _ = _
              simp only [List.getD_cons_zero, List.getD_cons_succ, Array.getD_eq_getD_getElem?, List.getElem?_toArray, List.getElem?_cons_zero, List.getElem?_cons_succ, Option.getD_some]
              rfl
            case q2o1 =>
              intro w1 hI
              refine turn2_on (by rfl) ?_
              intro K hK
              go_simp
              refine hK _ _ ⟨rfl, Kept.refl _, ?_⟩
              show _ = _
              simp only [List.getD_cons_zero, List.getD_cons_succ, Array.getD_eq_getD_getElem?, List.getElem?_toArray, List.getElem?_cons_zero, List.getElem?_cons_succ, Option.getD_some]
              rfl
            case q2o2 =>
              intro w1 hI
              replace hI : (fun w => w.heap[tb]? = some (.cells #[.int .i64 A.op, .int .i64 A.sec, .int .u8 A.fill, .slice ba bn bc, .int .i64 A.n, .slice ka kn kc, .int .u32 (rnum p)] 49 (0, 0))) w1 := hI
              intro v1 h1
              change _ = _ at h1
              subst v1
              refine turn2_on (by rfl) ?_
              intro K hK
              simp only [List.getD_cons_zero, List.getD_cons_succ, List.setIfInBounds_toArray, List.set_cons_zero, List.set_cons_succ]
              obtain ⟨t0, t1, t2, t3, t4, t5, t6⟩ := cells7 hI
              go_simp
              refine hK _ _ ⟨rfl, Kept.refl _, ?_⟩
              show _ = _
              simp only [List.getD_cons_zero, List.getD_cons_succ, Array.getD_eq_getD_getElem?, List.getElem?_toArray, List.getElem?_cons_zero, List.getElem?_cons_succ, Option.getD_some]
              rfl
            case q2o3 =>
              intro w1 hI
              refine turn2_on (by rfl) ?_
              intro K hK
              go_simp
              refine hK _ _ ⟨rfl, Kept.refl _, ?_⟩
              show _ = _
              simp only [List.getD_cons_zero, List.getD_cons_succ, Array.getD_eq_getD_getElem?, List.getElem?_toArray, List.getElem?_cons_zero, List.getElem?_cons_succ, Option.getD_some]
              rfl
            case q2o4 =>
              intro w1 hI
              replace hI : (fun w => w.heap[tb]? = some (.cells #[.int .i64 A.op, .int .i64 A.sec, .int .u8 A.fill, .slice ba bn bc, .int .i64 A.n, .slice ka kn kc, .int .u32 (rnum p)] 49 (0, 0))) w1 := hI
              intro v3 h3
              change _ = _ at h3
              subst v3
              refine turn2_on (by rfl) ?_
              intro K hK
              simp only [List.getD_cons_zero, List.getD_cons_succ, List.setIfInBounds_toArray, List.set_cons_zero, List.set_cons_succ]
              obtain ⟨t0, t1, t2, t3, t4, t5, t6⟩ := cells7 hI
              go_simp
              refine hK _ _ ⟨rfl, Kept.refl _, ?_⟩
              show _ = _
              simp only [List.getD_cons_zero, List.getD_cons_succ, Array.getD_eq_getD_getElem?, List.getElem?_toArray, List.getElem?_cons_zero, List.getElem?_cons_succ, Option.getD_some]
              rfl
            case q2o5 =>
              intro w1 hI
              refine turn2_on (by rfl) ?_
              intro K hK
              go_simp
              refine hK _ _ ⟨rfl, Kept.refl _, ?_⟩
              show _ = _
              simp only [List.getD_cons_zero, List.getD_cons_succ, Array.getD_eq_getD_getElem?, List.getElem?_toArray, List.getElem?_cons_zero, List.getElem?_cons_succ, Option.getD_some]
              rfl
            case q2o6 =>
              intro w1 hI
              replace hI : (fun w => w.heap[tb]? = some (.cells #[.int .i64 A.op, .int .i64 A.sec, .int .u8 A.fill, .slice ba bn bc, .int .i64 A.n, .slice ka kn kc, .int .u32 (rnum p)] 49 (0, 0))) w1 := hI
              intro v5 h5
              change _ = _ at h5
              subst v5
              refine turn2_on (by rfl) ?_
              intro K hK
              simp only [List.getD_cons_zero, List.getD_cons_succ, List.setIfInBounds_toArray, List.set_cons_zero, List.set_cons_succ]
              obtain ⟨t0, t1, t2, t3, t4, t5, t6⟩ := cells7 hI
              go_simp
              refine hK _ _ ⟨rfl, Kept.refl _, ?_⟩
              show _ = _
              simp only [List.getD_cons_zero, List.getD_cons_succ, Array.getD_eq_getD_getElem?, List.getElem?_toArray, List.getElem?_cons_zero, List.getElem?_cons_succ, Option.getD_some]
              rfl
            case q2o7 =>
              intro w1 hI
              replace hI : (fun w => DkIn w Z d st ∧ wA.heap.size ≤ w.heap.size ∧ ∃ Zr1 str, RkIn w Zr1 r str ∧ (∀ z, Zr1 z → Zr z ∨ wA.heap.size ≤ z)) w1 := hI
              intro v0 h0
              change _ = _ at h0
              subst v0
              intro v2 h2
              change _ = _ at h2
              subst v2
              intro v4 h4
              change _ = _ at h4
              subst v4
              intro v6 h6
              change _ = _ at h6
              subst v6
              refine turn2_on (by rfl) ?_
              intro K hK
              simp only [List.getD_cons_zero, List.getD_cons_succ, List.setIfInBounds_toArray, List.set_cons_zero, List.set_cons_succ]
              obtain ⟨hD, hBs, Zr1, str, hR, hS⟩ := hI
              go_simp
              refine Calls.mono (dburst_any Z d st A.sec A.n p w1 hD hnn.2) ?_
              rintro e w9 ⟨rfl, Z', hd9, ht9⟩
              rw [HST.out] at hd9
              refine hK _ _ ⟨rfl, ⟨Z', ht9⟩, ?_⟩
              show _ = _ ∧ _
              simp only [List.getD_cons_zero, List.getD_cons_succ, Array.getD_eq_getD_getElem?, List.getElem?_toArray, List.getElem?_cons_zero, List.getElem?_cons_succ, Option.getD_some]
              refine ⟨(by first | trivial | rfl), Z', Zr1, str, hd9, hR.tnd ht9 (fun k hz hr => (hS k hr).elim (DIS.out k hz) (fun hb => by have := HZB.out.1 k hz; omega)), (fun k h1 h2 => (ht9.sub k h1).elim (fun hz => (hS k h2).elim (fun hr => DIS.out k hz hr) (fun hb => by have := HZB.out.1 k hz; omega)) (fun h => by have := hR.1 k h2; omega)), (fun z hz => (ht9.sub z hz).imp id (fun h => Nat.le_trans hBs h)), hS, Nat.le_trans hBs ht9.size⟩
            case q2o8 =>
              intro w1 hI
              refine turn2_on (by rfl) ?_
              intro K hK
              go_simp
              refine hK _ _ ⟨rfl, Kept.refl _, ?_⟩
              show _ = _
              simp only [List.getD_cons_zero, List.getD_cons_succ, Array.getD_eq_getD_getElem?, List.getElem?_toArray, List.getElem?_cons_zero, List.getElem?_cons_succ, Option.getD_some]
              rfl
            case q2o9 =>
              intro w1 hI
              refine turn2_on (by rfl) ?_
              intro K hK
              go_simp
              refine hK _ _ ⟨rfl, Kept.refl _, ?_⟩
              show _ = _
              simp only [List.getD_cons_zero, List.getD_cons_succ, Array.getD_eq_getD_getElem?, List.getElem?_toArray, List.getElem?_cons_zero, List.getElem?_cons_succ, Option.getD_some]
              rfl
            case q2o10 =>
              intro w1 hI
              replace hI : (fun w => w.heap[tb]? = some (.cells #[.int .i64 A.op, .int .i64 A.sec, .int .u8 A.fill, .slice ba bn bc, .int .i64 A.n, .slice ka kn kc, .int .u32 (rnum p)] 49 (0, 0))) w1 := hI
              intro v9 h9
              change _ = _ at h9
              subst v9
              refine turn2_on (by rfl) ?_
              intro K hK
              simp only [List.getD_cons_zero, List.getD_cons_succ, List.setIfInBounds_toArray, List.set_cons_zero, List.set_cons_succ]
              obtain ⟨t0, t1, t2, t3, t4, t5, t6⟩ := cells7 hI
              go_simp
              refine hK _ _ ⟨rfl, Kept.refl _, ?_⟩
              show _ = _
              simp only [List.getD_cons_zero, List.getD_cons_succ, Array.getD_eq_getD_getElem?, List.getElem?_toArray, List.getElem?_cons_zero, List.getElem?_cons_succ, Option.getD_some]
              rfl
            case q2o11 =>
              intro w1 hI
              refine turn2_on (by rfl) ?_
              intro K hK
              go_simp
              refine hK _ _ ⟨rfl, Kept.refl _, ?_⟩
              show _ = _
              simp only [List.getD_cons_zero, List.getD_cons_succ, Array.getD_eq_getD_getElem?, List.getElem?_toArray, List.getElem?_cons_zero, List.getElem?_cons_succ, Option.getD_some]
              rfl
            case q2o12 =>
              intro w1 hI
              replace hI : (fun w => w.heap[tb]? = some (.cells #[.int .i64 A.op, .int .i64 A.sec, .int .u8 A.fill, .slice ba bn bc, .int .i64 A.n, .slice ka kn kc, .int .u32 (rnum p)] 49 (0, 0))) w1 := hI
              intro v11 h11
              change _ = _ at h11
              subst v11
              refine turn2_on (by rfl) ?_
              intro K hK
              simp only [List.getD_cons_zero, List.getD_cons_succ, List.setIfInBounds_toArray, List.set_cons_zero, List.set_cons_succ]
              obtain ⟨t0, t1, t2, t3, t4, t5, t6⟩ := cells7 hI
              go_simp
              refine hK _ _ ⟨rfl, Kept.refl _, ?_⟩
              show _ = _
              simp only [List.getD_cons_zero, List.getD_cons_succ, Array.getD_eq_getD_getElem?, List.getElem?_toArray, List.getElem?_cons_zero, List.getElem?_cons_succ, Option.getD_some]
              rfl
            case q2o13 =>
              intro w1 hI
              refine turn2_on (by rfl) ?_
              intro K hK
              go_simp
              refine hK _ _ ⟨rfl, Kept.refl _, ?_⟩
              show _ = _
              simp only [List.getD_cons_zero, List.getD_cons_succ, Array.getD_eq_getD_getElem?, List.getElem?_toArray, List.getElem?_cons_zero, List.getElem?_cons_succ, Option.getD_some]
              rfl
            case q2o14 =>
              intro w1 hI
              replace hI : (fun w => w.heap[tb]? = some (.cells #[.int .i64 A.op, .int .i64 A.sec, .int .u8 A.fill, .slice ba bn bc, .int .i64 A.n, .slice ka kn kc, .int .u32 (rnum p)] 49 (0, 0))) w1 := hI
              intro v13 h13
              change _ = _ at h13
              subst v13
              refine turn2_on (by rfl) ?_
              intro K hK
              simp only [List.getD_cons_zero, List.getD_cons_succ, List.setIfInBounds_toArray, List.set_cons_zero, List.set_cons_succ]
              obtain ⟨t0, t1, t2, t3, t4, t5, t6⟩ := cells7 hI
              go_simp
              refine hK _ _ ⟨rfl, Kept.refl _, ?_⟩
              show _ = _
              simp only [List.getD_cons_zero, List.getD_cons_succ, Array.getD_eq_getD_getElem?, List.getElem?_toArray, List.getElem?_cons_zero, List.getElem?_cons_succ, Option.getD_some]
              rfl
            case q2o15 =>
              intro w1 hI
              replace hI : (fun w => RkIn w Zr r st ∧ wA.heap.size ≤ w.heap.size) w1 := hI
              intro v8 h8
              change _ = _ at h8
              subst v8
              intro v10 h10
              change _ = _ at h10
              subst v10
              intro v12 h12
              change _ = _ at h12
              subst v12
              intro v14 h14
              change _ = _ at h14
              subst v14
              refine turn2_on (by rfl) ?_
              intro K hK
              simp only [List.getD_cons_zero, List.getD_cons_succ, List.setIfInBounds_toArray, List.set_cons_zero, List.set_cons_succ]
              obtain ⟨hR, hBs⟩ := hI
              go_simp
              refine Calls.mono (rburst_any Zr r st A.sec A.n p w1 hR hnn.2) ?_
              rintro e w9 ⟨rfl, Zr', hr9, ht9⟩
              rw [HST.out] at hr9
              refine hK _ _ ⟨rfl, ⟨Zr', ht9, hr9⟩, ?_⟩
              show _ = _ ∧ _
              simp only [List.getD_cons_zero, List.getD_cons_succ, Array.getD_eq_getD_getElem?, List.getElem?_toArray, List.getElem?_cons_zero, List.getElem?_cons_succ, Option.getD_some]
              exact ⟨(by first | trivial | rfl), Zr', hr9, fun z hz => (ht9.sub z hz).imp id (fun h => Nat.le_trans hBs h)⟩
            case q2o16 =>
              intro w1 hI
              intro v7 h7
              obtain ⟨rfl, h7⟩ := h7
              intro v15 h15
              obtain ⟨rfl, h15⟩ := h15
              refine turn2_on (by rfl) ?_
              intro K hK
              simp only [List.getD_cons_zero, List.getD_cons_succ, List.setIfInBounds_toArray, List.set_cons_zero, List.set_cons_succ]
              go_simp
              refine hK _ _ ⟨rfl, Kept.refl _, ?_⟩
              show _ = _
              simp only [List.getD_cons_zero, List.getD_cons_succ, Array.getD_eq_getD_getElem?, List.getElem?_toArray, List.getElem?_cons_zero, List.getElem?_cons_succ, Option.getD_some]
              rfl
          intro w1 hI
          replace hI : (fun w => w.heap[tb]? = some (.cells #[.int .i64 A.op, .int .i64 A.sec, .int .u8 A.fill, .slice ba bn bc, .int .i64 A.n, .slice ka kn kc, .int .u32 (rnum p)] 49 (0, 0)) ∧ Below w0.heap.size w0 w) w1 := hI
          intro v0 h0
          change _ = _ at h0
          subst v0
          intro v1 h1
          change _ = _ at h1
          subst v1
          intro v2 h2
          change _ = _ at h2
          subst v2
          intro v3 h3
          change _ = _ at h3
          subst v3
          intro v4 h4
          change _ = _ at h4
          subst v4
          intro v5 h5
          change _ = _ at h5
          subst v5
          intro v6 h6
          change _ = _ at h6
          subst v6
          intro v7 h7
          obtain ⟨rfl, h7⟩ := h7
          intro v8 h8
          change _ = _ at h8
          subst v8
          intro v9 h9
          change _ = _ at h9
          subst v9
          intro v10 h10
          change _ = _ at h10
          subst v10
          intro v11 h11
          change _ = _ at h11
          subst v11
          intro v12 h12
          change _ = _ at h12
          subst v12
          intro v13 h13
          change _ = _ at h13
          subst v13
          intro v14 h14
          change _ = _ at h14
          subst v14
          intro v15 h15
          obtain ⟨rfl, h15⟩ := h15
          intro v16 h16
          change _ = _ at h16
          subst v16
          simp only [Given, List.getD_cons_zero, List.getD_cons_succ, List.setIfInBounds_toArray, List.set_cons_zero, List.set_cons_succ]
          obtain ⟨Z1, Zr1, str, hd1, hr1, hdis1, hs1, hs2, _⟩ := h7
          obtain ⟨Zr2, hr2, _⟩ := h15
          have hstr := hr1.inj hr2
          subst hstr
          have TB1 := Lib.hid hI.1
          have TW1 : Hid (Two w0 w1 d r Z1 Zr1 str) := ⟨hd1, hr1, hdis1, fun z hz => (hs1 z hz).elim (HBZ.out.1 z) (fun h => Nat.le_trans HBA0.out h), fun z hz => (hs2 z hz).elim (HBZ.out.2 z) (fun h => Nat.le_trans HBA0.out h), hI.2⟩
          clear hd1 hr1 hdis1 hs1 hs2 hr2 hI
          obtain ⟨t0, t1, t2, t3, t4, t5, t6⟩ := cells7 TB1.out
          go_wp2_with fail
          refine (same2_any Z1 Zr1 d r _ A.sec w1 TW1.out.din TW1.out.rin TW1.out.dis hsec.1 hsec.2 (by have h5 := CN.reads; have h6 := HPL.out.reads.2; exact Int.le_trans (Int.add_le_add_right (Int.le_trans (Int.le_of_eq h5) h6) 1) (by omega)) w0.heap.size TW1.out.base TW1.out.rbase TW1.out.below.size).mono ?_
          rintro e w9 ⟨rfl, hd9, hr9, hb9⟩
          have TW9 := Lib.hid (Two.mk hd9 hr9 TW1.out.dis TW1.out.base TW1.out.rbase (TW1.out.below.trans hb9))
          have PL9 := Lib.hid (HPL.out.next CN.n CN.size CN.few CN.writes CN.reads A.sec)
          clear hd9 hr9 hb9 TW1 CN t0 t1 t2 t3 t4 t5 t6 TB1
          go_wp2_with fail
          go_roundw
          case rel => exact ⟨k + 1, Z1, Zr1, _, by omega, by go_num, TW9, PL9⟩
          case measure => simp [intOf] <;> omega
      have q6 : (A.op == (6 : Int)) = false := by simpa using o6
      have p6 : decide (A.op = 6) = false := decide_eq_false o6
      have CN : CnOk N S k st st := ⟨HPL.out.n, HPL.out.size, Nat.le_trans HPL.out.few (Nat.le_succ k), ⟨HPL.out.writes.1, Int.le_trans HPL.out.writes.2 (by omega)⟩, rfl⟩
      have TW1 : Hid (Two w0 wA d r Z Zr st) := TWA.out
      have TB1 := Lib.hid HTB0.out
      clear o1 o2 o3 o4 o5 o6
      go_wp2_with fail
      rw [HWA.out, HTBE.out]
      clear z0 z1 z2 z3 z4 z5 z6
      obtain ⟨t0, t1, t2, t3, t4, t5, t6⟩ := cells7 TB1.out
      go_wp2_with fail
      refine (same2_any Z Zr d r _ A.sec wA TW1.out.din TW1.out.rin TW1.out.dis hsec.1 hsec.2 (by have h5 := CN.reads; have h6 := HPL.out.reads.2; exact Int.le_trans (Int.add_le_add_right (Int.le_trans (Int.le_of_eq h5) h6) 1) (by omega)) w0.heap.size TW1.out.base TW1.out.rbase TW1.out.below.size).mono ?_
      rintro e w9 ⟨rfl, hd9, hr9, hb9⟩
      have TW9 := Lib.hid (Two.mk hd9 hr9 TW1.out.dis TW1.out.base TW1.out.rbase (TW1.out.below.trans hb9))
      have PL9 := Lib.hid (HPL.out.next CN.n CN.size CN.few CN.writes CN.reads A.sec)
      clear hd9 hr9 hb9 TW1 CN t0 t1 t2 t3 t4 t5 t6 TB1
      go_wp2_with fail
      go_roundw
      case rel => exact ⟨k + 1, Z, Zr, _, by omega, by go_num, TW9, PL9⟩
      case measure => simp [intOf] <;> omega
    · obtain rfl : k = n := by omega
      go_wp2_with fail
      refine (shape_any Z d st wr TW.out.din).mono ?_
      rintro e w9 ⟨rfl, hb9⟩
      rw [HPL.out.n, HPL.out.size]
      have B9 := Lib.hid (Below.call TW.out.below hb9)
      clear hb9
      go_wp2_with fail
      go_ret
      exact ⟨rfl, B9.out⟩
set_option linter.unusedSimpArgs false in
set_option linter.unusedVariables false in
set_option maxRecDepth 100000 in
set_option maxHeartbeats 4000000 in
theorem plays_few (z1 z2 : Int) (a : Option Addr) (n c : Nat) (L : List ActP) (w0 : World) (h : ActsAt w0 a n L) (hb : sumA L + n ≤ 1048576) (f1 : fewB L = false) :
    Calls Try.prog 7 #[.int .i64 z1, .int .i64 z2, .slice a n c] w0 fun e w' => e = .returned (.bool true) ∧ Below w0.heap.size w0 w' := by
  have H := Lib.hid h
  have F1 := Lib.hid f1
  clear f1
  clear h
  go_enter Try.func7, Try.ntmps7
  go_wp2_with fail
  refine (known_any _).mono ?_
  rintro e w4 ⟨rfl, hb1⟩
  have B1 := Lib.hid hb1
  clear hb1
  go_wp2_with fail
  refine (few_any a n c L w4 (H.out.below B1.out) hb).mono ?_
  rintro e w5 ⟨rfl, hb2⟩
  rw [F1.out]
  have B2 := Lib.hid (Below.call B1.out hb2)
  clear hb2
  go_wp2_with fail
  go_ret
  exact ⟨rfl, B2.out⟩
set_option linter.unusedSimpArgs false in
set_option linter.unusedVariables false in
set_option maxRecDepth 100000 in
set_option maxHeartbeats 4000000 in
theorem plays_n (z1 z2 : Int) (a : Option Addr) (n c : Nat) (L : List ActP) (w0 : World) (h : ActsAt w0 a n L) (hb : sumA L + n ≤ 1048576) (f1 : fewB L = true) (h1 : 100 < z1) (h2 : z1 ≤ 65536) :
    Calls Try.prog 7 #[.int .i64 z1, .int .i64 z2, .slice a n c] w0 fun e w' => e = .returned (.bool true) ∧ Below w0.heap.size w0 w' := by
  have H := Lib.hid h
  have F1 := Lib.hid f1
  clear f1
  have d0 : decide (100 < z1) = true := decide_eq_true h1
  have d1 : decide (z1 ≤ 65536) = true := decide_eq_true h2
  clear h
  go_enter Try.func7, Try.ntmps7
  go_wp2_with fail
  refine (known_any _).mono ?_
  rintro e w4 ⟨rfl, hb1⟩
  have B1 := Lib.hid hb1
  clear hb1
  go_wp2_with fail
  refine (few_any a n c L w4 (H.out.below B1.out) hb).mono ?_
  rintro e w5 ⟨rfl, hb2⟩
  rw [F1.out]
  have B2 := Lib.hid (Below.call B1.out hb2)
  clear hb2
  go_wp2_with fail
  go_ret
  exact ⟨rfl, B2.out⟩
set_option linter.unusedSimpArgs false in
set_option linter.unusedVariables false in
set_option maxRecDepth 100000 in
set_option maxHeartbeats 4000000 in
theorem plays_s1 (z1 z2 : Int) (a : Option Addr) (n c : Nat) (L : List ActP) (w0 : World) (h : ActsAt w0 a n L) (hb : sumA L + n ≤ 1048576) (f1 : fewB L = true) (h1 : z1 ≤ 100) (h3 : 512 < z2) (h4 : z2 ≤ 4096) :
    Calls Try.prog 7 #[.int .i64 z1, .int .i64 z2, .slice a n c] w0 fun e w' => e = .returned (.bool true) ∧ Below w0.heap.size w0 w' := by
  have H := Lib.hid h
  have F1 := Lib.hid f1
  clear f1
  have d0 : decide (100 < z1) = false := decide_eq_false (by omega)
  have d2 : decide (512 < z2) = true := decide_eq_true h3
  have d3 : decide (z2 ≤ 4096) = true := decide_eq_true h4
  clear h
  go_enter Try.func7, Try.ntmps7
  go_wp2_with fail
  refine (known_any _).mono ?_
  rintro e w4 ⟨rfl, hb1⟩
  have B1 := Lib.hid hb1
  clear hb1
  go_wp2_with fail
  refine (few_any a n c L w4 (H.out.below B1.out) hb).mono ?_
  rintro e w5 ⟨rfl, hb2⟩
  rw [F1.out]
  have B2 := Lib.hid (Below.call B1.out hb2)
  clear hb2
  go_wp2_with fail
  go_ret
  exact ⟨rfl, B2.out⟩
set_option linter.unusedSimpArgs false in
set_option linter.unusedVariables false in
set_option maxRecDepth 100000 in
set_option maxHeartbeats 4000000 in
theorem plays_s2 (z1 z2 : Int) (a : Option Addr) (n c : Nat) (L : List ActP) (w0 : World) (h : ActsAt w0 a n L) (hb : sumA L + n ≤ 1048576) (f1 : fewB L = true) (h1 : 65536 < z1) (h3 : 512 < z2) (h4 : z2 ≤ 4096) :
    Calls Try.prog 7 #[.int .i64 z1, .int .i64 z2, .slice a n c] w0 fun e w' => e = .returned (.bool true) ∧ Below w0.heap.size w0 w' := by
  have H := Lib.hid h
  have F1 := Lib.hid f1
  clear f1
  have d0 : decide (100 < z1) = true := decide_eq_true (by omega)
  have d1 : decide (z1 ≤ 65536) = false := decide_eq_false (by omega)
  have d2 : decide (512 < z2) = true := decide_eq_true h3
  have d3 : decide (z2 ≤ 4096) = true := decide_eq_true h4
  clear h
  go_enter Try.func7, Try.ntmps7
  go_wp2_with fail
  refine (known_any _).mono ?_
  rintro e w4 ⟨rfl, hb1⟩
  have B1 := Lib.hid hb1
  clear hb1
  go_wp2_with fail
  refine (few_any a n c L w4 (H.out.below B1.out) hb).mono ?_
  rintro e w5 ⟨rfl, hb2⟩
  rw [F1.out]
  have B2 := Lib.hid (Below.call B1.out hb2)
  clear hb2
  go_wp2_with fail
  go_ret
  exact ⟨rfl, B2.out⟩
set_option linter.unusedSimpArgs false in
set_option linter.unusedVariables false in
set_option maxRecDepth 100000 in
set_option maxHeartbeats 4000000 in
theorem plays_r11 (z1 z2 : Int) (a : Option Addr) (n c : Nat) (L : List ActP) (w0 : World) (h : ActsAt w0 a n L) (hb : sumA L + n ≤ 1048576) (f1 : fewB L = true) (h1 : z1 ≤ 100) (h3 : z2 ≤ 512) (hr : rightB z1 z2 = false) :
    Calls Try.prog 7 #[.int .i64 z1, .int .i64 z2, .slice a n c] w0 fun e w' => e = .returned (.bool true) ∧ Below w0.heap.size w0 w' := by
  have H := Lib.hid h
  have F1 := Lib.hid f1
  clear f1
  have d0 : decide (100 < z1) = false := decide_eq_false (by omega)
  have d2 : decide (512 < z2) = false := decide_eq_false (by omega)
  have HR := Lib.hid hr
  clear hr
  clear h
  go_enter Try.func7, Try.ntmps7
  go_wp2_with fail
  refine (known_any _).mono ?_
  rintro e w4 ⟨rfl, hb1⟩
  have B1 := Lib.hid hb1
  clear hb1
  go_wp2_with fail
  refine (few_any a n c L w4 (H.out.below B1.out) hb).mono ?_
  rintro e w5 ⟨rfl, hb2⟩
  rw [F1.out]
  have B2 := Lib.hid (Below.call B1.out hb2)
  clear hb2
  go_wp2_with fail
  refine (new_no z1 z2 w5 HR.out).mono ?_
  rintro e w6 ⟨rfl, rfl⟩
  go_wp2_with fail
  refine (rnew_no z1 z2 w5 HR.out).mono ?_
  rintro e w7 ⟨rfl, rfl⟩
  go_wp2_with fail
  go_ret
  exact ⟨rfl, B2.out⟩
set_option linter.unusedSimpArgs false in
set_option linter.unusedVariables false in
set_option maxRecDepth 100000 in
set_option maxHeartbeats 4000000 in
theorem plays_r12 (z1 z2 : Int) (a : Option Addr) (n c : Nat) (L : List ActP) (w0 : World) (h : ActsAt w0 a n L) (hb : sumA L + n ≤ 1048576) (f1 : fewB L = true) (h1 : z1 ≤ 100) (h3 : 4096 < z2) (hr : rightB z1 z2 = false) :
    Calls Try.prog 7 #[.int .i64 z1, .int .i64 z2, .slice a n c] w0 fun e w' => e = .returned (.bool true) ∧ Below w0.heap.size w0 w' := by
  have H := Lib.hid h
  have F1 := Lib.hid f1
  clear f1
  have d0 : decide (100 < z1) = false := decide_eq_false (by omega)
  have d2 : decide (512 < z2) = true := decide_eq_true (by omega)
  have d3 : decide (z2 ≤ 4096) = false := decide_eq_false (by omega)
  have HR := Lib.hid hr
  clear hr
  clear h
  go_enter Try.func7, Try.ntmps7
  go_wp2_with fail
  refine (known_any _).mono ?_
  rintro e w4 ⟨rfl, hb1⟩
  have B1 := Lib.hid hb1
  clear hb1
  go_wp2_with fail
  refine (few_any a n c L w4 (H.out.below B1.out) hb).mono ?_
  rintro e w5 ⟨rfl, hb2⟩
  rw [F1.out]
  have B2 := Lib.hid (Below.call B1.out hb2)
  clear hb2
  go_wp2_with fail
  refine (new_no z1 z2 w5 HR.out).mono ?_
  rintro e w6 ⟨rfl, rfl⟩
  go_wp2_with fail
  refine (rnew_no z1 z2 w5 HR.out).mono ?_
  rintro e w7 ⟨rfl, rfl⟩
  go_wp2_with fail
  go_ret
  exact ⟨rfl, B2.out⟩
set_option linter.unusedSimpArgs false in
set_option linter.unusedVariables false in
set_option maxRecDepth 100000 in
set_option maxHeartbeats 4000000 in
theorem plays_r21 (z1 z2 : Int) (a : Option Addr) (n c : Nat) (L : List ActP) (w0 : World) (h : ActsAt w0 a n L) (hb : sumA L + n ≤ 1048576) (f1 : fewB L = true) (h1 : 65536 < z1) (h3 : z2 ≤ 512) (hr : rightB z1 z2 = false) :
    Calls Try.prog 7 #[.int .i64 z1, .int .i64 z2, .slice a n c] w0 fun e w' => e = .returned (.bool true) ∧ Below w0.heap.size w0 w' := by
  have H := Lib.hid h
  have F1 := Lib.hid f1
  clear f1
  have d0 : decide (100 < z1) = true := decide_eq_true (by omega)
  have d1 : decide (z1 ≤ 65536) = false := decide_eq_false (by omega)
  have d2 : decide (512 < z2) = false := decide_eq_false (by omega)
  have HR := Lib.hid hr
  clear hr
  clear h
  go_enter Try.func7, Try.ntmps7
  go_wp2_with fail
  refine (known_any _).mono ?_
  rintro e w4 ⟨rfl, hb1⟩
  have B1 := Lib.hid hb1
  clear hb1
  go_wp2_with fail
  refine (few_any a n c L w4 (H.out.below B1.out) hb).mono ?_
  rintro e w5 ⟨rfl, hb2⟩
  rw [F1.out]
  have B2 := Lib.hid (Below.call B1.out hb2)
  clear hb2
  go_wp2_with fail
  refine (new_no z1 z2 w5 HR.out).mono ?_
  rintro e w6 ⟨rfl, rfl⟩
  go_wp2_with fail
  refine (rnew_no z1 z2 w5 HR.out).mono ?_
  rintro e w7 ⟨rfl, rfl⟩
  go_wp2_with fail
  go_ret
  exact ⟨rfl, B2.out⟩
set_option linter.unusedSimpArgs false in
set_option linter.unusedVariables false in
set_option maxRecDepth 100000 in
set_option maxHeartbeats 4000000 in
theorem plays_r22 (z1 z2 : Int) (a : Option Addr) (n c : Nat) (L : List ActP) (w0 : World) (h : ActsAt w0 a n L) (hb : sumA L + n ≤ 1048576) (f1 : fewB L = true) (h1 : 65536 < z1) (h3 : 4096 < z2) (hr : rightB z1 z2 = false) :
    Calls Try.prog 7 #[.int .i64 z1, .int .i64 z2, .slice a n c] w0 fun e w' => e = .returned (.bool true) ∧ Below w0.heap.size w0 w' := by
  have H := Lib.hid h
  have F1 := Lib.hid f1
  clear f1
  have d0 : decide (100 < z1) = true := decide_eq_true (by omega)
  have d1 : decide (z1 ≤ 65536) = false := decide_eq_false (by omega)
  have d2 : decide (512 < z2) = true := decide_eq_true (by omega)
  have d3 : decide (z2 ≤ 4096) = false := decide_eq_false (by omega)
  have HR := Lib.hid hr
  clear hr
  clear h
  go_enter Try.func7, Try.ntmps7
  go_wp2_with fail
  refine (known_any _).mono ?_
  rintro e w4 ⟨rfl, hb1⟩
  have B1 := Lib.hid hb1
  clear hb1
  go_wp2_with fail
  refine (few_any a n c L w4 (H.out.below B1.out) hb).mono ?_
  rintro e w5 ⟨rfl, hb2⟩
  rw [F1.out]
  have B2 := Lib.hid (Below.call B1.out hb2)
  clear hb2
  go_wp2_with fail
  refine (new_no z1 z2 w5 HR.out).mono ?_
  rintro e w6 ⟨rfl, rfl⟩
  go_wp2_with fail
  refine (rnew_no z1 z2 w5 HR.out).mono ?_
  rintro e w7 ⟨rfl, rfl⟩
  go_wp2_with fail
  go_ret
  exact ⟨rfl, B2.out⟩
theorem diskPlays_walk (z1 z2 : Int) (a : Option Addr) (n c : Nat) (L : List ActP) (w0 : World) (_h1 : (Lit.int .i64 z1).wf = true) (_h2 : (Lit.int .i64 z2).wf = true) (h : ActsAt w0 a n L) (hb : sumA L + n ≤ 1048576) :
    Calls Try.prog 7 #[.int .i64 z1, .int .i64 z2, .slice a n c] w0 fun e w' => e = .returned (.bool true) ∧ Below w0.heap.size w0 w' := by
  cases f1 : fewB L with
  | false => exact plays_few z1 z2 a n c L w0 h hb f1
  | true =>
    by_cases c1 : z1 ≤ 100
    · by_cases c2 : z2 ≤ 512
      · cases hr : rightB z1 z2 with
        | false => exact plays_r11 z1 z2 a n c L w0 h hb f1 c1 c2 hr
        | true =>
          have hh := hr
          unfold rightB at hh
          simp only [Bool.and_eq_true, decide_eq_true_eq] at hh
          obtain ⟨N, rfl⟩ := Int.eq_ofNat_of_zero_le (show 0 ≤ z1 by omega)
          obtain ⟨S, rfl⟩ := Int.eq_ofNat_of_zero_le (show 0 ≤ z2 by omega)
          exact plays_try N S a n c L w0 h hb f1 hr (by omega) (by omega)
      · by_cases c3 : z2 ≤ 4096
        · exact plays_s1 z1 z2 a n c L w0 h hb f1 c1 (by omega) c3
        · exact plays_r12 z1 z2 a n c L w0 h hb f1 c1 (by omega) (by unfold rightB; simp; omega)
    · by_cases c4 : z1 ≤ 65536
      · exact plays_n z1 z2 a n c L w0 h hb f1 (by omega) c4
      · by_cases c2 : z2 ≤ 512
        · exact plays_r21 z1 z2 a n c L w0 h hb f1 (by omega) c2 (by unfold rightB; simp; omega)
        · by_cases c3 : z2 ≤ 4096
          · exact plays_s2 z1 z2 a n c L w0 h hb f1 (by omega) (by omega) c3
          · exact plays_r22 z1 z2 a n c L w0 h hb f1 (by omega) (by omega) (by unfold rightB; simp; omega)
end Go.Proofs.Ytpgncmoagmkcmaa
