/- disk: what was flushed outlasts a cut . -/
import Derived.Test.YtpgncmoagmkcmaaOutLaw
import Derived.Test.YtpgncmoagmkcmaaDkOf
import Derived.Test.YtpgncmoagmkcmaaStr
namespace Go.Proofs.Ytpgncmoagmkcmaa
open Go.RowKit
structure ActC (w : World) (b off : Nat) (A : ActP) (ba : Option Addr) (bn bc : Nat) (ka : Option Addr) (kn kc : Nat) : Prop where
  c0 : w.cell? ⟨b, off, none⟩ = some (.int .i64 A.op)
  c1 : w.cell? ⟨b, off + 1, none⟩ = some (.int .i64 A.sec)
  c2 : w.cell? ⟨b, off + 2, none⟩ = some (.int .u8 A.fill)
  c3 : w.cell? ⟨b, off + 3, none⟩ = some (.slice ba bn bc)
  c4 : w.cell? ⟨b, off + 4, none⟩ = some (.int .i64 A.n)
  c5 : w.cell? ⟨b, off + 5, none⟩ = some (.slice ka kn kc)
  c6 : w.cell? ⟨b, off + 6, none⟩ = some (.int .u32 A.pat)
  rd : RdAt .u8 w ba bn bc A.bytes
  kp : RdB w ka kn kc A.keep
theorem ActC.below {w w' : World} {b off : Nat} {A : ActP} {ba : Option Addr} {bn bc : Nat} {ka : Option Addr} {kn kc : Nat} (h : ActC w b off A ba bn bc ka kn kc) (hb : Below w.heap.size w w') : ActC w' b off A ba bn bc ka kn kc := by
  have hc : ∀ (i : Nat) (v : Value), w.cell? ⟨b, i, none⟩ = some v → w'.cell? ⟨b, i, none⟩ = some v := fun i v hv => by
    rw [← hv]; exact World.cell?_of_block (a := ⟨b, i, none⟩) (hb.block b (block_lt_of_cell hv))
  exact ⟨hc _ _ h.c0, hc _ _ h.c1, hc _ _ h.c2, hc _ _ h.c3, hc _ _ h.c4, hc _ _ h.c5, hc _ _ h.c6, h.rd.below hb, h.kp.below hb⟩
theorem rdLt2 {kd : IntKind} {w : World} {a : Option Addr} {n c : Nat} {l : List Int} (h : RdAt kd w a n c l) (hn : 0 < n) : ∀ q, a = some q → q.block < w.heap.size := fun q hq => by
  obtain ⟨b, o, e, hc⟩ := h.cell 0 hn
  rw [hq] at e
  injection e with e
  subst e
  exact block_lt_of_cell hc
theorem r864 : rightB 8 64 = true := by decide
theorem Below.mono_drew {w w' : World} (h : Kept w.drew w') : Below w.heap.size w w' := ⟨h.os, h.tape, h.output, h.size, h.block⟩
theorem rd_at (s : Dk) (r : Nat) (x : List Int) (ho : s.off = false) (hp : s.pend = []) (hx : s.kept[r]? = some x) : rdE s r = 0 ∧ rdS s r = { s with reads := s.reads + 1 } ∧ rdV s r = x := by
  have hlt := (List.getElem?_eq_some_iff.1 hx).1
  have hi : inS s r = true := by unfold inS; simp; omega
  have e1 : rdE s r = 0 := by unfold rdE; rw [ho, hi]; rfl
  refine ⟨e1, by unfold rdS; rw [if_pos e1], ?_⟩
  unfold rdV secB
  rw [if_pos e1, hp, Int.toNat_natCast, hx]
  rfl
theorem chunk_flat : ∀ (K : List (List Int)), (∀ x ∈ K, x.length = 64) → ∀ (i : Nat) (y : List Int), K[i]? = some y → chunk K.flatten 64 i = y
  | [], _, i, y, h => by simp at h
  | x :: K, hl, 0, y, h => by
    simp at h
    have := hl x (by simp)
    unfold chunk
    rw [List.flatten_cons, Nat.zero_mul, List.drop_zero, List.take_append_of_le_length (by omega), ← h, List.take_of_length_le (by omega)]
  | x :: K, hl, i + 1, y, h => by
    simp at h
    have h1 := hl x (by simp)
    have h2 := chunk_flat K (fun z hz => hl z (by simp [hz])) i y h
    unfold chunk at h2 ⊢
    rw [List.flatten_cons, Nat.succ_mul, List.drop_append, List.drop_of_length_le (by omega), List.nil_append, show i * 64 + 64 - x.length = i * 64 by omega]
    exact h2
set_option linter.unusedSimpArgs false in
set_option linter.unusedVariables false in
set_option maxRecDepth 100000 in
set_option maxHeartbeats 20000000 in
theorem out_try (a : Option Addr) (n c : Nat) (L : List ActP) (a' : Option Addr) (n' c' : Nat) (L' : List ActP) (ka0 : Option Addr) (kn0 kc0 : Nat) (kl : List Bool) (w : World) (h : ActsAt w a n L) (h' : ActsAt w a' n' L') (hk0 : RdB w ka0 kn0 kc0 kl) (hb : sumA L + n ≤ 1048576) (hb' : sumA L' + n' ≤ 1048576) (f1 : fewB L = true) (f2 : fewB L' = true) (hkn : kn0 ≤ 1000) :
    Calls Try.prog 5 #[.slice a n c, .slice a' n' c', .slice ka0 kn0 kc0] w fun e w' => e = .returned (.bool true) ∧ Below w.heap.size w w' := by
  have H := Lib.hid h
  have H' := Lib.hid h'
  have HK := Lib.hid hk0
  have F1 := Lib.hid f1
  have F2 := Lib.hid f2
  have hn : n ≤ 200 := by
    have := f1
    unfold fewB at this
    rw [h.len] at this
    simp only [Bool.and_eq_true, decide_eq_true_eq] at this
    omega
  have d0 : decide ((1000 : Int) < kn0) = false := decide_eq_false (by omega)
  clear h h' hk0 f1 f2
  go_enter Try.func5, Try.ntmps5
  go_wp2_with fail
  refine (known_any _).mono ?_
  rintro e w4 ⟨rfl, hb1⟩
  have B1 := Lib.hid hb1
  clear hb1
  go_wp2_with fail
  refine (few_any a n c L w4 (H.out.below B1.out) hb).mono ?_
  rintro e w5 ⟨rfl, hb2⟩
  rw [F1.out]
  have B2 := Lib.hid (Below.call B1.out hb2)
  clear hb2
  go_wp2_with fail
  refine (few_any a' n' c' L' w5 (H'.out.below B2.out) hb').mono ?_
  rintro e w6 ⟨rfl, hb3⟩
  rw [F2.out]
  have B3 := Lib.hid (Below.call B2.out hb3)
  clear hb3
  go_wp2_with fail
  refine (new_any 8 64 w6 r864).mono ?_
  rintro e w7 ⟨d, Z, rfl, hd7, hz7, hb7⟩
  have D7 := Lib.hid (DkB.mk hd7 (fun k hk => Nat.le_trans B3.out.size (hz7 k hk)) (Below.call B3.out hb7) : DkB w w7 d Z (dk0 8 64))
  clear hd7 hz7 hb7
  go_wp2_with fail
  go_loopw [9] (fun i wr => ∃ (k : Nat) (Z : Nat → Prop) (st : Dk), k ≤ n ∧ i = .int .i64 k ∧ Hid (DkB w wr d Z st) ∧ Hid (OutI L k 0 (List.replicate 8 (List.replicate 64 0)) st)) (fun i _ => n - (intOf i).toNat)
  case atStart => exact ⟨0, Z, _, by omega, rfl, D7, ⟨rfl, rfl, rfl, rfl, by simp, rfl, ⟨by show (0:Int) ≤ 0; omega, by show (0:Int) ≤ 0 + 0; omega⟩, Nat.le_refl _, fun q hq => by cases hq⟩⟩
  case round =>
    clear D7
    obtain ⟨k, Z, st, hk, rfl, D8, O8⟩ := hrel
    by_cases hkm : k < n
    · have dkm : decide ((k : Int) < n) = true := decide_eq_true (by omega)
      obtain ⟨A, hA⟩ : ∃ A, L[k]? = some A := ⟨_, List.getElem?_eq_getElem (by rw [H.out.len]; exact hkm)⟩
      obtain ⟨b, o, rfl, hat⟩ := H.out.at_ k A hA
      obtain ⟨⟨ba, bn, bc, ka, kn, kc, e0, e1, e2, e3, e4, e5, e6, hra, hka⟩, hwf⟩ := hat
      have hbaZ : ∀ y, ba = some y → 0 < bn → ¬ Z y.block := fun y h1 h2 h3 => by
        obtain ⟨b5, o5, h5, h6⟩ := hra.cell 0 h2
        rw [h1] at h5
        injection h5 with h5
        subst h5
        have h9 : b5 < w.heap.size := block_lt_of_cell h6
        have h8 : w.heap.size ≤ b5 := D8.out.base _ h3
        omega
      have hac : ActC wr.drew b (o + k * 7) A ba bn bc ka kn kc := ActC.below (w := w) ⟨e0, e1, e2, e3, e4, e5, e6, hra, hka⟩ ⟨D8.out.below.os, D8.out.below.tape, D8.out.below.output, D8.out.below.size, D8.out.below.block⟩
      have hzs : ∀ z, Z z → z < wr.drew.heap.size := D8.out.din.1
      have hdk : DkB w wr.drew d Z st := D8.out.more ⟨rfl, rfl, rfl, Nat.le_refl _, fun _ _ => rfl⟩
      have hsec : -9223372036854775808 ≤ A.sec ∧ A.sec ≤ 9223372036854775807 := by
        have := hwf.2.1
        simp [Lit.wf, IntKind.min, IntKind.max, IntKind.signed, IntKind.bits] at this; omega
      have hfew : st.pend.length + 1 ≤ 1000000 ∧ st.writes + 1 ≤ 4611686018427387904 := by
        have h1 := O8.out.few
        have h2 := O8.out.writes.2
        omega
      have ON := Lib.hid (outI_write O8.out (List.mem_of_getElem? hA))
      clear hA e0 e1 e2 e3 e4 e5 e6 hra hka
      go_wp2_with fail
      refine' reg_order [eqV _, eqV _, eqV _, eqV _, eqV _, eqV _, eqV _, eqV _, eqV _, eqV _, (fun v w5 => ∃ a5 n5 c5, v = Value.slice a5 n5 c5 ∧ RdAt .u8 w5 a5 n5 c5 (dataL A 64) ∧ ∀ y, a5 = some y → ¬ Z y.block), (fun _ w5 => ∃ Z', DkB w w5 d Z' (wrS st A.sec (dataL A 64)) ∧ ∀ z, Z' z → Z z ∨ wr.heap.size ≤ z)] [(11, fun w5 w6 => ∃ Z', Tnd Z Z' w5 w6)] [(5, fun w5 => ActC w5 b (o + k * 7) A ba bn bc ka kn kc), (9, fun w5 => ActC w5 b (o + k * 7) A ba bn bc ka kn kc), (10, fun w5 => ActC w5 b (o + k * 7) A ba bn bc ka kn kc ∧ ∀ z, Z z → z < w5.heap.size), (11, fun w5 => DkB w w5 d Z st ∧ wr.heap.size ≤ w5.heap.size)] [48, 49, 50, 51, 52, 53, 54, 55, 56, 57, 58, 59] [[], [], [], [1, 2], [3], [4], [], [], [6, 7], [8], [9], [0, 5, 10]] [0, 1, 2, 3, 4, 5, 6, 7, 8, 9, 10, 11] 12 (by kernel_rfl) ⟨eqV_stays _, eqV_stays _, eqV_stays _, eqV_stays _, eqV_stays _, eqV_stays _, eqV_stays _, eqV_stays _, eqV_stays _, eqV_stays _, fun _ _ _ ⟨a5, n5, c5, e, p, q⟩ b => ⟨a5, n5, c5, e, p.below b, q⟩, fun _ _ _ ⟨z, p, s⟩ b => ⟨z, p.more b, s⟩, trivial⟩ ⟨⟨.inl (eqV_stays _), .inl (eqV_stays _), .inl (eqV_stays _), .inl (eqV_stays _), .inl (eqV_stays _), .inl (eqV_stays _), .inl (eqV_stays _), .inl (eqV_stays _), .inl (eqV_stays _), .inl (eqV_stays _), .inl (fun _ _ _ ⟨a5, n5, c5, e, p, q⟩ ⟨_, t⟩ => ⟨a5, n5, c5, e, p.tnd t q, q⟩), .inr (.inr rfl), trivial⟩, trivial⟩ ⟨fun _ _ p b => ActC.below p b, fun _ _ p b => ActC.below p b, fun _ _ p b => ⟨ActC.below p.1 b, fun z hz => Nat.lt_of_lt_of_le (p.2 z hz) b.size⟩, fun _ _ p b => ⟨DkB.more p.1 b, Nat.le_trans p.2 b.size⟩, trivial⟩ ⟨⟨.inr (.inl (by kernel_rfl)), .inr (.inl (by kernel_rfl)), .inr (.inl (by kernel_rfl)), .inr (.inr rfl), trivial⟩, trivial⟩ ⟨hac, hac, ⟨hac, hzs⟩, ⟨hdk, Nat.le_refl _⟩, trivial⟩ 145 rfl (by kernel_rfl) (by kernel_rfl) rfl rfl 12 rfl ?q2obl ?q2fin
      case q2obl =>
        refine And.intro ?q2o0 (And.intro ?q2o1 (And.intro ?q2o2 (And.intro ?q2o3 (And.intro ?q2o4 (And.intro ?q2o5 (And.intro ?q2o6 (And.intro ?q2o7 (And.intro ?q2o8 (And.intro ?q2o9 (And.intro ?q2o10 (And.intro ?q2o11 (True.intro))))))))))))
        case q2o0 =>
          intro w1 hI
          refine turn2_on (by rfl) ?_
          intro K hK
          go_simp
          refine hK _ _ ⟨rfl, Kept.refl _, ?_⟩
          show _ = _
          simp only [List.getD_cons_zero, List.getD_cons_succ, Array.getD_eq_getD_getElem?, List.getElem?_toArray, List.getElem?_cons_zero, List.getElem?_cons_succ, Option.getD_some]
          rfl
        case q2o1 =>
          intro w1 hI
          refine turn2_on (by rfl) ?_
          intro K hK
          go_simp
          refine hK _ _ ⟨rfl, Kept.refl _, ?_⟩
          show _ = _
          simp only [List.getD_cons_zero, List.getD_cons_succ, Array.getD_eq_getD_getElem?, List.getElem?_toArray, List.getElem?_cons_zero, List.getElem?_cons_succ, Option.getD_some]
          rfl
        case q2o2 =>
          intro w1 hI
          refine turn2_on (by rfl) ?_
          intro K hK
          go_simp
          refine hK _ _ ⟨rfl, Kept.refl _, ?_⟩
          show _ = _
          simp only [List.getD_cons_zero, List.getD_cons_succ, Array.getD_eq_getD_getElem?, List.getElem?_toArray, List.getElem?_cons_zero, List.getElem?_cons_succ, Option.getD_some]
          rfl
        case q2o3 =>
          intro w1 hI
          intro v1 h1
          change _ = _ at h1
          subst v1
          intro v2 h2
          change _ = _ at h2
          subst v2
          refine turn2_on (by rfl) ?_
          intro K hK
          simp only [List.getD_cons_zero, List.getD_cons_succ, List.setIfInBounds_toArray, List.set_cons_zero, List.set_cons_succ]
          go_simp
          refine hK _ _ ⟨rfl, Kept.refl _, ?_⟩
          show _ = _
          simp only [List.getD_cons_zero, List.getD_cons_succ, Array.getD_eq_getD_getElem?, List.getElem?_toArray, List.getElem?_cons_zero, List.getElem?_cons_succ, Option.getD_some]
          rfl
        case q2o4 =>
          intro w1 hI
          intro v3 h3
          change _ = _ at h3
          subst v3
          refine turn2_on (by rfl) ?_
          intro K hK
          simp only [List.getD_cons_zero, List.getD_cons_succ, List.setIfInBounds_toArray, List.set_cons_zero, List.set_cons_succ]
          go_simp
          refine hK _ _ ⟨rfl, Kept.refl _, ?_⟩
          show _ = _
          simp only [List.getD_cons_zero, List.getD_cons_succ, Array.getD_eq_getD_getElem?, List.getElem?_toArray, List.getElem?_cons_zero, List.getElem?_cons_succ, Option.getD_some]
          rfl
        case q2o5 =>
          intro w1 hI
          replace hI : (fun w5 => ActC w5 b (o + k * 7) A ba bn bc ka kn kc) w1 := hI
          intro v4 h4
          change _ = _ at h4
          subst v4
          refine turn2_on (by rfl) ?_
          intro K hK
          simp only [List.getD_cons_zero, List.getD_cons_succ, List.setIfInBounds_toArray, List.set_cons_zero, List.set_cons_succ]
          obtain ⟨c0, c1, c2, c3, c4, c5, c6, hra, hka⟩ := hI
          go_simp
          refine hK _ _ ⟨rfl, Kept.refl _, ?_⟩
          show _ = _
          simp only [List.getD_cons_zero, List.getD_cons_succ, Array.getD_eq_getD_getElem?, List.getElem?_toArray, List.getElem?_cons_zero, List.getElem?_cons_succ, Option.getD_some]
          rfl
        case q2o6 =>
          intro w1 hI
          refine turn2_on (by rfl) ?_
          intro K hK
          go_simp
          refine hK _ _ ⟨rfl, Kept.refl _, ?_⟩
          show _ = _
          simp only [List.getD_cons_zero, List.getD_cons_succ, Array.getD_eq_getD_getElem?, List.getElem?_toArray, List.getElem?_cons_zero, List.getElem?_cons_succ, Option.getD_some]
          rfl
        case q2o7 =>
          intro w1 hI
          refine turn2_on (by rfl) ?_
          intro K hK
          go_simp
          refine hK _ _ ⟨rfl, Kept.refl _, ?_⟩
          show _ = _
          simp only [List.getD_cons_zero, List.getD_cons_succ, Array.getD_eq_getD_getElem?, List.getElem?_toArray, List.getElem?_cons_zero, List.getElem?_cons_succ, Option.getD_some]
          rfl
        case q2o8 =>
          intro w1 hI
          intro v6 h6
          change _ = _ at h6
          subst v6
          intro v7 h7
          change _ = _ at h7
          subst v7
          refine turn2_on (by rfl) ?_
          intro K hK
          simp only [List.getD_cons_zero, List.getD_cons_succ, List.setIfInBounds_toArray, List.set_cons_zero, List.set_cons_succ]
          go_simp
          refine hK _ _ ⟨rfl, Kept.refl _, ?_⟩
          show _ = _
          simp only [List.getD_cons_zero, List.getD_cons_succ, Array.getD_eq_getD_getElem?, List.getElem?_toArray, List.getElem?_cons_zero, List.getElem?_cons_succ, Option.getD_some]
          rfl
        case q2o9 =>
          intro w1 hI
          replace hI : (fun w5 => ActC w5 b (o + k * 7) A ba bn bc ka kn kc) w1 := hI
          intro v8 h8
          change _ = _ at h8
          subst v8
          refine turn2_on (by rfl) ?_
          intro K hK
          simp only [List.getD_cons_zero, List.getD_cons_succ, List.setIfInBounds_toArray, List.set_cons_zero, List.set_cons_succ]
          obtain ⟨c0, c1, c2, c3, c4, c5, c6, hra, hka⟩ := hI
          go_simp
          refine hK _ _ ⟨rfl, Kept.refl _, ?_⟩
          show _ = _
          simp only [List.getD_cons_zero, List.getD_cons_succ, Array.getD_eq_getD_getElem?, List.getElem?_toArray, List.getElem?_cons_zero, List.getElem?_cons_succ, Option.getD_some]
          rfl
        case q2o10 =>
          intro w1 hI
          replace hI : (fun w5 => ActC w5 b (o + k * 7) A ba bn bc ka kn kc ∧ ∀ z, Z z → z < w5.heap.size) w1 := hI
          intro v9 h9
          change _ = _ at h9
          subst v9
          refine turn2_on (by rfl) ?_
          intro K hK
          simp only [List.getD_cons_zero, List.getD_cons_succ, List.setIfInBounds_toArray, List.set_cons_zero, List.set_cons_succ]
          obtain ⟨hI, hIz⟩ := hI
          obtain ⟨c0, c1, c2, c3, c4, c5, c6, hra, hka⟩ := hI
          go_simp
          refine Calls.mono (data_any A ba bn bc ka kn kc 64 w1 hra (by omega) hwf.2.2.1) ?_
          rintro e w9 ⟨a9, n9, c9, rfl, h9, hb9, hz9⟩
          refine hK _ _ ⟨rfl, hb9, ?_⟩
          show ∃ a5 n5 c5, _ = Value.slice a5 n5 c5 ∧ RdAt .u8 _ a5 n5 c5 _ ∧ _
          simp only [List.getD_cons_zero, List.getD_cons_succ, Array.getD_eq_getD_getElem?, List.getElem?_toArray, List.getElem?_cons_zero, List.getElem?_cons_succ, Option.getD_some]
          exact ⟨a9, n9, c9, rfl, h9, fun y hy hz => (hz9 y hy).elim (fun e => hbaZ y (by rw [← e.1]; exact hy) e.2.2 hz) (fun h => by have := hIz _ hz; omega)⟩
        case q2o11 =>
          intro w1 hI
          replace hI : (fun w5 => DkB w w5 d Z st ∧ wr.heap.size ≤ w5.heap.size) w1 := hI
          intro v0 h0
          change _ = _ at h0
          subst v0
          intro v5 h5
          change _ = _ at h5
          subst v5
          intro v10 h10
          obtain ⟨a10, n10, c10, rfl, h10, h10z⟩ := h10
          refine turn2_on (by rfl) ?_
          intro K hK
          simp only [List.getD_cons_zero, List.getD_cons_succ, List.setIfInBounds_toArray, List.set_cons_zero, List.set_cons_succ]
          go_simp
          refine Calls.mono (write_any Z d st A.sec a10 n10 c10 (dataL A 64) w1 hI.1.din h10 h10z hsec.1 hsec.2 hfew.1 hfew.2) ?_
          rintro e w9 ⟨rfl, Z', hd9, ht9⟩
          refine hK _ _ ⟨rfl, ⟨Z', ht9⟩, ?_⟩
          exact ⟨Z', hI.1.turn hd9 ht9, fun z hz => (ht9.sub z hz).imp id (fun h => Nat.le_trans hI.2 h)⟩
      intro w1 hI
      intro v0 h0
      change _ = _ at h0
      subst v0
      intro v1 h1
      change _ = _ at h1
      subst v1
      intro v2 h2
      change _ = _ at h2
      subst v2
      intro v3 h3
      change _ = _ at h3
      subst v3
      intro v4 h4
      change _ = _ at h4
      subst v4
      intro v5 h5
      change _ = _ at h5
      subst v5
      intro v6 h6
      change _ = _ at h6
      subst v6
      intro v7 h7
      change _ = _ at h7
      subst v7
      intro v8 h8
      change _ = _ at h8
      subst v8
      intro v9 h9
      change _ = _ at h9
      subst v9
      intro v10 h10
      obtain ⟨a10, n10, c10, rfl, h10, h10z⟩ := h10
      intro v11 h11
      simp only [Given, List.getD_cons_zero, List.getD_cons_succ, List.setIfInBounds_toArray, List.set_cons_zero, List.set_cons_succ]
      obtain ⟨Z9, hd9, _⟩ := h11
      have D9 := Lib.hid hd9
      clear hd9
      go_wp2_with fail
      go_roundw
      case rel => exact ⟨k + 1, Z9, _, by omega, by go_num, D9, ON⟩
      case measure => simp [intOf] <;> omega
    · obtain rfl : k = n := by omega
      go_wp2_with fail
      refine (flush_any Z d st wr D8.out.din).mono ?_
      rintro e w9 ⟨rfl, hd9, ht9⟩
      rw [O8.out.off, if_neg (by decide)]
      rw [O8.out.off, if_neg (by decide)] at hd9
      have D9 := Lib.hid (D8.out.turn hd9 ht9)
      clear hd9 ht9
      go_wp2_with fail
      refine (all_any Z d _ w9 D9.out.din).mono ?_
      rintro e w10 ⟨v10, rfl, ho10, hb10⟩
      rw [show (flushS st).kept = settleK (fun _ => true) 0 st.pend st.kept from rfl] at ho10
      obtain ⟨K, hK⟩ : ∃ K, settleK (fun _ => true) 0 st.pend st.kept = K := ⟨_, rfl⟩
      rw [hK] at ho10
      have hKl : K.length = 8 := by rw [← hK, settleK_len, O8.out.kept, List.length_replicate]
      have O9 : Hid (OutI L' 0 k K (flushS st)) := ⟨O8.out.off, O8.out.armed, O8.out.size, hK, hKl, O8.out.reads, ⟨O8.out.writes.1, by have := O8.out.writes.2; show st.writes ≤ _; omega⟩, Nat.zero_le _, fun q hq => by cases hq⟩
      obtain ⟨aw, nw, cw, hv10⟩ : ∃ a n c, v10 = Value.slice a n c := by obtain ⟨a, c, h⟩ := ho10.shape; exact ⟨a, _, c, h⟩
      subst hv10
      have O10 := Lib.hid ho10
      have D10 := Lib.hid (D9.out.more hb10)
      have D9b := Lib.hid D9.out.din.1
      have hfl : K.flatten.length = 512 := by
        have h64 : ∀ x ∈ K, x.length = 64 := fun x hx => by
          have hk2 := D9.out.din
          obtain ⟨_, _, _, _, _, _, _, pp⟩ := hk2
          have := pp.ok.kept x (by show x ∈ settleK (fun _ => true) 0 st.pend st.kept; rw [hK]; exact hx)
          rw [this]
          exact O8.out.size
        match K, hKl, h64 with
        | [x0, x1, x2, x3, x4, x5, x6, x7], _, h => simp [h]
      have H64 : Hid (∀ (i : Nat) (y : List Int), K[i]? = some y → chunk K.flatten 64 i = y) := by
        have h64 : ∀ x ∈ K, x.length = 64 := fun x hx => by
          have hk2 := D9.out.din
          obtain ⟨_, _, _, _, _, _, _, pp⟩ := hk2
          have := pp.ok.kept x (by show x ∈ settleK (fun _ => true) 0 st.pend st.kept; rw [hK]; exact hx)
          rw [this]
          exact O8.out.size
        exact fun i y hy => chunk_flat K h64 i y hy
      clear ho10 hb10 hK O8 D8 D9
      have hvw0 : ∀ y, aw = some y → ¬ Z y.block := fun y hy hz => by
        have h1 : y.block < w9.heap.size := D9b.out y.block hz
        have hpos : 0 < K.flatten.length := by
          rw [hfl]; omega
        obtain ⟨g5, c5, e5, hr5, _, hB5, _⟩ := O10.out.slc hpos
        injection e5 with e5 e6 e7
        rw [hy] at e5
        injection e5 with e5
        rw [e5] at h1
        have h2 : g5 < w9.heap.size := h1
        omega
      have hvw1 := O10.out.rd
      have HVW := Lib.hid hvw1
      clear hvw1 O10 D9b
      have hn2 : n' ≤ 200 := by
        have := F2.out
        unfold fewB at this
        rw [H'.out.len] at this
        simp only [Bool.and_eq_true, decide_eq_true_eq] at this
        omega
      go_wp2_with fail
      go_loopw [11] (fun i wr => ∃ (j : Nat) (Z : Nat → Prop) (st : Dk), j ≤ n' ∧ i = .int .i64 j ∧ Hid (DkB w wr d Z st) ∧ Hid (OutI L' j k K st) ∧ Hid (RdAt .u8 wr aw nw cw K.flatten) ∧ Hid (∀ y, aw = some y → ¬ Z y.block)) (fun i _ => n' - (intOf i).toNat)
      case atStart => exact ⟨0, Z, _, by omega, rfl, D10, O9, HVW, hvw0⟩
      case round =>
        clear D10 O9 HVW hvw0
        obtain ⟨j, Z, st, hj, rfl, D8, O8, VW, VZ⟩ := hrel
        by_cases hjm : j < n'
        · have dkm : decide ((j : Int) < n') = true := decide_eq_true (by omega)
          obtain ⟨A, hA⟩ : ∃ A, L'[j]? = some A := ⟨_, List.getElem?_eq_getElem (by rw [H'.out.len]; exact hjm)⟩
          obtain ⟨b, o, rfl, hat⟩ := H'.out.at_ j A hA
          obtain ⟨⟨ba, bn, bc, ka, kn, kc, e0, e1, e2, e3, e4, e5, e6, hra, hka⟩, hwf⟩ := hat
          have hbaZ : ∀ y, ba = some y → 0 < bn → ¬ Z y.block := fun y h1 h2 h3 => by
            obtain ⟨b5, o5, h5, h6⟩ := hra.cell 0 h2
            rw [h1] at h5
            injection h5 with h5
            subst h5
            have h9 : b5 < w.heap.size := block_lt_of_cell h6
            have h8 : w.heap.size ≤ b5 := D8.out.base _ h3
            omega
          have hac : ActC wr.drew b (o + j * 7) A ba bn bc ka kn kc := ActC.below (w := w) ⟨e0, e1, e2, e3, e4, e5, e6, hra, hka⟩ ⟨D8.out.below.os, D8.out.below.tape, D8.out.below.output, D8.out.below.size, D8.out.below.block⟩
          have hvwZ : ∀ y, aw = some y → ¬ Z y.block := VZ.out
          have hvwD : RdAt .u8 wr.drew aw nw cw K.flatten := VW.out.at0 rfl
          have VWL : Hid (∀ y, aw = some y → y.block < wr.heap.size) := fun y hy => rdLt2 VW.out (by rw [← VW.out.len, hfl]; omega) y hy
          have hzs : ∀ z, Z z → z < wr.drew.heap.size := D8.out.din.1
          have hdk : DkB w wr.drew d Z st := D8.out.more ⟨rfl, rfl, rfl, Nat.le_refl _, fun _ _ => rfl⟩
          have hsec : -9223372036854775808 ≤ A.sec ∧ A.sec ≤ 9223372036854775807 := by
            have := hwf.2.1
            simp [Lit.wf, IntKind.min, IntKind.max, IntKind.signed, IntKind.bits] at this; omega
          have hfew : st.pend.length + 1 ≤ 1000000 ∧ st.writes + 1 ≤ 4611686018427387904 := by
            have h1 := O8.out.few
            have h2 := O8.out.writes.2
            omega
          have ON := Lib.hid (outI_write O8.out (List.mem_of_getElem? hA))
          clear hA e0 e1 e2 e3 e4 e5 e6 hra hka
          go_wp2_with fail
          refine' reg_order [eqV _, eqV _, eqV _, eqV _, eqV _, eqV _, eqV _, eqV _, eqV _, eqV _, (fun v w5 => ∃ a5 n5 c5, v = Value.slice a5 n5 c5 ∧ RdAt .u8 w5 a5 n5 c5 (dataL A 64) ∧ ∀ y, a5 = some y → ¬ Z y.block), (fun _ w5 => ∃ Z', DkB w w5 d Z' (wrS st A.sec (dataL A 64)) ∧ ∀ z, Z' z → Z z ∨ wr.heap.size ≤ z)] [(11, fun w5 w6 => ∃ Z', Tnd Z Z' w5 w6)] [(5, fun w5 => ActC w5 b (o + j * 7) A ba bn bc ka kn kc), (9, fun w5 => ActC w5 b (o + j * 7) A ba bn bc ka kn kc), (10, fun w5 => ActC w5 b (o + j * 7) A ba bn bc ka kn kc ∧ ∀ z, Z z → z < w5.heap.size), (11, fun w5 => DkB w w5 d Z st ∧ wr.heap.size ≤ w5.heap.size), (12, fun w5 => RdAt .u8 w5 aw nw cw K.flatten)] [71, 72, 73, 74, 75, 76, 77, 78, 79, 80, 81, 82] [[], [], [], [1, 2], [3], [4], [], [], [6, 7], [8], [9], [0, 5, 10]] [0, 1, 2, 3, 4, 5, 6, 7, 8, 9, 10, 11] 12 (by kernel_rfl) ⟨eqV_stays _, eqV_stays _, eqV_stays _, eqV_stays _, eqV_stays _, eqV_stays _, eqV_stays _, eqV_stays _, eqV_stays _, eqV_stays _, fun _ _ _ ⟨a5, n5, c5, e, p, q⟩ b => ⟨a5, n5, c5, e, p.below b, q⟩, fun _ _ _ ⟨z, p, s⟩ b => ⟨z, p.more b, s⟩, trivial⟩ ⟨⟨.inl (eqV_stays _), .inl (eqV_stays _), .inl (eqV_stays _), .inl (eqV_stays _), .inl (eqV_stays _), .inl (eqV_stays _), .inl (eqV_stays _), .inl (eqV_stays _), .inl (eqV_stays _), .inl (eqV_stays _), .inl (fun _ _ _ ⟨a5, n5, c5, e, p, q⟩ ⟨_, t⟩ => ⟨a5, n5, c5, e, p.tnd t q, q⟩), .inr (.inr rfl), trivial⟩, trivial⟩ ⟨fun _ _ p b => ActC.below p b, fun _ _ p b => ActC.below p b, fun _ _ p b => ⟨ActC.below p.1 b, fun z hz => Nat.lt_of_lt_of_le (p.2 z hz) b.size⟩, fun _ _ p b => ⟨DkB.more p.1 b, Nat.le_trans p.2 b.size⟩, fun _ _ p b => RdAt.below p b, trivial⟩ ⟨⟨.inr (.inl (by kernel_rfl)), .inr (.inl (by kernel_rfl)), .inr (.inl (by kernel_rfl)), .inr (.inr rfl), .inl (fun _ _ p ⟨_, t⟩ => RdAt.tnd p t hvwZ), trivial⟩, trivial⟩ ⟨hac, hac, ⟨hac, hzs⟩, ⟨hdk, Nat.le_refl _⟩, hvwD, trivial⟩ 145 rfl (by kernel_rfl) (by kernel_rfl) rfl rfl 12 rfl ?q3obl ?q3fin
          case q3obl =>
            refine And.intro ?q3o0 (And.intro ?q3o1 (And.intro ?q3o2 (And.intro ?q3o3 (And.intro ?q3o4 (And.intro ?q3o5 (And.intro ?q3o6 (And.intro ?q3o7 (And.intro ?q3o8 (And.intro ?q3o9 (And.intro ?q3o10 (And.intro ?q3o11 (True.intro))))))))))))
            case q3o0 =>
              intro w1 hI
              refine turn2_on (by rfl) ?_
              intro K hK
              go_simp
              refine hK _ _ ⟨rfl, Kept.refl _, ?_⟩
              show _ = _
              simp only [List.getD_cons_zero, List.getD_cons_succ, Array.getD_eq_getD_getElem?, List.getElem?_toArray, List.getElem?_cons_zero, List.getElem?_cons_succ, Option.getD_some]
              rfl
            case q3o1 =>
              intro w1 hI
              refine turn2_on (by rfl) ?_
              intro K hK
              go_simp
              refine hK _ _ ⟨rfl, Kept.refl _, ?_⟩
              show _ = _
              simp only [List.getD_cons_zero, List.getD_cons_succ, Array.getD_eq_getD_getElem?, List.getElem?_toArray, List.getElem?_cons_zero, List.getElem?_cons_succ, Option.getD_some]
              rfl
            case q3o2 =>
              intro w1 hI
              refine turn2_on (by rfl) ?_
              intro K hK
              go_simp
              refine hK _ _ ⟨rfl, Kept.refl _, ?_⟩
              show _ = _
              simp only [List.getD_cons_zero, List.getD_cons_succ, Array.getD_eq_getD_getElem?, List.getElem?_toArray, List.getElem?_cons_zero, List.getElem?_cons_succ, Option.getD_some]
              rfl
            case q3o3 =>
              intro w1 hI
              intro v1 h1
              change _ = _ at h1
              subst v1
              intro v2 h2
              change _ = _ at h2
              subst v2
              refine turn2_on (by rfl) ?_
              intro K hK
              simp only [List.getD_cons_zero, List.getD_cons_succ, List.setIfInBounds_toArray, List.set_cons_zero, List.set_cons_succ]
              go_simp
              refine hK _ _ ⟨rfl, Kept.refl _, ?_⟩
              show _ = _
              simp only [List.getD_cons_zero, List.getD_cons_succ, Array.getD_eq_getD_getElem?, List.getElem?_toArray, List.getElem?_cons_zero, List.getElem?_cons_succ, Option.getD_some]
              rfl
            case q3o4 =>
              intro w1 hI
              intro v3 h3
              change _ = _ at h3
              subst v3
              refine turn2_on (by rfl) ?_
              intro K hK
              simp only [List.getD_cons_zero, List.getD_cons_succ, List.setIfInBounds_toArray, List.set_cons_zero, List.set_cons_succ]
              go_simp
              refine hK _ _ ⟨rfl, Kept.refl _, ?_⟩
              show _ = _
              simp only [List.getD_cons_zero, List.getD_cons_succ, Array.getD_eq_getD_getElem?, List.getElem?_toArray, List.getElem?_cons_zero, List.getElem?_cons_succ, Option.getD_some]
              rfl
            case q3o5 =>
              intro w1 hI
              replace hI : (fun w5 => ActC w5 b (o + j * 7) A ba bn bc ka kn kc) w1 := hI
              intro v4 h4
              change _ = _ at h4
              subst v4
              refine turn2_on (by rfl) ?_
              intro K hK
              simp only [List.getD_cons_zero, List.getD_cons_succ, List.setIfInBounds_toArray, List.set_cons_zero, List.set_cons_succ]
              obtain ⟨c0, c1, c2, c3, c4, c5, c6, hra, hka⟩ := hI
              go_simp
              refine hK _ _ ⟨rfl, Kept.refl _, ?_⟩
              show _ = _
              simp only [List.getD_cons_zero, List.getD_cons_succ, Array.getD_eq_getD_getElem?, List.getElem?_toArray, List.getElem?_cons_zero, List.getElem?_cons_succ, Option.getD_some]
              rfl
            case q3o6 =>
              intro w1 hI
              refine turn2_on (by rfl) ?_
              intro K hK
              go_simp
              refine hK _ _ ⟨rfl, Kept.refl _, ?_⟩
              show _ = _
              simp only [List.getD_cons_zero, List.getD_cons_succ, Array.getD_eq_getD_getElem?, List.getElem?_toArray, List.getElem?_cons_zero, List.getElem?_cons_succ, Option.getD_some]
              rfl
            case q3o7 =>
              intro w1 hI
              refine turn2_on (by rfl) ?_
              intro K hK
              go_simp
              refine hK _ _ ⟨rfl, Kept.refl _, ?_⟩
              show _ = _
              simp only [List.getD_cons_zero, List.getD_cons_succ, Array.getD_eq_getD_getElem?, List.getElem?_toArray, List.getElem?_cons_zero, List.getElem?_cons_succ, Option.getD_some]
              rfl
            case q3o8 =>
              intro w1 hI
              intro v6 h6
              change _ = _ at h6
              subst v6
              intro v7 h7
              change _ = _ at h7
              subst v7
              refine turn2_on (by rfl) ?_
              intro K hK
              simp only [List.getD_cons_zero, List.getD_cons_succ, List.setIfInBounds_toArray, List.set_cons_zero, List.set_cons_succ]
              go_simp
              refine hK _ _ ⟨rfl, Kept.refl _, ?_⟩
              show _ = _
              simp only [List.getD_cons_zero, List.getD_cons_succ, Array.getD_eq_getD_getElem?, List.getElem?_toArray, List.getElem?_cons_zero, List.getElem?_cons_succ, Option.getD_some]
              rfl
            case q3o9 =>
              intro w1 hI
              replace hI : (fun w5 => ActC w5 b (o + j * 7) A ba bn bc ka kn kc) w1 := hI
              intro v8 h8
              change _ = _ at h8
              subst v8
              refine turn2_on (by rfl) ?_
              intro K hK
              simp only [List.getD_cons_zero, List.getD_cons_succ, List.setIfInBounds_toArray, List.set_cons_zero, List.set_cons_succ]
              obtain ⟨c0, c1, c2, c3, c4, c5, c6, hra, hka⟩ := hI
              go_simp
              refine hK _ _ ⟨rfl, Kept.refl _, ?_⟩
              show _ = _
              simp only [List.getD_cons_zero, List.getD_cons_succ, Array.getD_eq_getD_getElem?, List.getElem?_toArray, List.getElem?_cons_zero, List.getElem?_cons_succ, Option.getD_some]
              rfl
            case q3o10 =>
              intro w1 hI
              replace hI : (fun w5 => ActC w5 b (o + j * 7) A ba bn bc ka kn kc ∧ ∀ z, Z z → z < w5.heap.size) w1 := hI
              intro v9 h9
              change _ = _ at h9
              subst v9
              refine turn2_on (by rfl) ?_
              intro K hK
              simp only [List.getD_cons_zero, List.getD_cons_succ, List.setIfInBounds_toArray, List.set_cons_zero, List.set_cons_succ]
              obtain ⟨hI, hIz⟩ := hI
              obtain ⟨c0, c1, c2, c3, c4, c5, c6, hra, hka⟩ := hI
              go_simp
              refine Calls.mono (data_any A ba bn bc ka kn kc 64 w1 hra (by omega) hwf.2.2.1) ?_
              rintro e w9 ⟨a9, n9, c9, rfl, h9, hb9, hz9⟩
              refine hK _ _ ⟨rfl, hb9, ?_⟩
              show ∃ a5 n5 c5, _ = Value.slice a5 n5 c5 ∧ RdAt .u8 _ a5 n5 c5 _ ∧ _
              simp only [List.getD_cons_zero, List.getD_cons_succ, Array.getD_eq_getD_getElem?, List.getElem?_toArray, List.getElem?_cons_zero, List.getElem?_cons_succ, Option.getD_some]
              exact ⟨a9, n9, c9, rfl, h9, fun y hy hz => (hz9 y hy).elim (fun e => hbaZ y (by rw [← e.1]; exact hy) e.2.2 hz) (fun h => by have := hIz _ hz; omega)⟩
            case q3o11 =>
              intro w1 hI
              replace hI : (fun w5 => DkB w w5 d Z st ∧ wr.heap.size ≤ w5.heap.size) w1 := hI
              intro v0 h0
              change _ = _ at h0
              subst v0
              intro v5 h5
              change _ = _ at h5
              subst v5
              intro v10 h10
              obtain ⟨a10, n10, c10, rfl, h10, h10z⟩ := h10
              refine turn2_on (by rfl) ?_
              intro K hK
              simp only [List.getD_cons_zero, List.getD_cons_succ, List.setIfInBounds_toArray, List.set_cons_zero, List.set_cons_succ]
              go_simp
              refine Calls.mono (write_any Z d st A.sec a10 n10 c10 (dataL A 64) w1 hI.1.din h10 h10z hsec.1 hsec.2 hfew.1 hfew.2) ?_
              rintro e w9 ⟨rfl, Z', hd9, ht9⟩
              refine hK _ _ ⟨rfl, ⟨Z', ht9⟩, ?_⟩
              exact ⟨Z', hI.1.turn hd9 ht9, fun z hz => (ht9.sub z hz).imp id (fun h => Nat.le_trans hI.2 h)⟩
          intro w1 hI
          replace hI : (fun w5 => RdAt .u8 w5 aw nw cw K.flatten) w1 := hI
          intro v0 h0
          change _ = _ at h0
          subst v0
          intro v1 h1
          change _ = _ at h1
          subst v1
          intro v2 h2
          change _ = _ at h2
          subst v2
          intro v3 h3
          change _ = _ at h3
          subst v3
          intro v4 h4
          change _ = _ at h4
          subst v4
          intro v5 h5
          change _ = _ at h5
          subst v5
          intro v6 h6
          change _ = _ at h6
          subst v6
          intro v7 h7
          change _ = _ at h7
          subst v7
          intro v8 h8
          change _ = _ at h8
          subst v8
          intro v9 h9
          change _ = _ at h9
          subst v9
          intro v10 h10
          obtain ⟨a10, n10, c10, rfl, h10, h10z⟩ := h10
          intro v11 h11
          simp only [Given, List.getD_cons_zero, List.getD_cons_succ, List.setIfInBounds_toArray, List.set_cons_zero, List.set_cons_succ]
          obtain ⟨Z9, hd9, hs9⟩ := h11
          have VW9 := Lib.hid hI
          have VZ9 : Hid (∀ y, aw = some y → ¬ Z9 y.block) := fun y hy hz => (hs9 _ hz).elim (fun h => VZ.out y hy h) (fun h => by have h1 := VWL.out y hy; omega)
          clear hI hs9
          have D9 := Lib.hid hd9
          clear hd9
          go_wp2_with fail
          go_roundw
          case rel => exact ⟨j + 1, Z9, _, by omega, by go_num, D9, ON, VW9, VZ9⟩
          case measure => simp [intOf] <;> omega
        · obtain rfl : j = n' := by omega
          go_wp2_with fail
          refine (cut_any Z d st wr D8.out.din ka0 kn0 kc0 kl (HK.out.below D8.out.below) (fun y h1 h2 => ⟨Nat.lt_of_lt_of_le (HK.out.lt y h1 h2) D8.out.below.size, fun hz => by have := D8.out.base _ hz; have := HK.out.lt y h1 h2; omega⟩)).mono ?_
          rintro e w11 ⟨rfl, hd11, ht11⟩
          have D11 := Lib.hid (D8.out.turn hd11 ht11)
          have VW11 := Lib.hid (VW.out.tnd ht11 VZ.out)
          clear hd11 ht11 D8 VW
          go_wp2_with fail
          refine (on_any Z d _ w11 D11.out.din).mono ?_
          rintro e w12 ⟨rfl, hd12, ht12⟩
          have D12 := Lib.hid (D11.out.turn hd12 ht12)
          have VW12 := Lib.hid (VW11.out.tnd ht12 VZ.out)
          clear hd12 ht12 D11 VW11
          go_wp2_with fail
          obtain ⟨s0, hs0⟩ : ∃ s0 : Dk, ({ cutS st kl with off := false } : Dk) = s0 := ⟨_, rfl⟩
          rw [hs0] at D12
          have hr0 : s0.reads = 0 := by rw [← hs0]; exact O8.out.reads
          have hs00 : ({ s0 with reads := ((0 : Nat) : Int) } : Dk) = s0 := by rw [show (((0 : Nat) : Int)) = s0.reads from hr0.symm]
          go_loopw [12] (fun i wr => ∃ (r : Nat), r ≤ 8 ∧ i = .int .i64 r ∧ Hid (DkB w wr d Z { s0 with reads := (r : Int) }) ∧ Hid (RdAt .u8 wr aw nw cw K.flatten)) (fun i _ => 8 - (intOf i).toNat)
          case atStart => exact ⟨0, by omega, rfl, by rw [hs00]; exact D12, VW12⟩
          case round =>
            clear D12 VW12
            obtain ⟨r, hr8, rfl, D13, VW13⟩ := hrel
            by_cases hrm : r < 8
            · have dkm : decide ((r : Int) < 8) = true := decide_eq_true (by omega)
              have hs0o : s0.off = false := by rw [← hs0]
              have hs0k : s0.kept.length = 8 := by
                rw [← hs0]
                show (settleK _ 0 st.pend st.kept).length = 8
                rw [settleK_len, O8.out.kept]; exact hKl
              have hs0p : s0.pend = [] := by rw [← hs0]; rfl
              obtain ⟨x, hx⟩ : ∃ x, s0.kept[r]? = some x := ⟨_, List.getElem?_eq_getElem (by omega)⟩
              obtain ⟨e1, e2, e3⟩ := rd_at { s0 with reads := (r : Int) } r x hs0o hs0p hx
              have HOR : Hid (K[r]? = some x ∨ ∃ A ∈ L', A.sec = r ∧ dataL A 64 = x) := outI_cut O8.out kl r x (by rw [← hx, ← hs0])
              have hrd := read_any Z d { s0 with reads := (r : Int) } r wr D13.out.din (by omega) (by omega) (by show (r : Int) + 1 ≤ _; omega)
              rw [e1, e2, e3] at hrd
              clear hs0o hs0k hs0p e1 e2 e3 hx
              have HRD := Lib.hid hrd
              clear hrd
              go_wp2_with fail
              refine HRD.out.mono ?_
              rintro e w14 ⟨vx, rfl, hox, hdx, htx⟩
              have D14 := Lib.hid (D13.out.turn hdx htx)
              have VW14 := Lib.hid (VW13.out.tnd htx VZ.out)
              obtain ⟨ax, nx, cx, rfl⟩ : ∃ a n c, vx = Value.slice a n c := by obtain ⟨a, c, h⟩ := hox.shape; exact ⟨a, _, c, h⟩
              have X14 := Lib.hid hox.rd
              clear hdx htx hox D13 VW13 HRD
              obtain ⟨y, hy⟩ : ∃ y, K[r]? = some y := ⟨_, List.getElem?_eq_getElem (by omega)⟩
              have hych : chunk K.flatten 64 r = y := H64.out r y hy
              have HOR2 : Hid (x = y ∨ ∃ A ∈ L', A.sec = r ∧ dataL A 64 = x) := HOR.out.imp (fun h => by rw [hy] at h; exact (Option.some.inj h).symm) id
              obtain ⟨lo, hlo⟩ : ∃ lo, r * 64 = lo := ⟨_, rfl⟩
              have hnw : nw = 512 := by rw [← VW14.out.len]; exact hfl
              obtain ⟨fb, fo, hfa, _⟩ := VW14.out.cell 0 (by omega)
              subst hfa
              have hcap := VW14.out.cap
              have hlo2 : lo + 64 ≤ 512 := by omega
              have Y14 : Hid (RdAt .u8 w14 (some ⟨fb, fo + lo, none⟩) 64 (cw - lo) y) := by
                have := rd_chunk VW14.out lo 64 (by omega)
                rw [← hych]
                unfold chunk
                rw [hlo]
                exact this
              have g1 : (r : Int) * 64 = (lo : Int) := by omega
              have g2 : IntKind.i64.wrap (lo : Int) = lo := by rw [IntKind.wrap_i64]; omega
              have g3 : IntKind.i64.wrap ((r : Int) + 1) = (r : Int) + 1 := by rw [IntKind.wrap_i64]; omega
              obtain ⟨hi, hhi⟩ : ∃ hi, lo + 64 = hi := ⟨_, rfl⟩
              have g4 : ((r : Int) + 1) * 64 = (hi : Int) := by omega
              have g5 : IntKind.i64.wrap (hi : Int) = hi := by rw [IntKind.wrap_i64]; omega
              have g6 : hi - lo = 64 := by omega
              have g7 : ¬ cw = lo := by omega
              have g8 : hi ≤ cw := by omega
              have g9 : lo ≤ hi := by omega
              have g10 : ((hi : Int) ≤ cw) := by omega
              have g11 : ((lo : Int) ≤ hi) := by omega
              obtain ⟨bq, hbq⟩ : ∃ b : Bool, ((strOfNums x).toList == (strOfNums y).toList) = b := ⟨_, rfl⟩
              have HBQ : Hid (x = y → bq = true) := by
                intro hxy
                rw [← hbq, hxy]
                exact beq_self_eq_true _
              have HLO := Lib.hid hlo
              clear hfl hhi hlo hnw hlo2 hy hych HOR
              go_wp2_with fail
              refine' reg_free (G := Kept) (pickF [eqV _, eqV _, eqV _, eqV _, eqV _, eqV _, eqV _, eqV _, eqV _, eqV _, eqV _, eqV _]) [102, 103, 104, 105, 106, 107, 108, 109, 110, 111, 112, 15] [[], [0], [], [], [3], [], [5], [6], [2, 4, 7], [8], [1, 9], [10]] [0, 1, 2, 3, 4, 5, 6, 7, 8, 9, 10, 11] (by kernel_rfl) Kept.refl Kept.trans (pick_stays ⟨eqV_stays _, eqV_stays _, eqV_stays _, eqV_stays _, eqV_stays _, eqV_stays _, eqV_stays _, eqV_stays _, eqV_stays _, eqV_stays _, eqV_stays _, eqV_stays _, trivial⟩) 145 rfl (by kernel_rfl) (by kernel_rfl) rfl rfl ?r1obl ?r1fin
              case r1obl =>
                refine And.intro ?r1o0 (And.intro ?r1o1 (And.intro ?r1o2 (And.intro ?r1o3 (And.intro ?r1o4 (And.intro ?r1o5 (And.intro ?r1o6 (And.intro ?r1o7 (And.intro ?r1o8 (And.intro ?r1o9 (And.intro ?r1o10 (And.intro ?r1o11 (True.intro))))))))))))
                case r1o0 =>
                  intro w1 hG
                  refine turn_on (by rfl) ?_
                  intro K hK
                  go_simp
                  refine hK _ _ ⟨rfl, Kept.refl _, ?_⟩
                  show _ = _
                  simp only [List.getD_cons_zero, List.getD_cons_succ, Array.getD_eq_getD_getElem?, List.getElem?_toArray, List.getElem?_cons_zero, List.getElem?_cons_succ, Option.getD_some]
                  rfl
                case r1o1 =>
                  intro w1 hG
                  intro v0 h0
                  change _ = _ at h0
                  subst h0
                  refine turn_on (by rfl) ?_
                  intro K hK
                  simp only [List.getD_cons_zero, List.getD_cons_succ, List.setIfInBounds_toArray, List.set_cons_zero, List.set_cons_succ]
                  refine wp_conv 103 rfl u8T s8 su _ rfl rfl (X14.out.keptD hG) ?_
                  refine hK _ _ ⟨rfl, Kept.refl _, ?_⟩
                  show _ = _
                  simp only [List.getD_cons_zero, List.getD_cons_succ, Array.getD_eq_getD_getElem?, List.getElem?_toArray, List.getElem?_cons_zero, List.getElem?_cons_succ, Option.getD_some]
                  rfl
                case r1o2 =>
                  intro w1 hG
                  refine turn_on (by rfl) ?_
                  intro K hK
                  go_simp
                  refine hK _ _ ⟨rfl, Kept.refl _, ?_⟩
                  show _ = _
                  simp only [List.getD_cons_zero, List.getD_cons_succ, Array.getD_eq_getD_getElem?, List.getElem?_toArray, List.getElem?_cons_zero, List.getElem?_cons_succ, Option.getD_some]
                  rfl
                case r1o3 =>
                  intro w1 hG
                  refine turn_on (by rfl) ?_
                  intro K hK
                  go_simp
                  refine hK _ _ ⟨rfl, Kept.refl _, ?_⟩
                  show _ = _
                  simp only [List.getD_cons_zero, List.getD_cons_succ, Array.getD_eq_getD_getElem?, List.getElem?_toArray, List.getElem?_cons_zero, List.getElem?_cons_succ, Option.getD_some]
                  rfl
                case r1o4 =>
                  intro w1 hG
                  intro v3 h3
                  change _ = _ at h3
                  subst h3
                  refine turn_on (by rfl) ?_
                  intro K hK
                  simp only [List.getD_cons_zero, List.getD_cons_succ, List.setIfInBounds_toArray, List.set_cons_zero, List.set_cons_succ]
                  go_simp
                  refine hK _ _ ⟨rfl, Kept.refl _, ?_⟩
                  show _ = _
                  simp only [List.getD_cons_zero, List.getD_cons_succ, Array.getD_eq_getD_getElem?, List.getElem?_toArray, List.getElem?_cons_zero, List.getElem?_cons_succ, Option.getD_some]
                  rfl
                case r1o5 =>
                  intro w1 hG
                  refine turn_on (by rfl) ?_
                  intro K hK
                  go_simp
                  refine hK _ _ ⟨rfl, Kept.refl _, ?_⟩
                  show _ = _
                  simp only [List.getD_cons_zero, List.getD_cons_succ, Array.getD_eq_getD_getElem?, List.getElem?_toArray, List.getElem?_cons_zero, List.getElem?_cons_succ, Option.getD_some]
                  rfl
                case r1o6 =>
                  intro w1 hG
                  intro v5 h5
                  change _ = _ at h5
                  subst h5
                  refine turn_on (by rfl) ?_
                  intro K hK
                  simp only [List.getD_cons_zero, List.getD_cons_succ, List.setIfInBounds_toArray, List.set_cons_zero, List.set_cons_succ]
                  go_simp
                  refine hK _ _ ⟨rfl, Kept.refl _, ?_⟩
                  show _ = _
                  simp only [List.getD_cons_zero, List.getD_cons_succ, Array.getD_eq_getD_getElem?, List.getElem?_toArray, List.getElem?_cons_zero, List.getElem?_cons_succ, Option.getD_some]
                  rfl
                case r1o7 =>
                  intro w1 hG
                  intro v6 h6
                  change _ = _ at h6
                  subst h6
                  refine turn_on (by rfl) ?_
                  intro K hK
                  simp only [List.getD_cons_zero, List.getD_cons_succ, List.setIfInBounds_toArray, List.set_cons_zero, List.set_cons_succ]
                  go_simp
                  refine hK _ _ ⟨rfl, Kept.refl _, ?_⟩
                  show _ = _
                  simp only [List.getD_cons_zero, List.getD_cons_succ, Array.getD_eq_getD_getElem?, List.getElem?_toArray, List.getElem?_cons_zero, List.getElem?_cons_succ, Option.getD_some]
                  rfl
                case r1o8 =>
                  intro w1 hG
                  intro v2 h2
                  change _ = _ at h2
                  subst h2
                  intro v4 h4
                  change _ = _ at h4
                  subst h4
                  intro v7 h7
                  change _ = _ at h7
                  subst h7
                  refine turn_on (by rfl) ?_
                  intro K hK
                  simp only [List.getD_cons_zero, List.getD_cons_succ, List.setIfInBounds_toArray, List.set_cons_zero, List.set_cons_succ]
                  go_simp
                  refine hK _ _ ⟨rfl, Kept.refl _, ?_⟩
                  show _ = _
                  simp only [List.getD_cons_zero, List.getD_cons_succ, Array.getD_eq_getD_getElem?, List.getElem?_toArray, List.getElem?_cons_zero, List.getElem?_cons_succ, Option.getD_some]
                  rfl
                case r1o9 =>
                  intro w1 hG
                  intro v8 h8
                  change _ = _ at h8
                  subst h8
                  refine turn_on (by rfl) ?_
                  intro K hK
                  simp only [List.getD_cons_zero, List.getD_cons_succ, List.setIfInBounds_toArray, List.set_cons_zero, List.set_cons_succ]
                  refine wp_conv 111 rfl u8T s8 su _ rfl rfl (Y14.out.keptD hG) ?_
                  refine hK _ _ ⟨rfl, Kept.refl _, ?_⟩
                  show _ = _
                  simp only [List.getD_cons_zero, List.getD_cons_succ, Array.getD_eq_getD_getElem?, List.getElem?_toArray, List.getElem?_cons_zero, List.getElem?_cons_succ, Option.getD_some]
                  rfl
                case r1o10 =>
                  intro w1 hG
                  intro v1 h1
                  change _ = _ at h1
                  subst h1
                  intro v9 h9
                  change _ = _ at h9
                  subst h9
                  refine turn_on (by rfl) ?_
                  intro K hK
                  simp only [List.getD_cons_zero, List.getD_cons_succ, List.setIfInBounds_toArray, List.set_cons_zero, List.set_cons_succ]
                  go_simp
                  refine hK _ _ ⟨rfl, Kept.refl _, ?_⟩
                  show _ = _
                  simp only [List.getD_cons_zero, List.getD_cons_succ, Array.getD_eq_getD_getElem?, List.getElem?_toArray, List.getElem?_cons_zero, List.getElem?_cons_succ, Option.getD_some]
                  rfl
                case r1o11 =>
                  intro w1 hG
                  intro v10 h10
                  change _ = _ at h10
                  subst h10
                  refine turn_on (by rfl) ?_
                  intro K hK
                  simp only [List.getD_cons_zero, List.getD_cons_succ, List.setIfInBounds_toArray, List.set_cons_zero, List.set_cons_succ]
                  go_simp
                  refine hK _ _ ⟨rfl, Kept.refl _, ?_⟩
                  show _ = _
                  simp only [List.getD_cons_zero, List.getD_cons_succ, Array.getD_eq_getD_getElem?, List.getElem?_toArray, List.getElem?_cons_zero, List.getElem?_cons_succ, Option.getD_some]
                  rfl
              intro w1 hG
              intro v0 h0
              change _ = _ at h0
              subst h0
              intro v1 h1
              change _ = _ at h1
              subst h1
              intro v2 h2
              change _ = _ at h2
              subst h2
              intro v3 h3
              change _ = _ at h3
              subst h3
              intro v4 h4
              change _ = _ at h4
              subst h4
              intro v5 h5
              change _ = _ at h5
              subst h5
              intro v6 h6
              change _ = _ at h6
              subst h6
              intro v7 h7
              change _ = _ at h7
              subst h7
              intro v8 h8
              change _ = _ at h8
              subst h8
              intro v9 h9
              change _ = _ at h9
              subst h9
              intro v10 h10
              change _ = _ at h10
              subst h10
              intro v11 h11
              change _ = _ at h11
              subst h11
              simp only [Given, List.getD_cons_zero, List.getD_cons_succ, List.setIfInBounds_toArray, List.set_cons_zero, List.set_cons_succ]
              have D15 := Lib.hid (D14.out.more (Below.mono_drew hG))
              have VW15 := Lib.hid (VW14.out.keptD hG)
              have X15 := Lib.hid (X14.out.keptD hG)
              clear hG D14 VW14 X14 Y14 g1 g2 g4 g5 g6 g7 g8 g9 g10 g11
              go_wp2_with fail
              go_loopw [15, 16] (fun q i wr => ∃ (t : Nat) (bo : Bool), t ≤ j ∧ i = .int .i64 t ∧ q = .bool bo ∧ Hid (DkB w wr d Z { s0 with reads := ((r + 1 : Nat) : Int) }) ∧ Hid (RdAt .u8 wr (some ⟨fb, fo, none⟩) nw cw K.flatten) ∧ Hid (RdAt .u8 wr ax nx cx x) ∧ Hid ((x = y ∨ ∃ i A, i < t ∧ L'[i]? = some A ∧ A.sec = r ∧ dataL A 64 = x) → bo = true)) (fun _ i _ => j - (intOf i).toNat)
              case atStart => exact ⟨0, bq, by omega, rfl, rfl, D15, VW15, X15, fun h => h.elim HBQ.out (fun ⟨i, A, hi, _⟩ => by omega)⟩
              case round =>
                clear D15 VW15 X15 HBQ hbq
                obtain ⟨t, bo, ht, rfl, rfl, D16, VW16, X16, HB⟩ := hrel
                by_cases htm : t < j
                · have dkt : decide ((t : Int) < j) = true := decide_eq_true (by omega)
                  obtain ⟨A, hA⟩ : ∃ A, L'[t]? = some A := ⟨_, List.getElem?_eq_getElem (by rw [H'.out.len]; exact htm)⟩
                  obtain ⟨b, o, rfl, hat⟩ := H'.out.at_ t A hA
                  obtain ⟨⟨ba, bn, bc, ka, kn, kc, c0, c1, c2, c3, c4, c5, c6, hra, hka⟩, hwf⟩ := hat
                  have HAC : Hid (ActC wr.drew b (o + t * 7) A ba bn bc ka kn kc) := ActC.below (w := w) ⟨c0, c1, c2, c3, c4, c5, c6, hra, hka⟩ ⟨D16.out.below.os, D16.out.below.tape, D16.out.below.output, D16.out.below.size, D16.out.below.block⟩
                  have HA := Lib.hid hA
                  have g3' : IntKind.i64.wrap ((t : Int) + 1) = (t : Int) + 1 := by rw [IntKind.wrap_i64]; omega
                  clear hA c0 c1 c2 c3 c4 c5 c6 hra hka
                  have goal : ∀ (bn2 : Bool) (w1 : World), Hid (Kept wr.drew w1) → Hid ((bo = true ∨ (A.sec = r ∧ dataL A 64 = x)) → bn2 = true) → Hid (DkB w w1 d Z { s0 with reads := ((r + 1 : Nat) : Int) }) ∧ Hid (RdAt .u8 w1 (some ⟨fb, fo, none⟩) nw cw K.flatten) ∧ Hid (RdAt .u8 w1 ax nx cx x) ∧ Hid ((x = y ∨ ∃ i A, i < t + 1 ∧ L'[i]? = some A ∧ A.sec = r ∧ dataL A 64 = x) → bn2 = true) := by
                    intro bn2 w1 hG hb2
                    refine ⟨D16.out.more (Below.mono_drew hG.out), VW16.out.keptD hG.out, X16.out.keptD hG.out, fun h => hb2.out ?_⟩
                    rcases h with h | ⟨i, B, hi, hB, h1, h2⟩
                    · exact .inl (HB.out (.inl h))
                    · by_cases hit : i < t
                      · exact .inl (HB.out (.inr ⟨i, B, hit, hB, h1, h2⟩))
                      · obtain rfl : i = t := by omega
                        rw [HA.out] at hB
                        injection hB with hB
                        subst hB
                        exact .inr ⟨h1, h2⟩
                  cases bo with
                  | true =>
                    go_wp2_with fail
                    refine' reg_free (G := Kept) (pickF [eqV _, eqV _, eqV _, eqV _, eqV _, eqV _, eqV _, eqV _, eqV _, eqV _, eqV _, eqV _, eqV _, eqV _, eqV _, eqV _, eqV _, eqV _, eqV _, eqV _, eqV _, eqV _]) [119, 120, 121, 122, 123, 124, 125, 126, 127, 128, 129, 130, 131, 132, 133, 134, 135, 136, 137, 138, 139, 15] [[], [0], [1], [1], [1, 2, 3], [1, 4], [1, 5], [1], [1, 6, 7], [1, 8], [9], [9], [9, 10, 11], [9, 12], [9, 13], [9, 14], [9], [9, 16], [9, 15, 17], [1, 9, 18], [1, 19], [20]] [0, 1, 2, 3, 4, 5, 6, 7, 8, 9, 10, 11, 12, 13, 14, 15, 16, 17, 18, 19, 20, 21] (by kernel_rfl) Kept.refl Kept.trans (pick_stays ⟨eqV_stays _, eqV_stays _, eqV_stays _, eqV_stays _, eqV_stays _, eqV_stays _, eqV_stays _, eqV_stays _, eqV_stays _, eqV_stays _, eqV_stays _, eqV_stays _, eqV_stays _, eqV_stays _, eqV_stays _, eqV_stays _, eqV_stays _, eqV_stays _, eqV_stays _, eqV_stays _, eqV_stays _, eqV_stays _, trivial⟩) 145 rfl (by kernel_rfl) (by kernel_rfl) rfl rfl ?r4obl ?r4fin
                    case r4obl =>
                      refine And.intro ?r4o0 (And.intro ?r4o1 (And.intro ?r4o2 (And.intro ?r4o3 (And.intro ?r4o4 (And.intro ?r4o5 (And.intro ?r4o6 (And.intro ?r4o7 (And.intro ?r4o8 (And.intro ?r4o9 (And.intro ?r4o10 (And.intro ?r4o11 (And.intro ?r4o12 (And.intro ?r4o13 (And.intro ?r4o14 (And.intro ?r4o15 (And.intro ?r4o16 (And.intro ?r4o17 (And.intro ?r4o18 (And.intro ?r4o19 (And.intro ?r4o20 (And.intro ?r4o21 (True.intro))))))))))))))))))))))
                      case r4o0 =>
                        intro w1 hG
                        refine turn_on (by rfl) ?_
                        intro K hK
                        go_simp
                        refine hK _ _ ⟨rfl, Kept.refl _, ?_⟩
                        show _ = _
                        simp only [List.getD_cons_zero, List.getD_cons_succ, Array.getD_eq_getD_getElem?, List.getElem?_toArray, List.getElem?_cons_zero, List.getElem?_cons_succ, Option.getD_some]
                        rfl
                      case r4o1 =>
                        intro w1 hG
                        intro v0 h0
                        change _ = _ at h0
                        subst h0
                        refine turn_on (by rfl) ?_
                        intro K hK
                        simp only [List.getD_cons_zero, List.getD_cons_succ, List.setIfInBounds_toArray, List.set_cons_zero, List.set_cons_succ]
                        go_simp
                        refine hK _ _ ⟨rfl, Kept.refl _, ?_⟩
                        show _ = _
                        simp only [List.getD_cons_zero, List.getD_cons_succ, Array.getD_eq_getD_getElem?, List.getElem?_toArray, List.getElem?_cons_zero, List.getElem?_cons_succ, Option.getD_some]
                        rfl
                      case r4o2 =>
                        intro w1 hG
                        intro v1 h1
                        change _ = _ at h1
                        subst h1
                        refine turn_off (by rfl) ?_
                        show _ = _
                        rfl
                      case r4o3 =>
                        intro w1 hG
                        intro v1 h1
                        change _ = _ at h1
                        subst h1
                        refine turn_off (by rfl) ?_
                        show _ = _
                        rfl
                      case r4o4 =>
                        intro w1 hG
                        intro v1 h1
                        change _ = _ at h1
                        subst h1
                        intro v2 h2
                        change _ = _ at h2
                        subst h2
                        intro v3 h3
                        change _ = _ at h3
                        subst h3
                        refine turn_off (by rfl) ?_
                        show _ = _
                        rfl
                      case r4o5 =>
                        intro w1 hG
                        intro v1 h1
                        change _ = _ at h1
                        subst h1
                        intro v4 h4
                        change _ = _ at h4
                        subst h4
                        refine turn_off (by rfl) ?_
                        show _ = _
                        rfl
                      case r4o6 =>
                        intro w1 hG
                        intro v1 h1
                        change _ = _ at h1
                        subst h1
                        intro v5 h5
                        change _ = _ at h5
                        subst h5
                        refine turn_off (by rfl) ?_
                        show _ = _
                        rfl
                      case r4o7 =>
                        intro w1 hG
                        intro v1 h1
                        change _ = _ at h1
                        subst h1
                        refine turn_off (by rfl) ?_
                        show _ = _
                        rfl
                      case r4o8 =>
                        intro w1 hG
                        intro v1 h1
                        change _ = _ at h1
                        subst h1
                        intro v6 h6
                        change _ = _ at h6
                        subst h6
                        intro v7 h7
                        change _ = _ at h7
                        subst h7
                        refine turn_off (by rfl) ?_
                        show _ = _
                        rfl
                      case r4o9 =>
                        intro w1 hG
                        intro v1 h1
                        change _ = _ at h1
                        subst h1
                        intro v8 h8
                        change _ = _ at h8
                        subst h8
                        refine turn_off (by rfl) ?_
                        show _ = _
                        rfl
                      case r4o10 =>
                        intro w1 hG
                        intro v9 h9
                        change _ = _ at h9
                        subst h9
                        refine turn_off (by rfl) ?_
                        show _ = _
                        rfl
                      case r4o11 =>
                        intro w1 hG
                        intro v9 h9
                        change _ = _ at h9
                        subst h9
                        refine turn_off (by rfl) ?_
                        show _ = _
                        rfl
                      case r4o12 =>
                        intro w1 hG
                        intro v9 h9
                        change _ = _ at h9
                        subst h9
                        intro v10 h10
                        change _ = _ at h10
                        subst h10
                        intro v11 h11
                        change _ = _ at h11
                        subst h11
                        refine turn_off (by rfl) ?_
                        show _ = _
                        rfl
                      case r4o13 =>
                        intro w1 hG
                        intro v9 h9
                        change _ = _ at h9
                        subst h9
                        intro v12 h12
                        change _ = _ at h12
                        subst h12
                        refine turn_off (by rfl) ?_
                        show _ = _
                        rfl
                      case r4o14 =>
                        intro w1 hG
                        intro v9 h9
                        change _ = _ at h9
                        subst h9
                        intro v13 h13
                        change _ = _ at h13
                        subst h13
                        refine turn_off (by rfl) ?_
                        show _ = _
                        rfl
                      case r4o15 =>
                        intro w1 hG
                        intro v9 h9
                        change _ = _ at h9
                        subst h9
                        intro v14 h14
                        change _ = _ at h14
                        subst h14
                        refine turn_off (by rfl) ?_
                        show _ = _
                        rfl
                      case r4o16 =>
                        intro w1 hG
                        intro v9 h9
                        change _ = _ at h9
                        subst h9
                        refine turn_off (by rfl) ?_
                        show _ = _
                        rfl
                      case r4o17 =>
                        intro w1 hG
                        intro v9 h9
                        change _ = _ at h9
                        subst h9
                        intro v16 h16
                        change _ = _ at h16
                        subst h16
                        refine turn_off (by rfl) ?_
                        show _ = _
                        rfl
                      case r4o18 =>
                        intro w1 hG
                        intro v9 h9
                        change _ = _ at h9
                        subst h9
                        intro v15 h15
                        change _ = _ at h15
                        subst h15
                        intro v17 h17
                        change _ = _ at h17
                        subst h17
                        refine turn_off (by rfl) ?_
                        show _ = _
                        rfl
                      case r4o19 =>
                        intro w1 hG
                        intro v1 h1
                        change _ = _ at h1
                        subst h1
                        intro v9 h9
                        change _ = _ at h9
                        subst h9
                        intro v18 h18
                        change _ = _ at h18
                        subst h18
                        refine turn_off (by rfl) ?_
                        show _ = _
                        rfl
                      case r4o20 =>
                        intro w1 hG
                        intro v1 h1
                        change _ = _ at h1
                        subst h1
                        intro v19 h19
                        change _ = _ at h19
                        subst h19
                        refine turn_on (by rfl) ?_
                        intro K hK
                        simp only [List.getD_cons_zero, List.getD_cons_succ, List.setIfInBounds_toArray, List.set_cons_zero, List.set_cons_succ]
                        go_simp
                        refine hK _ _ ⟨rfl, Kept.refl _, ?_⟩
                        show _ = _
                        simp only [List.getD_cons_zero, List.getD_cons_succ, Array.getD_eq_getD_getElem?, List.getElem?_toArray, List.getElem?_cons_zero, List.getElem?_cons_succ, Option.getD_some]
                        rfl
                      case r4o21 =>
                        intro w1 hG
                        intro v20 h20
                        change _ = _ at h20
                        subst h20
                        refine turn_on (by rfl) ?_
                        intro K hK
                        simp only [List.getD_cons_zero, List.getD_cons_succ, List.setIfInBounds_toArray, List.set_cons_zero, List.set_cons_succ]
                        go_simp
                        refine hK _ _ ⟨rfl, Kept.refl _, ?_⟩
                        show _ = _
                        simp only [List.getD_cons_zero, List.getD_cons_succ, Array.getD_eq_getD_getElem?, List.getElem?_toArray, List.getElem?_cons_zero, List.getElem?_cons_succ, Option.getD_some]
                        rfl
                    intro w1 hG
                    intro v0 h0
                    change _ = _ at h0
                    subst h0
                    intro v1 h1
                    change _ = _ at h1
                    subst h1
                    intro v2 h2
                    change _ = _ at h2
                    subst h2
                    intro v3 h3
                    change _ = _ at h3
                    subst h3
                    intro v4 h4
                    change _ = _ at h4
                    subst h4
                    intro v5 h5
                    change _ = _ at h5
                    subst h5
                    intro v6 h6
                    change _ = _ at h6
                    subst h6
                    intro v7 h7
                    change _ = _ at h7
                    subst h7
                    intro v8 h8
                    change _ = _ at h8
                    subst h8
                    intro v9 h9
                    change _ = _ at h9
                    subst h9
                    intro v10 h10
                    change _ = _ at h10
                    subst h10
                    intro v11 h11
                    change _ = _ at h11
                    subst h11
                    intro v12 h12
                    change _ = _ at h12
                    subst h12
                    intro v13 h13
                    change _ = _ at h13
                    subst h13
                    intro v14 h14
                    change _ = _ at h14
                    subst h14
                    intro v15 h15
                    change _ = _ at h15
                    subst h15
                    intro v16 h16
                    change _ = _ at h16
                    subst h16
                    intro v17 h17
                    change _ = _ at h17
                    subst h17
                    intro v18 h18
                    change _ = _ at h18
                    subst h18
                    intro v19 h19
                    change _ = _ at h19
                    subst h19
                    intro v20 h20
                    change _ = _ at h20
                    subst h20
                    intro v21 h21
                    change _ = _ at h21
                    subst h21
                    simp only [Given, List.getD_cons_zero, List.getD_cons_succ, List.setIfInBounds_toArray, List.set_cons_zero, List.set_cons_succ]
                    have GG := Lib.hid (goal true w1 hG (fun _ => rfl))
                    clear goal hG
                    go_wp2_with fail
                    go_roundw
                    case rel => first | exact ⟨t + 1, true, by omega, by go_num, rfl, GG.out⟩ | exact ⟨t + 1, by omega, by go_num, GG.out.1, GG.out.2.1, GG.out.2.2.1, Lib.hid trivial⟩
                    case measure => simp [intOf] <;> omega
                  | false =>
                    by_cases hsr : A.sec = r
                    · have dsr : (A.sec == (r : Int)) = true := by simpa using hsr
                      clear hsr
                      obtain ⟨b2, hb2⟩ : ∃ b : Bool, ((strOfNums (dataL A 64)).toList == (strOfNums x).toList) = b := ⟨_, rfl⟩
                      have HB2 : Hid (dataL A 64 = x → b2 = true) := by
                        intro hxy
                        rw [← hb2, hxy]
                        exact beq_self_eq_true _
                      go_wp2_with fail
                      refine' reg_free (G := Kept) (pickF [eqV _, eqV _, eqV _, eqV _, eqV _, eqV _, eqV _, eqV _, eqV _, eqV _, eqV _, eqV _, eqV _, eqV _, isBytes (dataL A 64), eqV _, eqV _, eqV _, eqV _, eqV _, eqV _, eqV _]) [119, 120, 121, 122, 123, 124, 125, 126, 127, 128, 129, 130, 131, 132, 133, 134, 135, 136, 137, 138, 139, 15] [[], [0], [1], [1], [1, 2, 3], [1, 4], [1, 5], [1], [1, 6, 7], [1, 8], [9], [9], [9, 10, 11], [9, 12], [9, 13], [9, 14], [9], [9, 16], [9, 15, 17], [1, 9, 18], [1, 19], [20]] [0, 1, 2, 3, 4, 5, 6, 7, 8, 9, 10, 11, 12, 13, 14, 15, 16, 17, 18, 19, 20, 21] (by kernel_rfl) Kept.refl Kept.trans (pick_stays ⟨eqV_stays _, eqV_stays _, eqV_stays _, eqV_stays _, eqV_stays _, eqV_stays _, eqV_stays _, eqV_stays _, eqV_stays _, eqV_stays _, eqV_stays _, eqV_stays _, eqV_stays _, eqV_stays _, isBytes_stays _, eqV_stays _, eqV_stays _, eqV_stays _, eqV_stays _, eqV_stays _, eqV_stays _, eqV_stays _, trivial⟩) 145 rfl (by kernel_rfl) (by kernel_rfl) rfl rfl ?r6obl ?r6fin
                      case r6obl =>
                        refine And.intro ?r6o0 (And.intro ?r6o1 (And.intro ?r6o2 (And.intro ?r6o3 (And.intro ?r6o4 (And.intro ?r6o5 (And.intro ?r6o6 (And.intro ?r6o7 (And.intro ?r6o8 (And.intro ?r6o9 (And.intro ?r6o10 (And.intro ?r6o11 (And.intro ?r6o12 (And.intro ?r6o13 (And.intro ?r6o14 (And.intro ?r6o15 (And.intro ?r6o16 (And.intro ?r6o17 (And.intro ?r6o18 (And.intro ?r6o19 (And.intro ?r6o20 (And.intro ?r6o21 (True.intro))))))))))))))))))))))
                        case r6o0 =>
                          intro w1 hG
                          refine turn_on (by rfl) ?_
                          intro K hK
                          go_simp
                          refine hK _ _ ⟨rfl, Kept.refl _, ?_⟩
                          show _ = _
                          simp only [List.getD_cons_zero, List.getD_cons_succ, Array.getD_eq_getD_getElem?, List.getElem?_toArray, List.getElem?_cons_zero, List.getElem?_cons_succ, Option.getD_some]
                          rfl
                        case r6o1 =>
                          intro w1 hG
                          intro v0 h0
                          change _ = _ at h0
                          subst h0
                          refine turn_on (by rfl) ?_
                          intro K hK
                          simp only [List.getD_cons_zero, List.getD_cons_succ, List.setIfInBounds_toArray, List.set_cons_zero, List.set_cons_succ]
                          go_simp
                          refine hK _ _ ⟨rfl, Kept.refl _, ?_⟩
                          show _ = _
                          simp only [List.getD_cons_zero, List.getD_cons_succ, Array.getD_eq_getD_getElem?, List.getElem?_toArray, List.getElem?_cons_zero, List.getElem?_cons_succ, Option.getD_some]
                          rfl
                        case r6o2 =>
                          intro w1 hG
                          intro v1 h1
                          change _ = _ at h1
                          subst h1
                          refine turn_on (by rfl) ?_
                          intro K hK
                          simp only [List.getD_cons_zero, List.getD_cons_succ, List.setIfInBounds_toArray, List.set_cons_zero, List.set_cons_succ]
                          go_simp
                          refine hK _ _ ⟨rfl, Kept.refl _, ?_⟩
                          show _ = _
                          simp only [List.getD_cons_zero, List.getD_cons_succ, Array.getD_eq_getD_getElem?, List.getElem?_toArray, List.getElem?_cons_zero, List.getElem?_cons_succ, Option.getD_some]
                          rfl
                        case r6o3 =>
                          intro w1 hG
                          intro v1 h1
                          change _ = _ at h1
                          subst h1
                          refine turn_on (by rfl) ?_
                          intro K hK
                          simp only [List.getD_cons_zero, List.getD_cons_succ, List.setIfInBounds_toArray, List.set_cons_zero, List.set_cons_succ]
                          go_simp
                          refine hK _ _ ⟨rfl, Kept.refl _, ?_⟩
                          show _ = _
                          simp only [List.getD_cons_zero, List.getD_cons_succ, Array.getD_eq_getD_getElem?, List.getElem?_toArray, List.getElem?_cons_zero, List.getElem?_cons_succ, Option.getD_some]
                          rfl
                        case r6o4 =>
                          intro w1 hG
                          intro v1 h1
                          change _ = _ at h1
                          subst h1
                          intro v2 h2
                          change _ = _ at h2
                          subst h2
                          intro v3 h3
                          change _ = _ at h3
                          subst h3
                          refine turn_on (by rfl) ?_
                          intro K hK
                          simp only [List.getD_cons_zero, List.getD_cons_succ, List.setIfInBounds_toArray, List.set_cons_zero, List.set_cons_succ]
                          go_simp
                          refine hK _ _ ⟨rfl, Kept.refl _, ?_⟩
                          show _ = _
                          simp only [List.getD_cons_zero, List.getD_cons_succ, Array.getD_eq_getD_getElem?, List.getElem?_toArray, List.getElem?_cons_zero, List.getElem?_cons_succ, Option.getD_some]
                          rfl
                        case r6o5 =>
                          intro w1 hG
                          intro v1 h1
                          change _ = _ at h1
                          subst h1
                          intro v4 h4
                          change _ = _ at h4
                          subst h4
                          refine turn_on (by rfl) ?_
                          intro K hK
                          simp only [List.getD_cons_zero, List.getD_cons_succ, List.setIfInBounds_toArray, List.set_cons_zero, List.set_cons_succ]
                          go_simp
                          refine hK _ _ ⟨rfl, Kept.refl _, ?_⟩
                          show _ = _
                          simp only [List.getD_cons_zero, List.getD_cons_succ, Array.getD_eq_getD_getElem?, List.getElem?_toArray, List.getElem?_cons_zero, List.getElem?_cons_succ, Option.getD_some]
                          rfl
                        case r6o6 =>
                          intro w1 hG
                          intro v1 h1
                          change _ = _ at h1
                          subst h1
                          intro v5 h5
                          change _ = _ at h5
                          subst h5
                          refine turn_on (by rfl) ?_
                          intro K hK
                          simp only [List.getD_cons_zero, List.getD_cons_succ, List.setIfInBounds_toArray, List.set_cons_zero, List.set_cons_succ]
                          obtain ⟨c0, c1, c2, c3, c4, c5, c6, hra, hka⟩ := ActC.below HAC.out hG
                          go_simp
                          refine hK _ _ ⟨rfl, Kept.refl _, ?_⟩
                          show _ = _
                          simp only [List.getD_cons_zero, List.getD_cons_succ, Array.getD_eq_getD_getElem?, List.getElem?_toArray, List.getElem?_cons_zero, List.getElem?_cons_succ, Option.getD_some]
                          rfl
                        case r6o7 =>
                          intro w1 hG
                          intro v1 h1
                          change _ = _ at h1
                          subst h1
                          refine turn_on (by rfl) ?_
                          intro K hK
                          simp only [List.getD_cons_zero, List.getD_cons_succ, List.setIfInBounds_toArray, List.set_cons_zero, List.set_cons_succ]
                          go_simp
                          refine hK _ _ ⟨rfl, Kept.refl _, ?_⟩
                          show _ = _
                          simp only [List.getD_cons_zero, List.getD_cons_succ, Array.getD_eq_getD_getElem?, List.getElem?_toArray, List.getElem?_cons_zero, List.getElem?_cons_succ, Option.getD_some]
                          rfl
                        case r6o8 =>
                          intro w1 hG
                          intro v1 h1
                          change _ = _ at h1
                          subst h1
                          intro v6 h6
                          change _ = _ at h6
                          subst h6
                          intro v7 h7
                          change _ = _ at h7
                          subst h7
                          refine turn_on (by rfl) ?_
                          intro K hK
                          simp only [List.getD_cons_zero, List.getD_cons_succ, List.setIfInBounds_toArray, List.set_cons_zero, List.set_cons_succ]
                          go_simp
                          refine hK _ _ ⟨rfl, Kept.refl _, ?_⟩
                          show _ = _
                          simp only [List.getD_cons_zero, List.getD_cons_succ, Array.getD_eq_getD_getElem?, List.getElem?_toArray, List.getElem?_cons_zero, List.getElem?_cons_succ, Option.getD_some]
                          rfl
                        case r6o9 =>
                          intro w1 hG
                          intro v1 h1
                          change _ = _ at h1
                          subst h1
                          intro v8 h8
                          change _ = _ at h8
                          subst h8
                          refine turn_on (by rfl) ?_
                          intro K hK
                          simp only [List.getD_cons_zero, List.getD_cons_succ, List.setIfInBounds_toArray, List.set_cons_zero, List.set_cons_succ]
                          go_simp
                          refine hK _ _ ⟨rfl, Kept.refl _, ?_⟩
                          show _ = _
                          simp only [List.getD_cons_zero, List.getD_cons_succ, Array.getD_eq_getD_getElem?, List.getElem?_toArray, List.getElem?_cons_zero, List.getElem?_cons_succ, Option.getD_some]
                          rfl
                        case r6o10 =>
                          intro w1 hG
                          intro v9 h9
                          change _ = _ at h9
                          subst h9
                          refine turn_on (by rfl) ?_
                          intro K hK
                          simp only [List.getD_cons_zero, List.getD_cons_succ, List.setIfInBounds_toArray, List.set_cons_zero, List.set_cons_succ]
                          go_simp
                          refine hK _ _ ⟨rfl, Kept.refl _, ?_⟩
                          show _ = _
                          simp only [List.getD_cons_zero, List.getD_cons_succ, Array.getD_eq_getD_getElem?, List.getElem?_toArray, List.getElem?_cons_zero, List.getElem?_cons_succ, Option.getD_some]
                          rfl
                        case r6o11 =>
                          intro w1 hG
                          intro v9 h9
                          change _ = _ at h9
                          subst h9
                          refine turn_on (by rfl) ?_
                          intro K hK
                          simp only [List.getD_cons_zero, List.getD_cons_succ, List.setIfInBounds_toArray, List.set_cons_zero, List.set_cons_succ]
                          go_simp
                          refine hK _ _ ⟨rfl, Kept.refl _, ?_⟩
                          show _ = _
                          simp only [List.getD_cons_zero, List.getD_cons_succ, Array.getD_eq_getD_getElem?, List.getElem?_toArray, List.getElem?_cons_zero, List.getElem?_cons_succ, Option.getD_some]
                          rfl
                        case r6o12 =>
                          intro w1 hG
                          intro v9 h9
                          change _ = _ at h9
                          subst h9
                          intro v10 h10
                          change _ = _ at h10
                          subst h10
                          intro v11 h11
                          change _ = _ at h11
                          subst h11
                          refine turn_on (by rfl) ?_
                          intro K hK
                          simp only [List.getD_cons_zero, List.getD_cons_succ, List.setIfInBounds_toArray, List.set_cons_zero, List.set_cons_succ]
                          go_simp
                          refine hK _ _ ⟨rfl, Kept.refl _, ?_⟩
                          show _ = _
                          simp only [List.getD_cons_zero, List.getD_cons_succ, Array.getD_eq_getD_getElem?, List.getElem?_toArray, List.getElem?_cons_zero, List.getElem?_cons_succ, Option.getD_some]
                          rfl
                        case r6o13 =>
                          intro w1 hG
                          intro v9 h9
                          change _ = _ at h9
                          subst h9
                          intro v12 h12
                          change _ = _ at h12
                          subst h12
                          refine turn_on (by rfl) ?_
                          intro K hK
                          simp only [List.getD_cons_zero, List.getD_cons_succ, List.setIfInBounds_toArray, List.set_cons_zero, List.set_cons_succ]
                          obtain ⟨c0, c1, c2, c3, c4, c5, c6, hra, hka⟩ := ActC.below HAC.out hG
                          go_simp
                          refine hK _ _ ⟨rfl, Kept.refl _, ?_⟩
                          show _ = _
                          simp only [List.getD_cons_zero, List.getD_cons_succ, Array.getD_eq_getD_getElem?, List.getElem?_toArray, List.getElem?_cons_zero, List.getElem?_cons_succ, Option.getD_some]
                          rfl
                        case r6o14 =>
                          intro w1 hG
                          intro v9 h9
                          change _ = _ at h9
                          subst h9
                          intro v13 h13
                          change _ = _ at h13
                          subst h13
                          refine turn_on (by rfl) ?_
                          intro K hK
                          simp only [List.getD_cons_zero, List.getD_cons_succ, List.setIfInBounds_toArray, List.set_cons_zero, List.set_cons_succ]
                          obtain ⟨c0, c1, c2, c3, c4, c5, c6, hra, hka⟩ := ActC.below HAC.out hG
                          go_simp
                          refine Calls.mono (data_any A ba bn bc ka kn kc 64 w1 hra (by omega) hwf.2.2.1) ?_
                          rintro e w9 ⟨a9, n9, c9, rfl, h9, hb9, _⟩
                          refine hK _ _ ⟨rfl, hb9, ?_⟩
                          show isBytes _ _ _
                          simp only [List.getD_cons_zero, List.getD_cons_succ, Array.getD_eq_getD_getElem?, List.getElem?_toArray, List.getElem?_cons_zero, List.getElem?_cons_succ, Option.getD_some]
                          exact ⟨a9, n9, c9, rfl, h9⟩
                        case r6o15 =>
                          intro w1 hG
                          intro v9 h9
                          change _ = _ at h9
                          subst h9
                          intro v14 h14
                          obtain ⟨a14, n14, c14, rfl, h14⟩ := h14
                          refine turn_on (by rfl) ?_
                          intro K hK
                          simp only [List.getD_cons_zero, List.getD_cons_succ, List.setIfInBounds_toArray, List.set_cons_zero, List.set_cons_succ]
                          refine wp_conv 134 rfl u8T s8 su _ rfl rfl (h14) ?_
                          refine hK _ _ ⟨rfl, Kept.refl _, ?_⟩
                          show _ = _
                          simp only [List.getD_cons_zero, List.getD_cons_succ, Array.getD_eq_getD_getElem?, List.getElem?_toArray, List.getElem?_cons_zero, List.getElem?_cons_succ, Option.getD_some]
                          rfl
                        case r6o16 =>
                          intro w1 hG
                          intro v9 h9
                          change _ = _ at h9
                          subst h9
                          refine turn_on (by rfl) ?_
                          intro K hK
                          simp only [List.getD_cons_zero, List.getD_cons_succ, List.setIfInBounds_toArray, List.set_cons_zero, List.set_cons_succ]
                          go_simp
                          refine hK _ _ ⟨rfl, Kept.refl _, ?_⟩
                          show _ = _
                          simp only [List.getD_cons_zero, List.getD_cons_succ, Array.getD_eq_getD_getElem?, List.getElem?_toArray, List.getElem?_cons_zero, List.getElem?_cons_succ, Option.getD_some]
                          rfl
                        case r6o17 =>
                          intro w1 hG
                          intro v9 h9
                          change _ = _ at h9
                          subst h9
                          intro v16 h16
                          change _ = _ at h16
                          subst h16
                          refine turn_on (by rfl) ?_
                          intro K hK
                          simp only [List.getD_cons_zero, List.getD_cons_succ, List.setIfInBounds_toArray, List.set_cons_zero, List.set_cons_succ]
                          refine wp_conv 136 rfl u8T s8 su _ rfl rfl (X16.out.keptD hG) ?_
                          refine hK _ _ ⟨rfl, Kept.refl _, ?_⟩
                          show _ = _
                          simp only [List.getD_cons_zero, List.getD_cons_succ, Array.getD_eq_getD_getElem?, List.getElem?_toArray, List.getElem?_cons_zero, List.getElem?_cons_succ, Option.getD_some]
                          rfl
                        case r6o18 =>
                          intro w1 hG
                          intro v9 h9
                          change _ = _ at h9
                          subst h9
                          intro v15 h15
                          change _ = _ at h15
                          subst h15
                          intro v17 h17
                          change _ = _ at h17
                          subst h17
                          refine turn_on (by rfl) ?_
                          intro K hK
                          simp only [List.getD_cons_zero, List.getD_cons_succ, List.setIfInBounds_toArray, List.set_cons_zero, List.set_cons_succ]
                          go_simp
                          refine hK _ _ ⟨rfl, Kept.refl _, ?_⟩
                          show _ = _
                          simp only [List.getD_cons_zero, List.getD_cons_succ, Array.getD_eq_getD_getElem?, List.getElem?_toArray, List.getElem?_cons_zero, List.getElem?_cons_succ, Option.getD_some]
                          rfl
                        case r6o19 =>
                          intro w1 hG
                          intro v1 h1
                          change _ = _ at h1
                          subst h1
                          intro v9 h9
                          change _ = _ at h9
                          subst h9
                          intro v18 h18
                          change _ = _ at h18
                          subst h18
                          refine turn_on (by rfl) ?_
                          intro K hK
                          simp only [List.getD_cons_zero, List.getD_cons_succ, List.setIfInBounds_toArray, List.set_cons_zero, List.set_cons_succ]
                          go_simp
                          refine hK _ _ ⟨rfl, Kept.refl _, ?_⟩
                          show _ = _
                          simp only [List.getD_cons_zero, List.getD_cons_succ, Array.getD_eq_getD_getElem?, List.getElem?_toArray, List.getElem?_cons_zero, List.getElem?_cons_succ, Option.getD_some]
                          rfl
                        case r6o20 =>
                          intro w1 hG
                          intro v1 h1
                          change _ = _ at h1
                          subst h1
                          intro v19 h19
                          change _ = _ at h19
                          subst h19
                          refine turn_on (by rfl) ?_
                          intro K hK
                          simp only [List.getD_cons_zero, List.getD_cons_succ, List.setIfInBounds_toArray, List.set_cons_zero, List.set_cons_succ]
                          go_simp
                          refine hK _ _ ⟨rfl, Kept.refl _, ?_⟩
                          show _ = _
                          simp only [List.getD_cons_zero, List.getD_cons_succ, Array.getD_eq_getD_getElem?, List.getElem?_toArray, List.getElem?_cons_zero, List.getElem?_cons_succ, Option.getD_some]
                          rfl
                        case r6o21 =>
                          intro w1 hG
                          intro v20 h20
                          change _ = _ at h20
                          subst h20
                          refine turn_on (by rfl) ?_
                          intro K hK
                          simp only [List.getD_cons_zero, List.getD_cons_succ, List.setIfInBounds_toArray, List.set_cons_zero, List.set_cons_succ]
                          go_simp
                          refine hK _ _ ⟨rfl, Kept.refl _, ?_⟩
                          show _ = _
                          simp only [List.getD_cons_zero, List.getD_cons_succ, Array.getD_eq_getD_getElem?, List.getElem?_toArray, List.getElem?_cons_zero, List.getElem?_cons_succ, Option.getD_some]
                          rfl
                      intro w1 hG
                      intro v0 h0
                      change _ = _ at h0
                      subst h0
                      intro v1 h1
                      change _ = _ at h1
                      subst h1
                      intro v2 h2
                      change _ = _ at h2
                      subst h2
                      intro v3 h3
                      change _ = _ at h3
                      subst h3
                      intro v4 h4
                      change _ = _ at h4
                      subst h4
                      intro v5 h5
                      change _ = _ at h5
                      subst h5
                      intro v6 h6
                      change _ = _ at h6
                      subst h6
                      intro v7 h7
                      change _ = _ at h7
                      subst h7
                      intro v8 h8
                      change _ = _ at h8
                      subst h8
                      intro v9 h9
                      change _ = _ at h9
                      subst h9
                      intro v10 h10
                      change _ = _ at h10
                      subst h10
                      intro v11 h11
                      change _ = _ at h11
                      subst h11
                      intro v12 h12
                      change _ = _ at h12
                      subst h12
                      intro v13 h13
                      change _ = _ at h13
                      subst h13
                      intro v14 h14
                      obtain ⟨a14, n14, c14, rfl, h14⟩ := h14
                      intro v15 h15
                      change _ = _ at h15
                      subst h15
                      intro v16 h16
                      change _ = _ at h16
                      subst h16
                      intro v17 h17
                      change _ = _ at h17
                      subst h17
                      intro v18 h18
                      change _ = _ at h18
                      subst h18
                      intro v19 h19
                      change _ = _ at h19
                      subst h19
                      intro v20 h20
                      change _ = _ at h20
                      subst h20
                      intro v21 h21
                      change _ = _ at h21
                      subst h21
                      simp only [Given, List.getD_cons_zero, List.getD_cons_succ, List.setIfInBounds_toArray, List.set_cons_zero, List.set_cons_succ]
                      have GG := Lib.hid (goal b2 w1 hG (fun h => h.elim (fun h => by cases h) (fun h => HB2.out h.2)))
                      clear goal hG hb2
                      go_wp2_with fail
                      go_roundw
                      case rel => exact ⟨t + 1, b2, by omega, by go_num, rfl, GG.out⟩
                      case measure => simp [intOf] <;> omega
                    · have dsr : (A.sec == (r : Int)) = false := by simpa using hsr
                      have HSR := Lib.hid hsr
                      clear hsr
                      go_wp2_with fail
                      refine' reg_free (G := Kept) (pickF [eqV _, eqV _, eqV _, eqV _, eqV _, eqV _, eqV _, eqV _, eqV _, eqV _, eqV _, eqV _, eqV _, eqV _, eqV _, eqV _, eqV _, eqV _, eqV _, eqV _, eqV _, eqV _]) [119, 120, 121, 122, 123, 124, 125, 126, 127, 128, 129, 130, 131, 132, 133, 134, 135, 136, 137, 138, 139, 15] [[], [0], [1], [1], [1, 2, 3], [1, 4], [1, 5], [1], [1, 6, 7], [1, 8], [9], [9], [9, 10, 11], [9, 12], [9, 13], [9, 14], [9], [9, 16], [9, 15, 17], [1, 9, 18], [1, 19], [20]] [0, 1, 2, 3, 4, 5, 6, 7, 8, 9, 10, 11, 12, 13, 14, 15, 16, 17, 18, 19, 20, 21] (by kernel_rfl) Kept.refl Kept.trans (pick_stays ⟨eqV_stays _, eqV_stays _, eqV_stays _, eqV_stays _, eqV_stays _, eqV_stays _, eqV_stays _, eqV_stays _, eqV_stays _, eqV_stays _, eqV_stays _, eqV_stays _, eqV_stays _, eqV_stays _, eqV_stays _, eqV_stays _, eqV_stays _, eqV_stays _, eqV_stays _, eqV_stays _, eqV_stays _, eqV_stays _, trivial⟩) 145 rfl (by kernel_rfl) (by kernel_rfl) rfl rfl ?r5obl ?r5fin
                      case r5obl =>
                        refine And.intro ?r5o0 (And.intro ?r5o1 (And.intro ?r5o2 (And.intro ?r5o3 (And.intro ?r5o4 (And.intro ?r5o5 (And.intro ?r5o6 (And.intro ?r5o7 (And.intro ?r5o8 (And.intro ?r5o9 (And.intro ?r5o10 (And.intro ?r5o11 (And.intro ?r5o12 (And.intro ?r5o13 (And.intro ?r5o14 (And.intro ?r5o15 (And.intro ?r5o16 (And.intro ?r5o17 (And.intro ?r5o18 (And.intro ?r5o19 (And.intro ?r5o20 (And.intro ?r5o21 (True.intro))))))))))))))))))))))
                        case r5o0 =>
                          intro w1 hG
                          refine turn_on (by rfl) ?_
                          intro K hK
                          go_simp
                          refine hK _ _ ⟨rfl, Kept.refl _, ?_⟩
                          show _ = _
                          simp only [List.getD_cons_zero, List.getD_cons_succ, Array.getD_eq_getD_getElem?, List.getElem?_toArray, List.getElem?_cons_zero, List.getElem?_cons_succ, Option.getD_some]
                          rfl
                        case r5o1 =>
                          intro w1 hG
                          intro v0 h0
                          change _ = _ at h0
                          subst h0
                          refine turn_on (by rfl) ?_
                          intro K hK
                          simp only [List.getD_cons_zero, List.getD_cons_succ, List.setIfInBounds_toArray, List.set_cons_zero, List.set_cons_succ]
                          go_simp
                          refine hK _ _ ⟨rfl, Kept.refl _, ?_⟩
                          show _ = _
                          simp only [List.getD_cons_zero, List.getD_cons_succ, Array.getD_eq_getD_getElem?, List.getElem?_toArray, List.getElem?_cons_zero, List.getElem?_cons_succ, Option.getD_some]
                          rfl
                        case r5o2 =>
                          intro w1 hG
                          intro v1 h1
                          change _ = _ at h1
                          subst h1
                          refine turn_on (by rfl) ?_
                          intro K hK
                          simp only [List.getD_cons_zero, List.getD_cons_succ, List.setIfInBounds_toArray, List.set_cons_zero, List.set_cons_succ]
                          go_simp
                          refine hK _ _ ⟨rfl, Kept.refl _, ?_⟩
                          show _ = _
                          simp only [List.getD_cons_zero, List.getD_cons_succ, Array.getD_eq_getD_getElem?, List.getElem?_toArray, List.getElem?_cons_zero, List.getElem?_cons_succ, Option.getD_some]
                          rfl
                        case r5o3 =>
                          intro w1 hG
                          intro v1 h1
                          change _ = _ at h1
                          subst h1
                          refine turn_on (by rfl) ?_
                          intro K hK
                          simp only [List.getD_cons_zero, List.getD_cons_succ, List.setIfInBounds_toArray, List.set_cons_zero, List.set_cons_succ]
                          go_simp
                          refine hK _ _ ⟨rfl, Kept.refl _, ?_⟩
                          show _ = _
                          simp only [List.getD_cons_zero, List.getD_cons_succ, Array.getD_eq_getD_getElem?, List.getElem?_toArray, List.getElem?_cons_zero, List.getElem?_cons_succ, Option.getD_some]
                          rfl
                        case r5o4 =>
                          intro w1 hG
                          intro v1 h1
                          change _ = _ at h1
                          subst h1
                          intro v2 h2
                          change _ = _ at h2
                          subst h2
                          intro v3 h3
                          change _ = _ at h3
                          subst h3
                          refine turn_on (by rfl) ?_
                          intro K hK
                          simp only [List.getD_cons_zero, List.getD_cons_succ, List.setIfInBounds_toArray, List.set_cons_zero, List.set_cons_succ]
                          go_simp
                          refine hK _ _ ⟨rfl, Kept.refl _, ?_⟩
                          show _ = _
                          simp only [List.getD_cons_zero, List.getD_cons_succ, Array.getD_eq_getD_getElem?, List.getElem?_toArray, List.getElem?_cons_zero, List.getElem?_cons_succ, Option.getD_some]
                          rfl
                        case r5o5 =>
                          intro w1 hG
                          intro v1 h1
                          change _ = _ at h1
                          subst h1
                          intro v4 h4
                          change _ = _ at h4
                          subst h4
                          refine turn_on (by rfl) ?_
                          intro K hK
                          simp only [List.getD_cons_zero, List.getD_cons_succ, List.setIfInBounds_toArray, List.set_cons_zero, List.set_cons_succ]
                          go_simp
                          refine hK _ _ ⟨rfl, Kept.refl _, ?_⟩
                          show _ = _
                          simp only [List.getD_cons_zero, List.getD_cons_succ, Array.getD_eq_getD_getElem?, List.getElem?_toArray, List.getElem?_cons_zero, List.getElem?_cons_succ, Option.getD_some]
                          rfl
                        case r5o6 =>
                          intro w1 hG
                          intro v1 h1
                          change _ = _ at h1
                          subst h1
                          intro v5 h5
                          change _ = _ at h5
                          subst h5
                          refine turn_on (by rfl) ?_
                          intro K hK
                          simp only [List.getD_cons_zero, List.getD_cons_succ, List.setIfInBounds_toArray, List.set_cons_zero, List.set_cons_succ]
                          obtain ⟨c0, c1, c2, c3, c4, c5, c6, hra, hka⟩ := ActC.below HAC.out hG
                          go_simp
                          refine hK _ _ ⟨rfl, Kept.refl _, ?_⟩
                          show _ = _
                          simp only [List.getD_cons_zero, List.getD_cons_succ, Array.getD_eq_getD_getElem?, List.getElem?_toArray, List.getElem?_cons_zero, List.getElem?_cons_succ, Option.getD_some]
                          rfl
                        case r5o7 =>
                          intro w1 hG
                          intro v1 h1
                          change _ = _ at h1
                          subst h1
                          refine turn_on (by rfl) ?_
                          intro K hK
                          simp only [List.getD_cons_zero, List.getD_cons_succ, List.setIfInBounds_toArray, List.set_cons_zero, List.set_cons_succ]
                          go_simp
                          refine hK _ _ ⟨rfl, Kept.refl _, ?_⟩
                          show _ = _
                          simp only [List.getD_cons_zero, List.getD_cons_succ, Array.getD_eq_getD_getElem?, List.getElem?_toArray, List.getElem?_cons_zero, List.getElem?_cons_succ, Option.getD_some]
                          rfl
                        case r5o8 =>
                          intro w1 hG
                          intro v1 h1
                          change _ = _ at h1
                          subst h1
                          intro v6 h6
                          change _ = _ at h6
                          subst h6
                          intro v7 h7
                          change _ = _ at h7
                          subst h7
                          refine turn_on (by rfl) ?_
                          intro K hK
                          simp only [List.getD_cons_zero, List.getD_cons_succ, List.setIfInBounds_toArray, List.set_cons_zero, List.set_cons_succ]
                          go_simp
                          refine hK _ _ ⟨rfl, Kept.refl _, ?_⟩
                          show _ = _
                          simp only [List.getD_cons_zero, List.getD_cons_succ, Array.getD_eq_getD_getElem?, List.getElem?_toArray, List.getElem?_cons_zero, List.getElem?_cons_succ, Option.getD_some]
                          rfl
                        case r5o9 =>
                          intro w1 hG
                          intro v1 h1
                          change _ = _ at h1
                          subst h1
                          intro v8 h8
                          change _ = _ at h8
                          subst h8
                          refine turn_on (by rfl) ?_
                          intro K hK
                          simp only [List.getD_cons_zero, List.getD_cons_succ, List.setIfInBounds_toArray, List.set_cons_zero, List.set_cons_succ]
                          go_simp
                          refine hK _ _ ⟨rfl, Kept.refl _, ?_⟩
                          show _ = _
                          simp only [List.getD_cons_zero, List.getD_cons_succ, Array.getD_eq_getD_getElem?, List.getElem?_toArray, List.getElem?_cons_zero, List.getElem?_cons_succ, Option.getD_some]
                          rfl
                        case r5o10 =>
                          intro w1 hG
                          intro v9 h9
                          change _ = _ at h9
                          subst h9
                          refine turn_off (by rfl) ?_
                          show _ = _
                          rfl
                        case r5o11 =>
                          intro w1 hG
                          intro v9 h9
                          change _ = _ at h9
                          subst h9
                          refine turn_off (by rfl) ?_
                          show _ = _
                          rfl
                        case r5o12 =>
                          intro w1 hG
                          intro v9 h9
                          change _ = _ at h9
                          subst h9
                          intro v10 h10
                          change _ = _ at h10
                          subst h10
                          intro v11 h11
                          change _ = _ at h11
                          subst h11
                          refine turn_off (by rfl) ?_
                          show _ = _
                          rfl
                        case r5o13 =>
                          intro w1 hG
                          intro v9 h9
                          change _ = _ at h9
                          subst h9
                          intro v12 h12
                          change _ = _ at h12
                          subst h12
                          refine turn_off (by rfl) ?_
                          show _ = _
                          rfl
                        case r5o14 =>
                          intro w1 hG
                          intro v9 h9
                          change _ = _ at h9
                          subst h9
                          intro v13 h13
                          change _ = _ at h13
                          subst h13
                          refine turn_off (by rfl) ?_
                          show _ = _
                          rfl
                        case r5o15 =>
                          intro w1 hG
                          intro v9 h9
                          change _ = _ at h9
                          subst h9
                          intro v14 h14
                          change _ = _ at h14
                          subst h14
                          refine turn_off (by rfl) ?_
                          show _ = _
                          rfl
                        case r5o16 =>
                          intro w1 hG
                          intro v9 h9
                          change _ = _ at h9
                          subst h9
                          refine turn_off (by rfl) ?_
                          show _ = _
                          rfl
                        case r5o17 =>
                          intro w1 hG
                          intro v9 h9
                          change _ = _ at h9
                          subst h9
                          intro v16 h16
                          change _ = _ at h16
                          subst h16
                          refine turn_off (by rfl) ?_
                          show _ = _
                          rfl
                        case r5o18 =>
                          intro w1 hG
                          intro v9 h9
                          change _ = _ at h9
                          subst h9
                          intro v15 h15
                          change _ = _ at h15
                          subst h15
                          intro v17 h17
                          change _ = _ at h17
                          subst h17
                          refine turn_off (by rfl) ?_
                          show _ = _
                          rfl
                        case r5o19 =>
                          intro w1 hG
                          intro v1 h1
                          change _ = _ at h1
                          subst h1
                          intro v9 h9
                          change _ = _ at h9
                          subst h9
                          intro v18 h18
                          change _ = _ at h18
                          subst h18
                          refine turn_on (by rfl) ?_
                          intro K hK
                          simp only [List.getD_cons_zero, List.getD_cons_succ, List.setIfInBounds_toArray, List.set_cons_zero, List.set_cons_succ]
                          go_simp
                          refine hK _ _ ⟨rfl, Kept.refl _, ?_⟩
                          show _ = _
                          simp only [List.getD_cons_zero, List.getD_cons_succ, Array.getD_eq_getD_getElem?, List.getElem?_toArray, List.getElem?_cons_zero, List.getElem?_cons_succ, Option.getD_some]
                          rfl
                        case r5o20 =>
                          intro w1 hG
                          intro v1 h1
                          change _ = _ at h1
                          subst h1
                          intro v19 h19
                          change _ = _ at h19
                          subst h19
                          refine turn_on (by rfl) ?_
                          intro K hK
                          simp only [List.getD_cons_zero, List.getD_cons_succ, List.setIfInBounds_toArray, List.set_cons_zero, List.set_cons_succ]
                          go_simp
                          refine hK _ _ ⟨rfl, Kept.refl _, ?_⟩
                          show _ = _
                          simp only [List.getD_cons_zero, List.getD_cons_succ, Array.getD_eq_getD_getElem?, List.getElem?_toArray, List.getElem?_cons_zero, List.getElem?_cons_succ, Option.getD_some]
                          rfl
                        case r5o21 =>
                          intro w1 hG
                          intro v20 h20
                          change _ = _ at h20
                          subst h20
                          refine turn_on (by rfl) ?_
                          intro K hK
                          simp only [List.getD_cons_zero, List.getD_cons_succ, List.setIfInBounds_toArray, List.set_cons_zero, List.set_cons_succ]
                          go_simp
                          refine hK _ _ ⟨rfl, Kept.refl _, ?_⟩
                          show _ = _
                          simp only [List.getD_cons_zero, List.getD_cons_succ, Array.getD_eq_getD_getElem?, List.getElem?_toArray, List.getElem?_cons_zero, List.getElem?_cons_succ, Option.getD_some]
                          rfl
                      intro w1 hG
                      intro v0 h0
                      change _ = _ at h0
                      subst h0
                      intro v1 h1
                      change _ = _ at h1
                      subst h1
                      intro v2 h2
                      change _ = _ at h2
                      subst h2
                      intro v3 h3
                      change _ = _ at h3
                      subst h3
                      intro v4 h4
                      change _ = _ at h4
                      subst h4
                      intro v5 h5
                      change _ = _ at h5
                      subst h5
                      intro v6 h6
                      change _ = _ at h6
                      subst h6
                      intro v7 h7
                      change _ = _ at h7
                      subst h7
                      intro v8 h8
                      change _ = _ at h8
                      subst h8
                      intro v9 h9
                      change _ = _ at h9
                      subst h9
                      intro v10 h10
                      change _ = _ at h10
                      subst h10
                      intro v11 h11
                      change _ = _ at h11
                      subst h11
                      intro v12 h12
                      change _ = _ at h12
                      subst h12
                      intro v13 h13
                      change _ = _ at h13
                      subst h13
                      intro v14 h14
                      change _ = _ at h14
                      subst h14
                      intro v15 h15
                      change _ = _ at h15
                      subst h15
                      intro v16 h16
                      change _ = _ at h16
                      subst h16
                      intro v17 h17
                      change _ = _ at h17
                      subst h17
                      intro v18 h18
                      change _ = _ at h18
                      subst h18
                      intro v19 h19
                      change _ = _ at h19
                      subst h19
                      intro v20 h20
                      change _ = _ at h20
                      subst h20
                      intro v21 h21
                      change _ = _ at h21
                      subst h21
                      simp only [Given, List.getD_cons_zero, List.getD_cons_succ, List.setIfInBounds_toArray, List.set_cons_zero, List.set_cons_succ]
                      have GG := Lib.hid (goal false w1 hG (fun h => h.elim (fun h => by cases h) (fun h => absurd h.1 HSR.out)))
                      clear goal hG
                      go_wp2_with fail
                      go_roundw
                      case rel => exact ⟨t + 1, false, by omega, by go_num, rfl, GG.out⟩
                      case measure => simp [intOf] <;> omega
                · obtain rfl : t = j := by omega
                  have hbo : bo = true := HB.out (HOR2.out.imp id (fun ⟨A, hA, h1, h2⟩ => by
                    obtain ⟨i, hi⟩ := List.getElem?_of_mem hA
                    exact ⟨i, A, by have := (List.getElem?_eq_some_iff.1 hi).1; rw [H'.out.len] at this; exact this, hi, h1, h2⟩))
                  subst hbo
                  go_wp2_with fail
                  go_roundw
                  case rel => exact ⟨r + 1, by omega, by go_num, D16, VW16⟩
                  case measure => simp [intOf] <;> omega
            · obtain rfl : r = 8 := by omega
              go_wp2_with fail
              refine (pending_any Z d _ wr D13.out.din).mono ?_
              rintro e w20 ⟨rfl, rfl⟩
              rw [show ({ s0 with reads := ((8 : Nat) : Int) } : Dk).pend = [] from by rw [← hs0]; rfl]
              go_wp2_with fail
              go_ret
              exact ⟨rfl, D13.out.below⟩
set_option linter.unusedSimpArgs false in
set_option linter.unusedVariables false in
set_option maxRecDepth 100000 in
set_option maxHeartbeats 2000000 in
theorem out_no (a : Option Addr) (n c : Nat) (L : List ActP) (a' : Option Addr) (n' c' : Nat) (L' : List ActP) (ka0 : Option Addr) (kn0 kc0 : Nat) (w : World) (h : ActsAt w a n L) (h' : ActsAt w a' n' L') (hb : sumA L + n ≤ 1048576) (hb' : sumA L' + n' ≤ 1048576) (f : fewB L = false ∨ fewB L' = false ∨ 1000 < kn0) :
    Calls Try.prog 5 #[.slice a n c, .slice a' n' c', .slice ka0 kn0 kc0] w fun e w' => e = .returned (.bool true) ∧ Below w.heap.size w w' := by
  have H := Lib.hid h
  have H' := Lib.hid h'
  clear h h'
  cases f1 : fewB L with
  | false =>
    have F1 := Lib.hid f1
    clear f f1
    go_enter Try.func5, Try.ntmps5
    go_wp2_with fail
    refine (known_any _).mono ?_
    rintro e w4 ⟨rfl, hb1⟩
    have B1 := Lib.hid hb1
    clear hb1
    go_wp2_with fail
    refine (few_any a n c L w4 (H.out.below B1.out) hb).mono ?_
    rintro e w5 ⟨rfl, hb2⟩
    rw [F1.out]
    have B2 := Lib.hid (Below.call B1.out hb2)
    clear hb2
    go_wp2_with fail
    go_ret
    exact ⟨rfl, B2.out⟩
  | true =>
    have F1 := Lib.hid f1
    cases f2 : fewB L' with
    | false =>
      have F2 := Lib.hid f2
      clear f f1 f2
      go_enter Try.func5, Try.ntmps5
      go_wp2_with fail
      refine (known_any _).mono ?_
      rintro e w4 ⟨rfl, hb1⟩
      have B1 := Lib.hid hb1
      clear hb1
      go_wp2_with fail
      refine (few_any a n c L w4 (H.out.below B1.out) hb).mono ?_
      rintro e w5 ⟨rfl, hb2⟩
      rw [F1.out]
      have B2 := Lib.hid (Below.call B1.out hb2)
      clear hb2
      go_wp2_with fail
      refine (few_any a' n' c' L' w5 (H'.out.below B2.out) hb').mono ?_
      rintro e w6 ⟨rfl, hb3⟩
      rw [F2.out]
      have B3 := Lib.hid (Below.call B2.out hb3)
      clear hb3
      go_wp2_with fail
      go_ret
      exact ⟨rfl, B3.out⟩
    | true =>
      have F2 := Lib.hid f2
      have hk : 1000 < kn0 := by
        rcases f with f | f | f
        · rw [f1] at f; cases f
        · rw [f2] at f; cases f
        · exact f
      have d0 : decide ((1000 : Int) < kn0) = true := decide_eq_true (by omega)
      clear f f1 f2
      go_enter Try.func5, Try.ntmps5
      go_wp2_with fail
      refine (known_any _).mono ?_
      rintro e w4 ⟨rfl, hb1⟩
      have B1 := Lib.hid hb1
      clear hb1
      go_wp2_with fail
      refine (few_any a n c L w4 (H.out.below B1.out) hb).mono ?_
      rintro e w5 ⟨rfl, hb2⟩
      rw [F1.out]
      have B2 := Lib.hid (Below.call B1.out hb2)
      clear hb2
      go_wp2_with fail
      refine (few_any a' n' c' L' w5 (H'.out.below B2.out) hb').mono ?_
      rintro e w6 ⟨rfl, hb3⟩
      rw [F2.out]
      have B3 := Lib.hid (Below.call B2.out hb3)
      clear hb3
      go_wp2_with fail
      go_ret
      exact ⟨rfl, B3.out⟩
theorem diskOutlasts_walk (a : Option Addr) (n c : Nat) (L : List ActP) (a' : Option Addr) (n' c' : Nat) (L' : List ActP) (ka0 : Option Addr) (kn0 kc0 : Nat) (kl : List Bool) (w : World) (h : ActsAt w a n L) (hb : sumA L + n ≤ 1048576) (h' : ActsAt w a' n' L') (hb' : sumA L' + n' ≤ 1048576) (hk0 : RdB w ka0 kn0 kc0 kl) :
    Calls Try.prog 5 #[.slice a n c, .slice a' n' c', .slice ka0 kn0 kc0] w fun e w' => e = .returned (.bool true) ∧ Below w.heap.size w w' := by
  by_cases f : fewB L = false ∨ fewB L' = false ∨ 1000 < kn0
  · exact out_no a n c L a' n' c' L' ka0 kn0 kc0 w h h' hb hb' f
  · have f1 : fewB L = true := by simpa using fun e => f (.inl e)
    have f2 : fewB L' = true := by simpa using fun e => f (.inr (.inl e))
    exact out_try a n c L a' n' c' L' ka0 kn0 kc0 kl w h h' hk0 hb hb' f1 f2 (by omega)
end Go.Proofs.Ytpgncmoagmkcmaa
