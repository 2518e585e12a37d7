/- Joined: super: Decode at every sector; Fits; Write. super: Write. super: Key. Two arrays of four bytes, compared. -/
import Derived.Test.YtcbnebcooiagmaaJc15
import Derived.Test.YtcbnebcooiagmaaJc16
import Derived.Test.YtcbnebcooiagmaaJc9
import Derived.Test.YtcbnebcooiagmaaJc10
import Derived.ChangeKeysEq
namespace Go.Proofs.Ytcbnebcooiagmaa
open Go.RowKit
set_option maxRecDepth 100000 in
theorem supdec_any (a : Option Addr) (n c : Nat) (s : List Int) (w : World) (hr : RdAt .u8 w a n c s) (hn : n ≤ 100000) :
    Calls Try.prog 12 #[.slice a n c] w fun e w' => e = .returned (.tuple #[(supD s).val, .int .i64 (supDE s)]) ∧ Below w.heap.size w w' := by
  by_cases h : n < 64
  · exact supdec_short a n c s w hr hn h
  · cases ho : openOk s with
    | false => exact supdec_unsealed a n c s w hr hn (by omega) ho
    | true => exact supdec_long a n c s w hr hn (by omega) ho
set_option maxRecDepth 100000 in
theorem refdec_any (a : Option Addr) (n c : Nat) (s : List Int) (w : World) (hr : RdAt .u8 w a n c s) (hn : n ≤ 100000) :
    Calls Try.prog 13 #[.slice a n c] w fun e w' => e = .returned (.tuple #[(refD s).val, .int .i64 (refDE s)]) ∧ Below w.heap.size w w' := by
  by_cases h : n < 64
  · exact refdec_short a n c s w hr hn h
  · cases ho : openOk s with
    | false => exact refdec_unsealed a n c s w hr hn (by omega) ho
    | true => exact refdec_long a n c s w hr hn (by omega) ho
theorem below_tnd {w w' : World} (b : Below w.heap.size w w') (Z : Nat → Prop) : Tnd Z Z w w' := ⟨b.os, b.tape, b.output, b.size, fun k hk _ => b.block k hk, fun _ h => .inl h⟩
theorem row_tnd {w w' : World} {Z Z' : Nat → Prop} {k : Nat} {c : Obj} (h : w.heap[k]? = some c) (t : Tnd Z Z' w w') (hz : ¬ Z k) : w'.heap[k]? = some c := by
  rw [t.block k (Array.getElem?_eq_some_iff.1 h).1 hz]; exact h
theorem rd_tnd {w w' : World} {Z Z' : Nat → Prop} {kd : IntKind} {a : Option Addr} {n c : Nat} {l : List Int} (h : RdAt kd w a n c l) (t : Tnd Z Z' w w') (hz : ∀ q, a = some q → 0 < n → ¬ Z q.block) : RdAt kd w' a n c l :=
  ⟨h.len, h.cap, h.max, fun i hi => by
    obtain ⟨b, o, e, hc⟩ := h.cell i hi
    exact ⟨b, o, e, by rw [← hc]; exact World.cell?_of_block (a := ⟨b, o + i, none⟩) (t.block b (block_lt_of_cell hc) (hz _ e (by omega)))⟩, h.wf, h.void⟩
/-- The disk has the block's shape. -/
def fitB (st : Dk) (b : Blk) : Bool := decide ((st.kept.length : Int) = b.c0) && decide ((st.size : Int) = b.c1)
set_option linter.unusedSimpArgs false in
set_option linter.unusedVariables false in
set_option maxRecDepth 100000 in
set_option maxHeartbeats 1000000 in
theorem fits_any (Z : Nat → Prop) (d : Nat) (st : Dk) (b : Blk) (w : World) (h : DkIn w Z d st) :
    Calls Try.prog 61 #[.pointer (some ⟨d, 0, none⟩), .agg #[.int .i64 b.c0, .int .i64 b.c1, .int .i64 b.c2, .int .i64 b.c3, .int .i64 b.c4, .int .i64 b.c5, .int .i64 b.c6, .int .i64 b.c7, .int .i64 b.c8]] w fun e w' => e = .returned (.bool (fitB st b)) ∧ Below w.heap.size w w' := by
  have hD := Lib.hid h
  obtain ⟨ep, f0, f1, f2, f3, f4, f5, f6, f7, f8, rs, rn, sq⟩ := b
  show Calls _ _ #[_, .agg #[.int .i64 f0, .int .i64 f1, .int .i64 f2, .int .i64 f3, .int .i64 f4, .int .i64 f5, .int .i64 f6, .int .i64 f7, .int .i64 f8]] _ _
  have hba : Below w.heap.size w (w.alloc (.cells #[.int .i64 f0, .int .i64 f1, .int .i64 f2, .int .i64 f3, .int .i64 f4, .int .i64 f5, .int .i64 f6, .int .i64 f7, .int .i64 f8] 24)) := (Below.refl _ _).alloc (Nat.le_refl _) _
  have hrow := heap_alloc_new w (.cells #[.int .i64 f0, .int .i64 f1, .int .i64 f2, .int .i64 f3, .int .i64 f4, .int .i64 f5, .int .i64 f6, .int .i64 f7, .int .i64 f8] 24)
  obtain ⟨wa, hwa⟩ : ∃ wa, w.alloc (.cells #[.int .i64 f0, .int .i64 f1, .int .i64 f2, .int .i64 f3, .int .i64 f4, .int .i64 f5, .int .i64 f6, .int .i64 f7, .int .i64 f8] 24) = wa := ⟨_, rfl⟩
  rw [hwa] at hba hrow
  have HBA := Lib.hid hba
  have HROW := Lib.hid hrow
  have HWA := Lib.hid hwa
  obtain ⟨kl, hkl⟩ : ∃ kl, st.kept.length = kl := ⟨_, rfl⟩
  obtain ⟨sz, hsz⟩ : ∃ sz, st.size = sz := ⟨_, rfl⟩
  have HKL := Lib.hid hkl
  have HSZ := Lib.hid hsz
  obtain ⟨hb, hhb⟩ : ∃ hb, w.heap.size = hb := ⟨_, rfl⟩
  have HHB := Lib.hid hhb
  clear hba hrow hwa h hkl hsz hhb
  go_enter Try.func61, Try.ntmps61
  go_wp2_with fail
  rw [HWA.out]
  refine (shape_any Z d st wa (hD.out.below HBA.out)).mono ?_
  rintro e w1 ⟨rfl, hb1⟩
  have ROW1 := Lib.hid (row_keep HROW.out hb1)
  have B1 := Lib.hid (Below.trans HBA.out (hb1.mono HBA.out.size))
  rw [HKL.out, HSZ.out]
  obtain ⟨z0, z1, z2, z3, z4, z5, z6, z7, z8⟩ := cells9 ROW1.out
  clear hb1
  have hF : Hid (fitB st ⟨ep, f0, f1, f2, f3, f4, f5, f6, f7, f8, rs, rn, sq⟩ = (decide ((kl : Int) = f0) && decide ((sz : Int) = f1))) := by show _ = _; unfold fitB; rw [HKL.out, HSZ.out]
  by_cases h0 : (kl : Int) = f0
  · have d0 : ((kl : Int) == f0) = true := by simpa using h0
    by_cases h1 : (sz : Int) = f1
    · have d1 : ((sz : Int) == f1) = true := by simpa using h1
      have HF : Hid (fitB st ⟨ep, f0, f1, f2, f3, f4, f5, f6, f7, f8, rs, rn, sq⟩ = true) := by show _ = _; rw [hF.out, decide_eq_true h0, decide_eq_true h1]; rfl
      clear h0 h1
      go_wp2_with fail
      go_ret
      rw [HF.out]
      exact ⟨rfl, B1.out⟩
    · have d1 : ((sz : Int) == f1) = false := by simpa using h1
      have HF : Hid (fitB st ⟨ep, f0, f1, f2, f3, f4, f5, f6, f7, f8, rs, rn, sq⟩ = false) := by show _ = _; rw [hF.out, decide_eq_true h0, decide_eq_false h1]; rfl
      clear h0 h1
      go_wp2_with fail
      go_ret
      rw [HF.out]
      exact ⟨rfl, B1.out⟩
  · have d0 : ((kl : Int) == f0) = false := by simpa using h0
    have HF : Hid (fitB st ⟨ep, f0, f1, f2, f3, f4, f5, f6, f7, f8, rs, rn, sq⟩ = false) := by show _ = _; rw [hF.out, decide_eq_false h0]; rfl
    clear h0
    go_wp2_with fail
    go_ret
    rw [HF.out]
    exact ⟨rfl, B1.out⟩
end Go.Proofs.Ytcbnebcooiagmaa
namespace Go.Proofs.Ytcbnebcooiagmaa
open Go.RowKit
def supWE (st : Dk) (b : Blk) : Int := if supE b ≠ 0 then supE b else if fitB st b = false then 1 else if st.off = true then 8 else if st.armed = 1 then 8 else 0
def supWS (st : Dk) (b : Blk) : Dk := if supE b ≠ 0 then st else if fitB st b = false then st else if st.off = true then st else if st.armed = 1 then cutS (flushS st) st.keep else flushS (putS (flushS st) (b.ep % 2) (supV b))
theorem chk_c0 {b : Blk} (h : b.chk = true) : 6 ≤ b.c0 := by
  obtain ⟨h0, h1, h2, h3, h4, h5, _⟩ := of_chk h
  unfold segN at h5
  split at h5
  · omega
  · omega
/-- The sector of a block that fits is written to. -/
theorem sup_fit {st : Dk} {b : Blk} (hE : supE b = 0) (hf : fitB st b = true) (ho : st.off = false) : wrE (flushS st) (b.ep % 2) (supV b) = (if st.armed = 1 then 8 else 0) ∧ wrS (flushS st) (b.ep % 2) (supV b) = (if st.armed = 1 then cutS (flushS st) st.keep else putS (flushS st) (b.ep % 2) (supV b)) := by
  have hl := supV_len hE
  have hc := chk_c0 (supE_ok hE).2.1
  unfold fitB at hf
  rw [Bool.and_eq_true] at hf
  have h1 : (st.kept.length : Int) = b.c0 := of_decide_eq_true hf.1
  have h2 : (st.size : Int) = b.c1 := of_decide_eq_true hf.2
  have hk : (flushS st).kept.length = st.kept.length := settleK_len _ _ _ _
  have hw : fitW (flushS st) (b.ep % 2) (supV b) = true := by
    unfold fitW
    rw [hk]
    have e1 : decide (0 ≤ b.ep % 2) = true := decide_eq_true (by omega)
    have e2 : decide (b.ep % 2 < (st.kept.length : Int)) = true := decide_eq_true (by omega)
    have e3 : decide ((supV b).length = (flushS st).size) = true := decide_eq_true (by show _ = st.size; omega)
    rw [e1, e2, e3]
    rfl
  have hoo : (flushS st).off = false := ho
  unfold wrE wrS
  rw [hoo, hw]
  exact ⟨rfl, rfl⟩
set_option linter.unusedSimpArgs false in
set_option linter.unusedVariables false in
set_option maxRecDepth 100000 in
set_option maxHeartbeats 8000000 in
theorem supwrite_any (Z : Nat → Prop) (d : Nat) (st : Dk) (b : Blk) (w : World) (hD : DkIn w Z d st) (hw : b.Wf) (hwr : st.writes + 1 ≤ 4611686018427387904) :
    Calls Try.prog 21 #[.pointer (some ⟨d, 0, none⟩), b.val] w fun e w' => e = .returned (.int .i64 (supWE st b)) ∧ ∃ Z', DkIn w' Z' d (supWS st b) ∧ Tnd Z Z' w w' := by
  have HFIT : Hid (supE b = 0 → fitB st b = true → st.off = false → wrE (flushS st) (b.ep % 2) (supV b) = (if st.armed = 1 then 8 else 0) ∧ wrS (flushS st) (b.ep % 2) (supV b) = (if st.armed = 1 then cutS (flushS st) st.keep else putS (flushS st) (b.ep % 2) (supV b))) := fun h1 h2 h3 => sup_fit h1 h2 h3
  have HW := Lib.hid hw
  have hep := hw.ep
  obtain ⟨WE, hWE⟩ : ∃ x, supWE st b = x := ⟨_, rfl⟩
  obtain ⟨WS, hWS⟩ : ∃ x, supWS st b = x := ⟨_, rfl⟩
  rw [hWE, hWS]
  obtain ⟨E1, hE1⟩ : ∃ x, supE b = x := ⟨_, rfl⟩
  obtain ⟨V, hV⟩ : ∃ x, supV b = x := ⟨_, rfl⟩
  obtain ⟨FB, hFB⟩ : ∃ x, fitB st b = x := ⟨_, rfl⟩
  unfold supWE at hWE
  unfold supWS at hWS
  rw [hE1, hFB] at hWE hWS
  rw [hV] at hWS
  have HWE := Lib.hid hWE
  have HWS := Lib.hid hWS
  have HE1 := Lib.hid hE1
  have HV := Lib.hid hV
  have HFB := Lib.hid hFB
  have hVL : E1 = 0 → 64 ≤ V.length ∧ V.length ≤ 4096 := fun h => by rw [← hV]; exact (supV_len (by rw [hE1, h])).2
  have HVL := Lib.hid hVL
  clear hw hWE hWS hE1 hV hFB hVL
  have HENC : Hid (∀ w1, Calls Try.prog 9 #[b.val] w1 fun e w' => ∃ v, e = .returned (.tuple #[v, .int .i64 E1]) ∧ Owns .u8 5 w' w1.heap.size v V ∧ Below w1.heap.size w1 w') := fun w1 => by
    have := supenc_any b w1 HW.out
    unfold GivesSec at this
    rw [HE1.out, HV.out] at this
    exact this
  have HFITS : Hid (∀ w1, DkIn w1 Z d st → Calls Try.prog 61 #[.pointer (some ⟨d, 0, none⟩), .agg #[.int .i64 b.c0, .int .i64 b.c1, .int .i64 b.c2, .int .i64 b.c3, .int .i64 b.c4, .int .i64 b.c5, .int .i64 b.c6, .int .i64 b.c7, .int .i64 b.c8]] w1 fun e w' => e = .returned (.bool FB) ∧ Below w1.heap.size w1 w') := fun w1 h => by
    have := fits_any Z d st b w1 h
    rw [HFB.out] at this
    exact this
  have hzl := hD.1
  have HD := Lib.hid hD
  clear hD
  obtain ⟨ep, f0, f1, f2, f3, f4, f5, f6, f7, f8, rs, rn, sq⟩ := b
  replace hep : 0 ≤ ep ∧ ep ≤ 18446744073709551615 := hep
  have HSL : Hid (∀ w1, Calls Try.prog 16 #[.int .u64 ep] w1 fun e w' => e = .returned (.int .i64 (ep % 2)) ∧ w1 = w') := fun w1 => slot_any ep w1 hep
  replace HENC : Hid (∀ w1, Calls Try.prog 9 #[.agg #[.int .u64 ep, .int .i64 f0, .int .i64 f1, .int .i64 f2, .int .i64 f3, .int .i64 f4, .int .i64 f5, .int .i64 f6, .int .i64 f7, .int .i64 f8, .int .i64 rs, .int .i64 rn, .int .u64 sq]] w1 fun e w' => ∃ v, e = .returned (.tuple #[v, .int .i64 E1]) ∧ Owns .u8 5 w' w1.heap.size v V ∧ Below w1.heap.size w1 w') := HENC
  replace HFITS : Hid (∀ w1, DkIn w1 Z d st → Calls Try.prog 61 #[.pointer (some ⟨d, 0, none⟩), .agg #[.int .i64 f0, .int .i64 f1, .int .i64 f2, .int .i64 f3, .int .i64 f4, .int .i64 f5, .int .i64 f6, .int .i64 f7, .int .i64 f8]] w1 fun e w' => e = .returned (.bool FB) ∧ Below w1.heap.size w1 w') := HFITS
  show Calls _ _ #[_, .agg #[.int .u64 ep, .int .i64 f0, .int .i64 f1, .int .i64 f2, .int .i64 f3, .int .i64 f4, .int .i64 f5, .int .i64 f6, .int .i64 f7, .int .i64 f8, .int .i64 rs, .int .i64 rn, .int .u64 sq]] _ _
  have hba : Below w.heap.size w (w.alloc (.cells #[.int .u64 ep, .int .i64 f0, .int .i64 f1, .int .i64 f2, .int .i64 f3, .int .i64 f4, .int .i64 f5, .int .i64 f6, .int .i64 f7, .int .i64 f8, .int .i64 rs, .int .i64 rn, .int .u64 sq] 28)) := (Below.refl _ _).alloc (Nat.le_refl _) _
  have hrow := heap_alloc_new w (.cells #[.int .u64 ep, .int .i64 f0, .int .i64 f1, .int .i64 f2, .int .i64 f3, .int .i64 f4, .int .i64 f5, .int .i64 f6, .int .i64 f7, .int .i64 f8, .int .i64 rs, .int .i64 rn, .int .u64 sq] 28)
  have HDa := Lib.hid (HD.out.below hba)
  have hta := below_tnd hba Z
  obtain ⟨hb, hhb⟩ : ∃ hb, w.heap.size = hb := ⟨_, rfl⟩
  obtain ⟨wa, hwa⟩ : ∃ wa, w.alloc (.cells #[.int .u64 ep, .int .i64 f0, .int .i64 f1, .int .i64 f2, .int .i64 f3, .int .i64 f4, .int .i64 f5, .int .i64 f6, .int .i64 f7, .int .i64 f8, .int .i64 rs, .int .i64 rn, .int .u64 sq] 28) = wa := ⟨_, rfl⟩
  rw [hwa, hhb] at hrow
  rw [hwa] at HDa hta
  rw [hhb] at hzl
  have HTA := Lib.hid hta
  have HROW := Lib.hid hrow
  have HHB := Lib.hid hhb
  have HWA := Lib.hid hwa
  have HZ := Lib.hid hzl
  have hlt : hb < wa.heap.size := (Array.getElem?_eq_some_iff.1 hrow).1
  clear hrow hhb hwa hta hzl
  go_enter Try.func21, Try.ntmps21
  go_wp2_with fail
  rw [HWA.out, HHB.out]
  refine (HENC.out wa).mono ?_
  rintro e w1 ⟨v1, rfl, ho1, hb1⟩
  obtain ⟨n1, hn1⟩ : ∃ n1, V.length = n1 := ⟨_, rfl⟩
  obtain ⟨a1, c1, rfl⟩ := ho1.shapeN n1 hn1
  have D1 := Lib.hid (HDa.out.below hb1)
  have T1 := Lib.hid (HTA.out.trans (below_tnd hb1 Z))
  have ROW1 := Lib.hid (row_keep HROW.out hb1)
  have O1 := Lib.hid ho1
  have HN1 := Lib.hid hn1
  clear ho1 hb1 hn1
  by_cases h1 : E1 = 0
  rotate_left
  · have d1 : (E1 != 0) = true := by simpa using h1
    have hA : WE = E1 := by rw [← HWE.out, if_pos h1]
    have hB : WS = st := by rw [← HWS.out, if_pos h1]
    subst hA hB
    clear h1
    go_wp2_with fail
    go_ret
    exact ⟨rfl, Z, D1.out, T1.out⟩
  subst h1
  obtain ⟨z0, z1, z2, z3, z4, z5, z6, z7, z8, z9, z10, z11, z12⟩ := cells13 ROW1.out
  go_wp2_with fail
  refine (HFITS.out w1 D1.out).mono ?_
  rintro e w2 ⟨rfl, hb2⟩
  have D2 := Lib.hid (D1.out.below hb2)
  have T2 := Lib.hid (T1.out.trans (below_tnd hb2 Z))
  have ROW2 := Lib.hid (row_keep ROW1.out hb2)
  have O2 := Lib.hid (O1.out.below hb2)
  clear hb2 z0 z1 z2 z3 z4 z5 z6 z7 z8 z9 z10 z11 z12
  cases FB with
  | false =>
    have hA : WE = 1 := by rw [← HWE.out]; rfl
    have hB : WS = st := by rw [← HWS.out]; rfl
    subst hA hB
    go_wp2_with fail
    go_ret
    exact ⟨rfl, Z, D2.out, T2.out⟩
  | true =>
    obtain ⟨z0, z1, z2, z3, z4, z5, z6, z7, z8, z9, z10, z11, z12⟩ := cells13 ROW2.out
    go_wp2_with fail
    refine (flush_any Z d st w2 D2.out).mono ?_
    rintro e w3 ⟨rfl, hd3, ht3⟩
    clear z0 z1 z2 z3 z4 z5 z6 z7 z8 z9 z10 z11 z12
    have T3 := Lib.hid (T2.out.trans ht3)
    have ROW3 := Lib.hid (row_tnd ROW2.out ht3 (fun hz => by have := HZ.out hb hz; omega))
    have O3 := Lib.hid (rd_tnd O2.out.rd ht3 (fun q hq hn hz => by have h2 := owns_ge (q := q) (by rw [← hq]; exact O2.out) hn; have h3 := HZ.out _ hz; omega))
    clear ht3
    cases ho : st.off with
    | true =>
      have hA : WE = 8 := by rw [← HWE.out, ho]; rfl
      have hB : WS = st := by rw [← HWS.out, ho]; rfl
      rw [ho] at hd3
      have D3 := Lib.hid hd3
      subst hA hB
      clear ho hd3
      go_wp2_with fail
      go_ret
      exact ⟨rfl, Z, D3.out, T3.out⟩
    | false =>
      obtain ⟨hf1, hf2⟩ := HFIT.out HE1.out HFB.out ho
      rw [HV.out] at hf1 hf2
      replace hf1 : wrE (flushS st) (ep % 2) V = if st.armed = 1 then 8 else 0 := hf1
      replace hf2 : wrS (flushS st) (ep % 2) V = if st.armed = 1 then cutS (flushS st) st.keep else putS (flushS st) (ep % 2) V := hf2
      rw [ho] at hd3
      replace hd3 : DkIn w3 Z d (flushS st) := hd3
      have D3 := Lib.hid hd3
      have HF1 := Lib.hid hf1
      have HF2 := Lib.hid hf2
      have HO := Lib.hid ho
      clear hd3 hf1 hf2 ho
      obtain ⟨z0, z1, z2, z3, z4, z5, z6, z7, z8, z9, z10, z11, z12⟩ := cells13 ROW3.out
      go_wp2_with (go_at_call 16; refine (HSL.out _).mono ?_; rintro e w' ⟨rfl, rfl⟩)
      refine (write_any Z d (flushS st) (ep % 2) a1 n1 c1 V w3 D3.out O3.out (fun q hq hz => by have h2 := owns_ge (q := q) (by rw [← hq]; exact O1.out) (by have := HVL.out trivial; rw [HN1.out] at this; omega); have h3 := HZ.out _ hz; omega) (by omega) (by omega) (by show (0 : Nat) + 1 ≤ _; omega) hwr).mono ?_
      rintro e w4 ⟨rfl, Z', hd4, ht4⟩
      rw [HF1.out]
      rw [HF2.out] at hd4
      have T4 := Lib.hid (T3.out.trans ht4)
      clear ht4 z0 z1 z2 z3 z4 z5 z6 z7 z8 z9 z10 z11 z12
      by_cases ha : st.armed = 1
      · have hA : WE = 8 := by rw [← HWE.out, HO.out, if_pos ha]; rfl
        have hB : WS = cutS (flushS st) st.keep := by rw [← HWS.out, HO.out, if_pos ha]; rfl
        rw [if_pos ha] at hd4
        rw [if_pos ha]
        have D4 := Lib.hid hd4
        subst hA hB
        clear hd4 ha
        go_wp2_with fail
        go_ret
        exact ⟨rfl, Z', D4.out, T4.out⟩
      · have hA : WE = 0 := by rw [← HWE.out, HO.out, if_neg ha]; rfl
        have hB : WS = flushS (putS (flushS st) (ep % 2) V) := by rw [← HWS.out, HO.out, if_neg ha]; rfl
        rw [if_neg ha] at hd4
        rw [if_neg ha]
        have D4 := Lib.hid hd4
        subst hA hB
        clear hd4 ha
        go_wp2_with fail
        refine (flush_any Z' d _ w4 D4.out).mono ?_
        rintro e w5 ⟨rfl, hd5, ht5⟩
        have hoff : (putS (flushS st) (ep % 2) V).off = false := HO.out
        rw [hoff] at hd5 ⊢
        have D5 : Hid (DkIn w5 Z' d (flushS (putS (flushS st) (ep % 2) V))) := hd5
        have T5 := Lib.hid (T4.out.trans ht5)
        clear hd5 ht5 hoff
        go_wp2_with fail
        go_ret
        exact ⟨rfl, Z', D5.out, T5.out⟩
end Go.Proofs.Ytcbnebcooiagmaa
namespace Go.Proofs.Ytcbnebcooiagmaa
open Go.RowKit
def keyL (b : Blk) : List Int := if supE b = 0 then putL (rnum (sumB (supV b))) 4 else [0, 0, 0, 0]
def keyA (S : Int) (k : Nat) : Array Value := #[.int .u8 (if 0 < k then S % 256 else 0), .int .u8 (if 1 < k then S / 256 % 256 else 0), .int .u8 (if 2 < k then S / 65536 % 256 else 0), .int .u8 (if 3 < k then S / 16777216 else 0)]
theorem keyA_0 (S : Int) : keyA S 0 = #[.int .u8 0, .int .u8 0, .int .u8 0, .int .u8 0] := rfl
theorem keyA_1 (S : Int) : keyA S 1 = #[.int .u8 (S % 256), .int .u8 0, .int .u8 0, .int .u8 0] := rfl
theorem keyA_2 (S : Int) : keyA S 2 = #[.int .u8 (S % 256), .int .u8 (S / 256 % 256), .int .u8 0, .int .u8 0] := rfl
theorem keyA_3 (S : Int) : keyA S 3 = #[.int .u8 (S % 256), .int .u8 (S / 256 % 256), .int .u8 (S / 65536 % 256), .int .u8 0] := rfl
theorem keyA_4 (S : Int) : keyA S 4 = #[.int .u8 (S % 256), .int .u8 (S / 256 % 256), .int .u8 (S / 65536 % 256), .int .u8 (S / 16777216)] := rfl
theorem cells4 {w : World} {b T : Nat} {x0 x1 x2 x3 : Value} (h : w.heap[b]? = some (.cells #[x0, x1, x2, x3] T (0, 0))) : w.cell? ⟨b, 0, none⟩ = some x0 ∧ w.cell? ⟨b, 1, none⟩ = some x1 ∧ w.cell? ⟨b, 2, none⟩ = some x2 ∧ w.cell? ⟨b, 3, none⟩ = some x3 :=
  ⟨by rw [cell_of_row w _ _ _ _ _ h]; rfl, by rw [cell_of_row w _ _ _ _ _ h]; rfl, by rw [cell_of_row w _ _ _ _ _ h]; rfl, by rw [cell_of_row w _ _ _ _ _ h]; rfl⟩
theorem fold4 (x0 x1 x2 x3 y0 y1 y2 y3 : Value) : List.foldl (fun (c : Array Value) (p : Nat × Value) => c.setIfInBounds p.1 p.2) #[x0, x1, x2, x3] [(0, y0), (1, y1), (2, y2), (3, y3)] = #[y0, y1, y2, y3] := by
  simp only [List.foldl_cons, List.foldl_nil, List.setIfInBounds_toArray, List.set_cons_zero, List.set_cons_succ]
/-- Four bytes as an array's value. -/
def keyV (l : List Int) : Value := .agg (l.map (Value.int .u8)).toArray
set_option linter.unusedSimpArgs false in
set_option linter.unusedVariables false in
set_option maxRecDepth 100000 in
set_option maxHeartbeats 8000000 in
theorem key_any (b : Blk) (w : World) (hw : b.Wf) : Calls Try.prog 14 #[b.val] w fun e w' => e = .returned (keyV (keyL b)) ∧ Below w.heap.size w w' := by
  obtain ⟨E1, hE1⟩ : ∃ x, supE b = x := ⟨_, rfl⟩
  obtain ⟨V, hV⟩ : ∃ x, supV b = x := ⟨_, rfl⟩
  have HENC : Hid (∀ w1, Calls Try.prog 9 #[b.val] w1 fun e w' => ∃ v, e = .returned (.tuple #[v, .int .i64 E1]) ∧ Owns .u8 5 w' w1.heap.size v V ∧ Below w1.heap.size w1 w') := fun w1 => by
    have := supenc_any b w1 hw
    unfold GivesSec at this
    rw [hE1, hV] at this
    exact this
  obtain ⟨KL, hKL⟩ : ∃ x, keyL b = x := ⟨_, rfl⟩
  rw [hKL]
  unfold keyL at hKL
  rw [hE1, hV] at hKL
  have HKL := Lib.hid hKL
  clear hE1 hV hKL hw
  obtain ⟨ep, f0, f1, f2, f3, f4, f5, f6, f7, f8, rs, rn, sq⟩ := b
  replace HENC : Hid (∀ w1, Calls Try.prog 9 #[.agg #[.int .u64 ep, .int .i64 f0, .int .i64 f1, .int .i64 f2, .int .i64 f3, .int .i64 f4, .int .i64 f5, .int .i64 f6, .int .i64 f7, .int .i64 f8, .int .i64 rs, .int .i64 rn, .int .u64 sq]] w1 fun e w' => ∃ v, e = .returned (.tuple #[v, .int .i64 E1]) ∧ Owns .u8 5 w' w1.heap.size v V ∧ Below w1.heap.size w1 w') := HENC
  show Calls _ _ #[.agg #[.int .u64 ep, .int .i64 f0, .int .i64 f1, .int .i64 f2, .int .i64 f3, .int .i64 f4, .int .i64 f5, .int .i64 f6, .int .i64 f7, .int .i64 f8, .int .i64 rs, .int .i64 rn, .int .u64 sq]] _ _
  have hba : Below w.heap.size w (((w.alloc (.cells #[.int .u64 ep, .int .i64 f0, .int .i64 f1, .int .i64 f2, .int .i64 f3, .int .i64 f4, .int .i64 f5, .int .i64 f6, .int .i64 f7, .int .i64 f8, .int .i64 rs, .int .i64 rn, .int .u64 sq] 28)).alloc (.cells #[.int .u8 0, .int .u8 0, .int .u8 0, .int .u8 0] 42)).alloc (.cells #[.int .u8 0, .int .u8 0, .int .u8 0, .int .u8 0] 42)) := (((Below.refl _ _).alloc (Nat.le_refl _) _).alloc (by simp) _).alloc (by simp; omega) _
  have hrb : (((w.alloc (.cells #[.int .u64 ep, .int .i64 f0, .int .i64 f1, .int .i64 f2, .int .i64 f3, .int .i64 f4, .int .i64 f5, .int .i64 f6, .int .i64 f7, .int .i64 f8, .int .i64 rs, .int .i64 rn, .int .u64 sq] 28)).alloc (.cells #[.int .u8 0, .int .u8 0, .int .u8 0, .int .u8 0] 42)).alloc (.cells #[.int .u8 0, .int .u8 0, .int .u8 0, .int .u8 0] 42)).heap[w.heap.size + 1]? = some (.cells #[.int .u8 0, .int .u8 0, .int .u8 0, .int .u8 0] 42 (0, 0)) := by
    rw [heap_old _ _ (by simp)]
    have := heap_alloc_new (w.alloc (.cells #[.int .u64 ep, .int .i64 f0, .int .i64 f1, .int .i64 f2, .int .i64 f3, .int .i64 f4, .int .i64 f5, .int .i64 f6, .int .i64 f7, .int .i64 f8, .int .i64 rs, .int .i64 rn, .int .u64 sq] 28)) (.cells #[.int .u8 0, .int .u8 0, .int .u8 0, .int .u8 0] 42)
    simpa using this
  have hkb : (((w.alloc (.cells #[.int .u64 ep, .int .i64 f0, .int .i64 f1, .int .i64 f2, .int .i64 f3, .int .i64 f4, .int .i64 f5, .int .i64 f6, .int .i64 f7, .int .i64 f8, .int .i64 rs, .int .i64 rn, .int .u64 sq] 28)).alloc (.cells #[.int .u8 0, .int .u8 0, .int .u8 0, .int .u8 0] 42)).alloc (.cells #[.int .u8 0, .int .u8 0, .int .u8 0, .int .u8 0] 42)).heap[w.heap.size + 1 + 1]? = some (.cells #[.int .u8 0, .int .u8 0, .int .u8 0, .int .u8 0] 42 (0, 0)) := by
    have := heap_alloc_new ((w.alloc (.cells #[.int .u64 ep, .int .i64 f0, .int .i64 f1, .int .i64 f2, .int .i64 f3, .int .i64 f4, .int .i64 f5, .int .i64 f6, .int .i64 f7, .int .i64 f8, .int .i64 rs, .int .i64 rn, .int .u64 sq] 28)).alloc (.cells #[.int .u8 0, .int .u8 0, .int .u8 0, .int .u8 0] 42)) (.cells #[.int .u8 0, .int .u8 0, .int .u8 0, .int .u8 0] 42)
    simpa using this
  obtain ⟨hb, hhb⟩ : ∃ hb, w.heap.size = hb := ⟨_, rfl⟩
  obtain ⟨wa, hwa⟩ : ∃ wa, (((w.alloc (.cells #[.int .u64 ep, .int .i64 f0, .int .i64 f1, .int .i64 f2, .int .i64 f3, .int .i64 f4, .int .i64 f5, .int .i64 f6, .int .i64 f7, .int .i64 f8, .int .i64 rs, .int .i64 rn, .int .u64 sq] 28)).alloc (.cells #[.int .u8 0, .int .u8 0, .int .u8 0, .int .u8 0] 42)).alloc (.cells #[.int .u8 0, .int .u8 0, .int .u8 0, .int .u8 0] 42)) = wa := ⟨_, rfl⟩
  rw [hwa, hhb] at hba hrb hkb
  have HBA := Lib.hid hba
  have HR0 := Lib.hid hrb
  have HK0 := Lib.hid hkb
  have HHB := Lib.hid hhb
  have HWA := Lib.hid hwa
  have hlt := (Array.getElem?_eq_some_iff.1 hkb).1
  clear hba hrb hkb hhb hwa
  go_enter Try.func14, Try.ntmps14
  go_wp2_with fail
  rw [HWA.out, HHB.out]
  refine (HENC.out wa).mono ?_
  rintro e w1 ⟨v1, rfl, ho1, hb1⟩
  obtain ⟨n1, hn1⟩ : ∃ n1, V.length = n1 := ⟨_, rfl⟩
  obtain ⟨a1, c1, rfl⟩ := ho1.shapeN n1 hn1
  have HR1 := Lib.hid (row_keep HR0.out hb1)
  have HK1 := Lib.hid (row_keep HK0.out hb1)
  have HB1 := Lib.hid (Below.trans HBA.out (hb1.mono (by omega)))
  have O1 := Lib.hid ho1
  clear ho1 hb1 hn1
  by_cases h1 : E1 = 0
  rotate_left
  · have d1 : (E1 != 0) = true := by simpa using h1
    have hL : KL = [0, 0, 0, 0] := by rw [← HKL.out, if_neg h1]
    subst hL
    clear h1
    obtain ⟨y0, y1, y2, y3⟩ := cells4 HK1.out
    obtain ⟨x0, x1, x2, x3⟩ := cells4 HR1.out
    have hrf : ∀ i, w1.frozen? ⟨hb + 1, i, none⟩ = false := fun i => frozen_of_row w1 _ i _ _ HR1.out
    go_wp2_with fail
    change bodyPost _ _ _ _ _ (sets w1 (hb + 1) [(0, .int .u8 0), (1, .int .u8 0), (2, .int .u8 0), (3, .int .u8 0)])
    have hrow := sets_row [(0, .int .u8 0), (1, .int .u8 0), (2, .int .u8 0), (3, .int .u8 0)] HR1.out
    have hbel : Below hb w (sets w1 (hb + 1) [(0, .int .u8 0), (1, .int .u8 0), (2, .int .u8 0), (3, .int .u8 0)]) := HB1.out.grown (sets_grown _ _) (by have := (Array.getElem?_eq_some_iff.1 HR1.out).1; omega) (fun q hq => by injection hq with hq; omega)
    generalize sets w1 (hb + 1) [(0, .int .u8 0), (1, .int .u8 0), (2, .int .u8 0), (3, .int .u8 0)] = w19 at *
    rw [fold4] at hrow
    clear x0 x1 x2 x3 hrf
    obtain ⟨x0, x1, x2, x3⟩ := cells4 hrow
    refine bodyPost_ret (v := .agg #[.int .u8 0, .int .u8 0, .int .u8 0, .int .u8 0]) (by simp [results, Try.results14, go_sem, x0, x1, x2, x3]) rfl ?_
    rw [HHB.out]
    exact ⟨rfl, hbel⟩
  subst h1
  obtain ⟨S, hS⟩ : ∃ S, rnum (sumB V) = S := ⟨_, rfl⟩
  have hS0 : 0 ≤ S ∧ S ≤ 4294967295 := by rw [← hS]; exact u32_bd _
  have hL : KL = [S % 256, S / 256 % 256, S / 65536 % 256, S / 16777216] := by
    have h9 : S / 16777216 % 256 = S / 16777216 := by omega
    rw [← HKL.out, if_pos rfl, hS]
    simp [putL, h9]
  subst hL
  have HS := Lib.hid hS
  clear hS
  go_wp2_with fail
  refine (sum_one _ _ V _ (PartsAt.one O1.out.rd _)).mono ?_
  rintro e w2 ⟨rfl, hb2⟩
  rw [HS.out]
  have hal := (Below.refl w1.heap.size w1).alloc (Nat.le_refl _) (.cells #[.slice a1 n1 c1] 29)
  have HR2 := Lib.hid (row_keep (row_keep HR1.out hal) hb2)
  have HK2 := Lib.hid (row_keep (row_keep HK1.out hal) hb2)
  have HB2 : Hid (Below hb w w2) := Below.trans HB1.out (Below.mono (Below.call hal hb2) (by have := (Array.getElem?_eq_some_iff.1 HR1.out).1; omega))
  clear hal hb2
  go_wp2_with fail
  go_loopw [19] (fun i wr => ∃ k : Nat, k ≤ 4 ∧ i = .int .i64 k ∧ Hid (wr.heap[hb + 1 + 1]? = some (.cells (keyA S k) 42 (0, 0))) ∧ Hid (wr.heap[hb + 1]? = some (.cells #[.int .u8 0, .int .u8 0, .int .u8 0, .int .u8 0] 42 (0, 0))) ∧ Hid (Below hb w wr)) (fun i _ => 4 - (intOf i).toNat)
  case atStart => exact ⟨0, by omega, rfl, HK2, HR2, HB2⟩
  case round =>
    clear HK2 HR2 HB2
    obtain ⟨k, hk, rfl, HK, HR, HB⟩ := hrel
    have hK := HK.out
    have hkk : k = 0 ∨ k = 1 ∨ k = 2 ∨ k = 3 ∨ k = 4 := by omega
    rcases hkk with hk4 | hk4 | hk4 | hk4 | hk4
    · subst hk4
      replace hK : wr.heap[hb + 1 + 1]? = some (.cells (keyA S 0) 42 (0, 0)) := hK
      rw [keyA_0] at hK
      obtain ⟨y0, y1, y2, y3⟩ := cells4 hK
      have hkf : ∀ i, wr.frozen? ⟨hb + 1 + 1, i, none⟩ = false := fun i => frozen_of_row wr _ i _ _ hK
      have hK2 := heap_setCell_same wr (hb + 1 + 1) 0 _ _ (.int .u8 (S % 256)) hK
      have HB2 : Hid (Below hb w (wr.setCell ⟨hb + 1 + 1, 0, none⟩ (.int .u8 (S % 256)))) := HB.out.grown (rcell_grown _ _ _ _) (by have := (Array.getElem?_eq_some_iff.1 hK).1; omega) (fun q hq => by injection hq with hq; omega)
      have HR2 := Lib.hid (((rcell_grown wr (hb + 1 + 1) 0 (.int .u8 (S % 256))).block (hb + 1) (Array.getElem?_eq_some_iff.1 HR.out).1 (fun e => by injection e with e; omega)).trans HR.out)
      have HK2 := Lib.hid hK2
      clear hK hK2
      go_wp2_with fail
      clear y0 y1 y2 y3 hkf
      go_roundw
      case rel => exact ⟨1, by omega, rfl, by rw [keyA_1]; exact HK2.out, HR2, HB2⟩
      case measure => simp [intOf]
    · subst hk4
      replace hK : wr.heap[hb + 1 + 1]? = some (.cells (keyA S 1) 42 (0, 0)) := hK
      rw [keyA_1] at hK
      obtain ⟨y0, y1, y2, y3⟩ := cells4 hK
      have hkf : ∀ i, wr.frozen? ⟨hb + 1 + 1, i, none⟩ = false := fun i => frozen_of_row wr _ i _ _ hK
      have hK2 := heap_setCell_same wr (hb + 1 + 1) 1 _ _ (.int .u8 (S / 256 % 256)) hK
      have HB2 : Hid (Below hb w (wr.setCell ⟨hb + 1 + 1, 1, none⟩ (.int .u8 (S / 256 % 256)))) := HB.out.grown (rcell_grown _ _ _ _) (by have := (Array.getElem?_eq_some_iff.1 hK).1; omega) (fun q hq => by injection hq with hq; omega)
      have HR2 := Lib.hid (((rcell_grown wr (hb + 1 + 1) 1 (.int .u8 (S / 256 % 256))).block (hb + 1) (Array.getElem?_eq_some_iff.1 HR.out).1 (fun e => by injection e with e; omega)).trans HR.out)
      have HK2 := Lib.hid hK2
      clear hK hK2
      go_wp2_with fail
      clear y0 y1 y2 y3 hkf
      go_roundw
      case rel => exact ⟨2, by omega, rfl, by rw [keyA_2]; exact HK2.out, HR2, HB2⟩
      case measure => simp [intOf]
    · subst hk4
      replace hK : wr.heap[hb + 1 + 1]? = some (.cells (keyA S 2) 42 (0, 0)) := hK
      rw [keyA_2] at hK
      obtain ⟨y0, y1, y2, y3⟩ := cells4 hK
      have hkf : ∀ i, wr.frozen? ⟨hb + 1 + 1, i, none⟩ = false := fun i => frozen_of_row wr _ i _ _ hK
      have hK2 := heap_setCell_same wr (hb + 1 + 1) 2 _ _ (.int .u8 (S / 65536 % 256)) hK
      have HB2 : Hid (Below hb w (wr.setCell ⟨hb + 1 + 1, 2, none⟩ (.int .u8 (S / 65536 % 256)))) := HB.out.grown (rcell_grown _ _ _ _) (by have := (Array.getElem?_eq_some_iff.1 hK).1; omega) (fun q hq => by injection hq with hq; omega)
      have HR2 := Lib.hid (((rcell_grown wr (hb + 1 + 1) 2 (.int .u8 (S / 65536 % 256))).block (hb + 1) (Array.getElem?_eq_some_iff.1 HR.out).1 (fun e => by injection e with e; omega)).trans HR.out)
      have HK2 := Lib.hid hK2
      clear hK hK2
      go_wp2_with fail
      clear y0 y1 y2 y3 hkf
      go_roundw
      case rel => exact ⟨3, by omega, rfl, by rw [keyA_3]; exact HK2.out, HR2, HB2⟩
      case measure => simp [intOf]
    · subst hk4
      replace hK : wr.heap[hb + 1 + 1]? = some (.cells (keyA S 3) 42 (0, 0)) := hK
      rw [keyA_3] at hK
      obtain ⟨y0, y1, y2, y3⟩ := cells4 hK
      have hkf : ∀ i, wr.frozen? ⟨hb + 1 + 1, i, none⟩ = false := fun i => frozen_of_row wr _ i _ _ hK
      have hK2 := heap_setCell_same wr (hb + 1 + 1) 3 _ _ (.int .u8 (S / 16777216)) hK
      have HB2 : Hid (Below hb w (wr.setCell ⟨hb + 1 + 1, 3, none⟩ (.int .u8 (S / 16777216)))) := HB.out.grown (rcell_grown _ _ _ _) (by have := (Array.getElem?_eq_some_iff.1 hK).1; omega) (fun q hq => by injection hq with hq; omega)
      have HR2 := Lib.hid (((rcell_grown wr (hb + 1 + 1) 3 (.int .u8 (S / 16777216))).block (hb + 1) (Array.getElem?_eq_some_iff.1 HR.out).1 (fun e => by injection e with e; omega)).trans HR.out)
      have HK2 := Lib.hid hK2
      clear hK hK2
      go_wp2_with fail
      clear y0 y1 y2 y3 hkf
      go_roundw
      case rel => exact ⟨4, by omega, rfl, by rw [keyA_4]; exact HK2.out, HR2, HB2⟩
      case measure => simp [intOf]
    · subst hk4
      replace hK : wr.heap[hb + 1 + 1]? = some (.cells (keyA S 4) 42 (0, 0)) := hK
      rw [keyA_4] at hK
      obtain ⟨y0, y1, y2, y3⟩ := cells4 hK
      obtain ⟨x0, x1, x2, x3⟩ := cells4 HR.out
      have hrf : ∀ i, wr.frozen? ⟨hb + 1, i, none⟩ = false := fun i => frozen_of_row wr _ i _ _ HR.out
      go_wp2_with fail
      change bodyPost _ _ _ _ _ (sets wr (hb + 1) [(0, .int .u8 (S % 256)), (1, .int .u8 (S / 256 % 256)), (2, .int .u8 (S / 65536 % 256)), (3, .int .u8 (S / 16777216))])
      have hrow := sets_row [(0, .int .u8 (S % 256)), (1, .int .u8 (S / 256 % 256)), (2, .int .u8 (S / 65536 % 256)), (3, .int .u8 (S / 16777216))] HR.out
      have hbel : Below hb w (sets wr (hb + 1) [(0, .int .u8 (S % 256)), (1, .int .u8 (S / 256 % 256)), (2, .int .u8 (S / 65536 % 256)), (3, .int .u8 (S / 16777216))]) := HB.out.grown (sets_grown _ _) (by have := (Array.getElem?_eq_some_iff.1 HR.out).1; omega) (fun q hq => by injection hq with hq; omega)
      generalize sets wr (hb + 1) [(0, .int .u8 (S % 256)), (1, .int .u8 (S / 256 % 256)), (2, .int .u8 (S / 65536 % 256)), (3, .int .u8 (S / 16777216))] = w19 at *
      rw [fold4] at hrow
      clear x0 x1 x2 x3 y0 y1 y2 y3 hrf hK HK HR HB
      obtain ⟨x0, x1, x2, x3⟩ := cells4 hrow
      refine bodyPost_ret (v := .agg #[.int .u8 (S % 256), .int .u8 (S / 256 % 256), .int .u8 (S / 65536 % 256), .int .u8 (S / 16777216)]) (by simp [results, Try.results14, go_sem, x0, x1, x2, x3]) rfl ?_
      rw [HHB.out]
      exact ⟨rfl, hbel⟩
end Go.Proofs.Ytcbnebcooiagmaa
namespace Go.Proofs.Ytcbnebcooiagmaa
open Go.RowKit
set_option maxRecDepth 100000 in
theorem eq_four (w : World) (a b c d e f g h : Int) :
    ((Op.equalIn 10000 42 (.agg #[.int .u8 a, .int .u8 b, .int .u8 c, .int .u8 d]) (.agg #[.int .u8 e, .int .u8 f, .int .u8 g, .int .u8 h])).run Try.prog w) = .ok (a == e && (b == f && (c == g && d == h))) w := by
  have hi : Try.prog.info? 5 = some _ := rfl
  have hu : Try.prog.underlying 42 = some (.array 4 5) := by kernel_rfl
  have hb : Try.prog.underlying 5 = some (.int .u8) := by kernel_rfl
  have hc : Try.prog.cellsOf 5 = 1 := by kernel_rfl
  rw [show (10000 : Nat) = 9999 + 1 from rfl, run_equalIn_array w 9999 _ _ hu hi, hc]
  have hk : Try.prog.plainKey 5 = true := by kernel_rfl
  have hp : ∀ (w : World) (xs : Array Value) (i : Nat) (v : Value), xs[i * 1]? = some v → (part 5 xs (i * 1)).run Try.prog w = .ok v w := fun w xs i v hv => run_part_plain w hk hv
  have he : ∀ (w : World) (x y : Int), (Op.equalIn 9999 5 (.int .u8 x) (.int .u8 y)).run Try.prog w = .ok (x == y) w := fun w x y => run_equalIn_int w 9998 _ _ _ x y hb
  rw [show List.range 4 = [0, 1, 2, 3] from rfl]
  have step : ∀ (w : World) (xs ys : Array Value) (i : Nat) (is : List Nat) (x y : Int), xs[i * 1]? = some (.int .u8 x) → ys[i * 1]? = some (.int .u8 y) → (Op.eqItems 9999 5 1 xs ys (i :: is)).run Try.prog w = if (x == y) = true then (Op.eqItems 9999 5 1 xs ys is).run Try.prog w else .ok false w := by
    intro w xs ys i is x y hx hy
    rw [Op.eqItems]
    simp only [Sem.run_bind, hp w xs i _ hx, hp w ys i _ hy, he, Result.andThen_ok]
    cases x == y <;> rfl
  rw [step w _ _ 0 _ a e rfl rfl, step w _ _ 1 _ b f rfl rfl, step w _ _ 2 _ c g rfl rfl, step w _ _ 3 _ d h rfl rfl]
  cases a == e <;> cases b == f <;> cases c == g <;> cases d == h <;> rfl
end Go.Proofs.Ytcbnebcooiagmaa
